/- A part of the proof. -/
import Derived.Test.YthflocfaafoohaaGreatP2
set_option linter.all false
set_option exponentiation.threshold 5000
set_option maxRecDepth 10000
section
namespace Go.Av
open Go.Proofs
instance:Inhabited RR:=⟨⟨false,[],false,[]⟩⟩
def rr (r:List RR) (i:Nat):RR:=r.getD i default
def Al {α:Type} (m:List (List α)) (i:Nat):List α:=m.getD i []
def Ct (r:List RR):List AV:=r.map RR.av
def A6 (r:List RR):AV:=.sl 4 (Ct r)
def A8 (m:List (List RR)):AV:=.sl 1 (m.map A6)
theorem Lx {r:List RR} {i:Nat} (h:i<r.length):rr r i=r[i]:=by unfold rr;rw[List.getD_eq_getElem?_getD,List.getElem?_eq_getElem h];rfl
theorem Gf {α:Type} {m:List (List α)} {i:Nat} (h:i<m.length):Al m i=m[i]:=by unfold Al;rw[List.getD_eq_getElem?_getD,List.getElem?_eq_getElem h];rfl
@[simp] theorem Qbe (r:List RR):(Ct r).length=r.length:=by simp[Ct]
@[simp] theorem Qws:Ct []=[]:=rfl
@[simp] theorem rrs_get? {r:List RR} {i:Nat} (h:i<r.length):(Ct r)[i]?=some (rr r i).av:=by simp[Ct,Lx h,h]
@[simp] theorem Le (r:List RR) (i:Nat) (x:RR):(Ct r).set i x.av=Ct (r.set i x):=by simp[Ct,List.map_set]
@[simp] theorem Qrl (r:RR):r.av.cells=[.bool r.n1,Am r.l1,.bool r.n2,Am r.l2]:=(rfl)
@[simp] theorem Qvb (r:RR):F3 true 4 [.bool r.n1,Am r.l1,.bool r.n2,Am r.l2] 0=some r.av:=(rfl)
@[simp] theorem Qry (r:RR):r.av.isAny=false:=(rfl)
@[simp] theorem Qw0 (r:RR):(r.av=.any)=False:=by simp[RR.av]
theorem O8 (r:List RR):∀v∈Ct r,v.cells.all AV.one=true:=by
 intro v hv;obtain⟨x,_,rfl⟩:=List.mem_map.1 hv;rfl
@[simp] theorem Qwh (r:List RR):(Ct r).all (fun v=>v.cells.length==4&&v.cells.all AV.one)=true:=by
 rw[List.all_eq_true];intro v hv;obtain⟨x,_,rfl⟩:=List.mem_map.1 hv;rfl
@[simp] theorem Qsr (r:List RR):(A6 r).cells=[A6 r]:=(rfl)
@[simp] theorem Qwq (r:List RR):(A6 r).one=true:=(rfl)
@[simp] theorem Qsi (r:List RR):(A6 r).isAny=false:=(rfl)
@[simp] theorem Qsw (m:List (List RR)):(A8 m).isAny=false:=(rfl)
@[simp] theorem Qwr (m:List (List RR)):(A8 m).one=true:=(rfl)
@[simp] theorem Qtb (m:List (List RR)):(A8 m).cells=[A8 m]:=(rfl)
section
variable (size bytes:Nat) (e:TypeId) (zero:AV) (fs:List (Nat × Nat × Option Bool)) (k:IntKind) (n:Int)
@[simp] theorem Qrf (r:List RR):Jv ⟨size,bytes,.slice e,zero,fs⟩ (A6 r)=some (.int .i64 r.length):=by simp[A6]
@[simp] theorem Qrg (m:List (List RR)):Jv ⟨size,bytes,.slice e,zero,fs⟩ (A8 m)=some (.int .i64 m.length):=by simp[A8]
@[simp] theorem Qt8 (mm:Aa) (r:List RR):F0 mm 4 (A6 r)=some (Ct r):=by simp[A6,F0]
@[simp] theorem Qjc (P:Program) (r:List RR):Br P ⟨size,bytes,.slice e,zero,fs⟩ (A6 r) (.int k n)=(Ah P e).bind fun te=>if 4=te.size∧0≤n∧n<r.length then some (.rptr [.bool (rr r n.toNat).n1,Am (rr r n.toNat).l1,.bool (rr r n.toNat).n2,Am (rr r n.toNat).l2]) else none:=by
 unfold A6;rw[G4]
 congr 1
 funext te
 rw[Qbe];by_cases h:4=te.size∧0≤n∧n<r.length
 ·rw[if_pos h,if_pos h];have h1:n.toNat<r.length:=by omega
  rw[List.getD_eq_getElem?_getD,rrs_get? h1];rfl
 ·rw[if_neg h,if_neg h]
@[simp] theorem Qjg (P:Program) (m:List (List RR)):Br P ⟨size,bytes,.slice e,zero,fs⟩ (A8 m) (.int k n)=(Ah P e).bind fun te=>if 1=te.size∧0≤n∧n<m.length then some (.rptr [A6 (Al m n.toNat)]) else none:=by
 unfold A8;rw[G4]
 congr 1
 funext te
 rw[List.length_map];by_cases h:1=te.size∧0≤n∧n<m.length
 ·rw[if_pos h,if_pos h];have h1:n.toNat<m.length:=by omega
  rw[List.getD_eq_getElem?_getD,List.getElem?_map,List.getElem?_eq_getElem h1,Gf h1];rfl
 ·rw[if_neg h,if_neg h]
end
def Z4 (m:List (List RR)):Prop:=∀r∈m,∀x∈r,x.Lb
theorem Ls {r:List RR} (h:∀x∈r,x.Lb) (i:Nat):(rr r i).Lb:=by
 unfold rr;rw[List.getD_eq_getElem?_getD];cases hr:r[i]? with
 |none=>exact⟨fun x hx=>(by cases hx),fun x hx=>(by cases hx)⟩
 |some x=>exact h x (List.mem_of_getElem? hr)
theorem Z4.row {m:List (List RR)} (h:Z4 m) (i:Nat):∀x∈Al m i,x.Lb:=by
 unfold Al;rw[List.getD_eq_getElem?_getD];cases hr:m[i]? with
 |none=>intro x hx;cases hx
 |some r=>exact h r (List.mem_of_getElem? hr)
def J5 (m:List (List RR)):Prop:=∃k,k<m.length∧64<(Al m k).length
def Oe (m:List (List RR)):Prop:=∀k,k<m.length→(Al m k).length=(Al m 0).length∧∀j,j<(Al m k).length→(rr (Al m k) j).ok=true
open Classical in
noncomputable def chk (m:List (List RR)):Int:=if 64<m.length∨J5 m then 2 else if Oe m then 0 else 1
theorem Wq {m:List (List RR)} (h:64<m.length∨J5 m):chk m=2:=if_pos h
theorem Qio {m:List (List RR)} (h:¬(64<m.length∨J5 m)) (h2:Oe m):chk m=0:=by unfold chk;rw[if_neg h,if_pos h2]
theorem Vx {m:List (List RR)} (h:¬(64<m.length∨J5 m)) (h2:¬Oe m):chk m=1:=by unfold chk;rw[if_neg h,if_neg h2]
theorem Si (m:List (List RR)):Aj Tryz.prog 108 [A8 m] Aa.emp fun v mm=>v=.int .i64 ((Al m 0).length:Nat)∧mm=Aa.emp:=by
 refine Ad Tryz.func108 rfl rfl 10 rfl (Nat.le_of_ble_eq_true rfl) ?_;(repeat refine AW.seq_k fun K hK=>?_);refine AW.rg ?_;simp[Ak];try (refine hK _ rfl ?_;clear hK K)
 (repeat refine AW.seq_k fun K hK=>?_);refine AW.rg ?_;simp;try (refine hK _ rfl ?_;clear hK K)
 (repeat refine AW.seq ?_);refine AW.cs (fun h=>?_) (fun h=>?_) rfl<;>(try simp at h)
 ·subst h;(repeat refine AW.seq_k fun K hK=>?_);refine AW.rg ?_;simp;try (refine hK _ rfl ?_;clear hK K)
  exact AW.ret (Af rfl _ (.same _) ⟨by simp[Al],rfl⟩)
 ·refine AW.skip ?_;try simp
  refine hK _ rfl ?_;clear hK K;have h':0<m.length:=by
   rcases m with _|_
   ·simp at h
   ·simp
  (repeat refine AW.seq_k fun K hK=>?_);refine AW.rg ?_;simp[h'];try (refine hK _ rfl ?_;clear hK K)
  exact AW.ret (Af rfl _ (.same _) ⟨by rfl,rfl⟩)
theorem Qb9 (m:List (List RR)) (hm:Z4 m):Aj Tryz.prog 99 [A8 m] Aa.emp fun v mm=>v=.int .i64 (chk m)∧mm=Aa.emp:=by
 refine Ad Tryz.func99 rfl rfl 46 rfl (Nat.le_of_ble_eq_true rfl) ?_;(repeat refine AW.seq_k fun K hK=>?_);refine AW.rg ?_;simp[Ak];try (refine hK _ rfl ?_;clear hK K)
 (repeat refine AW.seq_k fun K hK=>?_);refine AW.rg ?_;simp;try (refine hK _ rfl ?_;clear hK K)
 (repeat refine AW.seq ?_);refine AW.cs (fun h64=>?_) (fun h64=>?_) rfl<;>(try simp at h64)
 ·(repeat refine AW.seq_k fun K hK=>?_);refine AW.rg ?_;simp;try (refine hK _ rfl ?_;clear hK K)
  exact AW.ret (Af rfl _ (.same _) ⟨by rw[Wq (.inl h64)];rfl,rfl⟩)
 ·refine AW.skip ?_;try simp
  refine hK _ rfl ?_;clear hK K;refine AW.seq_ex (ι:=Unit) (fun _=>[(0,A8 m)]) (fun _=>Aa.emp) (fun _=>¬J5 m) ?_ ?_
  ·(repeat refine AW.seq_k fun K hK=>?_);refine AW.rg ?_;simp;try (refine hK _ rfl ?_;clear hK K)
   refine AW.block (AW.loopS (ι:=Nat) (fun i=>[(0,A8 m),(12,A8 m),(13,.int .i64 (m.length:Nat)),(14,.int .i64 (i:Nat))]) (fun _=>Aa.emp)
    (fun i=>i≤m.length∧∀k,k<i→¬64<(Al m k).length) (fun i=>m.length-i) 0 ⟨by simp,by simp⟩ rfl (by simp) ?_)
   rintro i ⟨h1,h2⟩;(repeat refine AW.seq_k fun K hK=>?_);refine AW.rg ?_;simp;try (refine hK _ rfl ?_;clear hK K)
   refine AW.seq_k fun K hK=>?_;(repeat refine AW.seq ?_);refine AW.cs (fun hi=>?_) (fun hi=>?_) rfl<;>(try simp at hi)
   ·refine AW.skip ?_;try simp
    refine hK _ rfl ?_;clear hK K;have w1:=Aq (i+1) (by omega);refine AW.seq_ex (ι:=Unit) (fun _=>[(0,A8 m),(12,A8 m),(13,.int .i64 (m.length:Nat)),(14,.int .i64 (i:Nat))]) (fun _=>Aa.emp) (fun _=>¬64<(Al m i).length) ?_ ?_
    ·(repeat refine AW.seq ?_);refine AW.block ?_;(repeat refine AW.seq_k fun K hK=>?_);refine AW.rg ?_;simp[hi];try (refine hK _ rfl ?_;clear hK K)
     (repeat refine AW.seq_k fun K hK=>?_);refine AW.rg ?_;simp;try (refine hK _ rfl ?_;clear hK K)
     (repeat refine AW.seq ?_);refine AW.cs (fun h3=>?_) (fun h3=>?_) rfl<;>(try simp at h3)
     ·(repeat refine AW.seq_k fun K hK=>?_);refine AW.rg ?_;simp;try (refine hK _ rfl ?_;clear hK K)
      exact AW.ret (Af rfl _ (.same _) ⟨by rw[Wq (.inr ⟨i,hi,h3⟩)];rfl,rfl⟩)
     ·refine AW.skip ?_;try simp
      omega
    ·rintro _ h3;(repeat refine AW.seq_k fun K hK=>?_);refine AW.rg ?_;simp[-Int.natCast_add,w1];try (refine hK _ rfl ?_;clear hK K)
     refine⟨⟨by omega,fun k hk=>?_⟩,by omega⟩;rcases Nat.lt_succ_iff_lt_or_eq.1 hk with h | rfl
     ·have:=h2 k h;omega
     ·omega
   ·refine AW.exit ?_;try simp
    rintro⟨k,hk,h⟩;exact h2 k (by omega) h
  rintro _ hbig;have hnb:¬(64<m.length∨J5 m):=fun h=>h.elim (by omega) hbig;refine AW.seq_ex (ι:=Unit) (fun _=>[]) (fun _=>Aa.emp) (fun _=>Oe m) ?_ ?_
  ·(repeat refine AW.seq_k fun K hK=>?_);refine AW.rg ?_;simp;try (refine hK _ rfl ?_;clear hK K)
   refine AW.block (AW.loopS (ι:=Nat) (fun i=>[(0,A8 m),(22,A8 m),(23,.int .i64 (m.length:Nat)),(24,.int .i64 (i:Nat))]) (fun _=>Aa.emp)
    (fun i=>i≤m.length∧∀k,k<i→(Al m k).length=(Al m 0).length∧∀j,j<(Al m k).length→(rr (Al m k) j).ok=true) (fun i=>m.length-i) 0 ⟨by simp,by simp⟩ rfl (by simp) ?_)
   rintro i ⟨h1,h2⟩;(repeat refine AW.seq_k fun K hK=>?_);refine AW.rg ?_;simp;try (refine hK _ rfl ?_;clear hK K)
   refine AW.seq_k fun K hK=>?_;(repeat refine AW.seq ?_);refine AW.cs (fun hi=>?_) (fun hi=>?_) rfl<;>(try simp at hi)
   ·refine AW.skip ?_;try simp
    refine hK _ rfl ?_;clear hK K;have w1:=Aq (i+1) (by omega);have h0:0<m.length:=by omega
    have hrow:(Al m i).length≤64:=by
     rcases Nat.lt_or_ge 64 (Al m i).length with h|h
     ·exact absurd ⟨i,hi,h⟩ hbig
     ·exact h
    refine AW.seq_ex (ι:=Unit) (fun _=>[(0,A8 m),(22,A8 m),(23,.int .i64 (m.length:Nat)),(24,.int .i64 (i:Nat))]) (fun _=>Aa.emp) (fun _=>(Al m i).length=(Al m 0).length∧∀j,j<(Al m i).length→(rr (Al m i) j).ok=true) ?_ ?_
    ·(repeat refine AW.seq ?_);refine AW.block ?_;(repeat refine AW.seq_k fun K hK=>?_);refine AW.rg ?_;simp[hi];try (refine hK _ rfl ?_;clear hK K)
     refine AW.seq_ex (ι:=Unit) (fun _=>[(0,A8 m),(22,A8 m),(23,.int .i64 (m.length:Nat)),(24,.int .i64 (i:Nat)),(6,A6 (Al m i))]) (fun _=>Aa.emp) (fun _=>(Al m i).length=(Al m 0).length) ?_ ?_
     ·(repeat refine AW.seq_k fun K hK=>?_);refine AW.rg ?_;simp[h0];try (refine hK _ rfl ?_;clear hK K)
      (repeat refine AW.seq ?_);refine AW.cs (fun h4=>?_) (fun h4=>?_) rfl<;>(try simp at h4)
      ·(repeat refine AW.seq_k fun K hK=>?_);refine AW.rg ?_;simp;try (refine hK _ rfl ?_;clear hK K)
       exact AW.ret (Af rfl _ (.same _) ⟨by rw[Vx hnb (fun h=>h4 (h i hi).1)];rfl,rfl⟩)
      ·refine AW.skip ?_;try simp
       exact h4
     rintro _ h4;(repeat refine AW.seq_k fun K hK=>?_);refine AW.rg ?_;simp;try (refine hK _ rfl ?_;clear hK K)
     refine AW.block (AW.loopS (ι:=Nat) (fun j=>[(0,A8 m),(22,A8 m),(23,.int .i64 (m.length:Nat)),(24,.int .i64 (i:Nat)),(6,A6 (Al m i)),(35,A6 (Al m i)),(36,.int .i64 ((Al m i).length:Nat)),(37,.int .i64 (j:Nat))]) (fun _=>Aa.emp)
      (fun j=>j≤(Al m i).length∧∀k,k<j→(rr (Al m i) k).ok=true) (fun j=>(Al m i).length-j) 0 ⟨by simp,by simp⟩ rfl (by simp) ?_)
     rintro j ⟨g1,g2⟩;(repeat refine AW.seq_k fun K hK=>?_);refine AW.rg ?_;simp;try (refine hK _ rfl ?_;clear hK K)
     refine AW.seq_k fun K hK=>?_;(repeat refine AW.seq ?_);refine AW.cs (fun hj=>?_) (fun hj=>?_) rfl<;>(try simp at hj)
     ·refine AW.skip ?_;try simp
      refine hK _ rfl ?_;clear hK K;have w2:=Aq (j+1) (by omega);have hv:=Fb (rr (Al m i) j) (Ls (hm.row i) j);refine AW.seq_ex (ι:=Unit) (fun _=>[(0,A8 m),(22,A8 m),(23,.int .i64 (m.length:Nat)),(24,.int .i64 (i:Nat)),(6,A6 (Al m i)),(35,A6 (Al m i)),(36,.int .i64 ((Al m i).length:Nat)),(37,.int .i64 (j:Nat))]) (fun _=>Aa.emp) (fun _=>(rr (Al m i) j).ok=true) ?_ ?_
      ·(repeat refine AW.seq ?_);refine AW.block ?_;(repeat refine AW.seq_k fun K hK=>?_);refine AW.rg ?_;simp[hj];try (refine hK _ rfl ?_;clear hK K)
       refine Ag.intro fun b8 _=>?_;try simp
       refine hK _ rfl ?_;clear hK K;(repeat refine AW.seq_k fun K hK=>?_);refine AW.rg ?_;simp;try (refine hK _ rfl ?_;clear hK K)
       refine Ac.val hv ?_;simp;refine hK _ rfl ?_;clear hK K;refine AW.toEmp [(0,A8 m),(22,A8 m),(23,.int .i64 (m.length:Nat)),(24,.int .i64 (i:Nat)),(6,A6 (Al m i)),(35,A6 (Al m i)),(36,.int .i64 ((Al m i).length:Nat)),(37,.int .i64 (j:Nat)),(43,.bool (!(rr (Al m i) j).ok))] (by simp) ?_;by_cases h5:(rr (Al m i) j).ok=true
       ·refine AW.no ?_ (by simp[h5]);exact AW.skip ⟨(),h5,rfl,rfl,by simp⟩
       ·refine AW.yes ?_ (by simp[h5]);(repeat refine AW.seq_k fun K hK=>?_);refine AW.rg ?_;simp;try (refine hK _ rfl ?_;clear hK K)
        exact AW.ret (Af rfl _ (.same _) ⟨by rw[Vx hnb (fun h=>h5 ((h i hi).2 j hj))];rfl,rfl⟩)
      ·rintro _ h5;(repeat refine AW.seq_k fun K hK=>?_);refine AW.rg ?_;simp[-Int.natCast_add,w2];try (refine hK _ rfl ?_;clear hK K)
       refine⟨⟨by omega,fun k hk=>?_⟩,by omega⟩;rcases Nat.lt_succ_iff_lt_or_eq.1 hk with h | rfl
       ·exact g2 k h
       ·exact h5
     ·refine AW.exit ?_;try simp
      exact⟨h4,fun k hk=>g2 k (by omega)⟩
    ·rintro _ h3;(repeat refine AW.seq_k fun K hK=>?_);refine AW.rg ?_;simp[-Int.natCast_add,w1];try (refine hK _ rfl ?_;clear hK K)
     refine⟨⟨by omega,fun k hk=>?_⟩,by omega⟩;rcases Nat.lt_succ_iff_lt_or_eq.1 hk with h | rfl
     ·exact h2 k h
     ·exact h3
   ·refine AW.exit ?_;try simp
    exact fun k hk=>h2 k (by omega)
  rintro _ hok;(repeat refine AW.seq_k fun K hK=>?_);refine AW.rg ?_;simp;try (refine hK _ rfl ?_;clear hK K)
  exact AW.ret (Af rfl _ (.same _) ⟨by rw[Qio hnb hok];rfl,rfl⟩)
end Go.Av
end
section
namespace Go.Av
open Go.Proofs
@[simp] theorem Qj6 (b z i j:Nat):Jm (.ptr b z i j)=some (.ptr b z i j):=(rfl)
@[simp] theorem Qjj (l:List AV):Jm (.rptr l)=some (.rptr l):=(rfl)
def RR.q (r:RR):Rat:=mkRat (if r.n1=true then -(val r.l1:Int) else val r.l1) (val r.l2)
theorem Gt (q:Rat):(Be q).q=q:=by
 unfold RR.q Be;simp only[A2,decide_eq_true_eq];have:(if q.num<0 then -(q.num.natAbs:Int) else (q.num.natAbs:Int))=q.num:=by split<;>omega
 rw[this,Rat.mkRat_self]
theorem Ek {r:RR} (hl:r.Lb) (h:r.ok=true):B4 r.q∧r=Be r.q:=by
 obtain⟨q,h1,h2⟩:=Qo7 hl h;subst h2;rw[Gt];exact⟨h1,rfl⟩
theorem Pk {r:RR} (hl:r.Lb) (h:r.ok=true):r.av=Jx r.q:=by
 have:=(Ek hl h).2
 calc r.av=(Be r.q).av:=by rw[←this]
  _=Jx r.q:=rfl
def Tr:RR:=⟨false,[],false,[]⟩
theorem Vu:Tr.av=Cp:=rfl
theorem Qkd:Tr.Lb:=⟨fun x hx=>(by cases hx),fun x hx=>(by cases hx)⟩
def C2 (e:Int) (a:RR) (q:Option Rat):Int × RR:=if e=0 then (match q with | some q=>(0,Be q) | none=>(2,Tr)) else (e,a)
theorem Vn {e:Int} {a:RR} {q:Option Rat} (h:a.Lb):(C2 e a q).2.Lb:=by
 unfold C2;split
 ·cases q with
  |none=>exact Qkd
  |some q=>exact F2 q
 ·exact h
def L6 (c:Nat) (x:AV):Aa:=Aa.emp.set c ⟨118,1,[x]⟩
def Ge (x:AV) (e:Int):Prop:=x.cells=[.int .i64 e]
theorem Ms (c:Nat) (x:AV) (e f:Int) (hx:Ge x e) (r:RR):Aj Tryz.prog 158 [.ptr c 1 0 0,r.av,.int .i64 f] (L6 c x) fun v m=>v=r.av∧∃x',Ge x' (if e=0 then f else e)∧m=L6 c x':=by
 unfold Ge at hx;unfold RR.av L6;refine Ad Tryz.func158 rfl rfl 17 rfl (Nat.le_of_ble_eq_true rfl) ?_;(repeat refine AW.seq_k fun K hK=>?_);refine AW.rgR [4] ?_;simp[Ak];try (refine hK _ rfl ?_;clear hK K)
 refine Ag.intro fun b6 hb6=>?_;simp only[Ap,Az,and_true]at hb6;refine hK _ rfl ?_;clear hK K;refine AW.seq_ex (ι:=AV) (fun x'=>[(0,.ptr c 1 0 0),(4,.rptr [.bool r.n1,Am r.l1,.bool r.n2,Am r.l2]),(6,.ptr b6 4 0 0)]) (fun x'=>(Aa.emp.set c ⟨118,1,[x']⟩).set b6 ⟨44,4,[.agg [.bool false,.nil,.bool false,.nil]]⟩) (fun x'=>Ge x' (if e=0 then f else e)) ?_ ?_
 ·(repeat refine AW.seq_k fun K hK=>?_);refine AW.rg ?_;simp[hb6,hx];try (refine hK _ rfl ?_;clear hK K)
  (repeat refine AW.seq ?_);refine AW.cs (fun he=>?_) (fun he=>?_) rfl<;>(try simp at he)
  ·(repeat refine AW.seq_k fun K hK=>?_);refine AW.rg ?_;simp[hb6,hx];try (refine hK _ rfl ?_;clear hK K)
   refine⟨.int .i64 f,by simp[Ge,he],?_⟩;rw[Xm _ hb6.2]
  ·refine AW.skip ⟨x,?_,rfl,rfl,by simp⟩;simp[Ge,he];exact hx
 rintro x' hx';(repeat refine AW.seq_k fun K hK=>?_);refine AW.rg ?_;simp[hb6];try (refine hK _ rfl ?_;clear hK K)
 refine AW.ret (C3 (vs:=[.agg [.bool r.n1,Am r.l1,.bool r.n2,Am r.l2]]) [.agg [.bool r.n1,Am r.l1,.bool r.n2,Am r.l2]] c ⟨118,1,[x']⟩ (by simp[hb6]) (by simp[hb6]) ?_ (Bb _ _ _) ⟨rfl,x',hx',rfl⟩);intro v hv;simp at hv;subst hv;unfold Ge at hx';rw[hx'];rfl
theorem Qfd (c:Nat) (x:AV) (e:Int) (hx:Ge x e) (a b:RR) (ha:a.Lb) (hb:b.Lb) (h:e=0→a.ok=true∧b.ok=true):Aj Tryz.prog 146 [.ptr c 1 0 0,a.av,b.av] (L6 c x) fun v m=>v=(C2 e a (Dj a.q b.q)).2.av∧∃x',Ge x' (C2 e a (Dj a.q b.q)).1∧m=L6 c x':=by
 have hone:∀x' e',Ge x' e'→∀v∈(⟨118,1,[x']⟩:Et).l,v.cells.all AV.one=true:=by
  intro x' e' hx' v hv;simp at hv;subst hv;unfold Ge at hx';rw[hx'];rfl
 have hone:=hone;have hx0:=hx;unfold Ge at hx;by_cases he:e=0
 ·obtain⟨o1,o2⟩:=h he;obtain⟨g1,e1⟩:=Ek ha o1;obtain⟨g2,e2⟩:=Ek hb o2;have hr:=Ld a.q b.q g1 g2;rw[←Pk ha o1,←Pk hb o2]at hr;have hk:=Ms c x e;subst he;generalize Dj a.q b.q=q at *;unfold L6 at hk ⊢;unfold RR.av at hr ⊢;refine Ad Tryz.func146 rfl rfl 20 rfl (Nat.le_of_ble_eq_true rfl) ?_;(repeat refine AW.seq_k fun K hK=>?_);refine AW.rgR [4,5] ?_;simp[Ak];try (refine hK _ rfl ?_;clear hK K)
  refine Ag.intro fun b6 hb6=>?_;simp only[Ap,Az,and_true]at hb6;refine hK _ rfl ?_;clear hK K;(repeat refine AW.seq_k fun K hK=>?_);refine AW.rg ?_;simp[hb6,hx];try (refine hK _ rfl ?_;clear hK K)
  refine AW.no ?_ rfl;refine AW.skip ?_;try simp
  refine hK _ rfl ?_;clear hK K;cases q with
  |none =>
   (repeat refine AW.seq_k fun K hK=>?_);refine AW.rg ?_;simp[hb6];try (refine hK _ rfl ?_;clear hK K)
   refine Ac.val hr ?_;simp[Fk,Cp];have hk2:=hk 2 hx0 Tr;refine Ac.grant (R:=fun v y=>v=Tr.av∧∃x',Ge x' 2∧y=⟨118,1,[x']⟩) c ⟨118,1,[x]⟩ (by simp[hb6]) (by simp) (hk2.mono fun v m ⟨h1,x',h2,h3⟩=>⟨_,⟨h1,x',h2,rfl⟩,h3⟩) ?_;rintro _ _ ⟨rfl,x',hx',rfl⟩;simp[hb6,Vu,Cp];refine hK _ rfl ?_;clear hK K;refine AW.ret (C3 (vs:=[Cp]) [Cp] c ⟨118,1,[x']⟩ (by simp[hb6,Cp]) (by simp[hb6]) (hone x' 2 hx') (Bb _ _ _) ⟨rfl,x',hx',rfl⟩)
  |some q =>
   (repeat refine AW.seq_k fun K hK=>?_);refine AW.rg ?_;simp[hb6];try (refine hK _ rfl ?_;clear hK K)
   refine Ac.val hr ?_;simp[Fk];have hk2:=hk 0 hx0 (Be q);refine Ac.grant (R:=fun v y=>v=(Be q).av∧∃x',Ge x' 0∧y=⟨118,1,[x']⟩) c ⟨118,1,[x]⟩ (by simp[hb6]) (by simp) (hk2.mono fun v m ⟨h1,x',h2,h3⟩=>⟨_,⟨h1,x',h2,rfl⟩,h3⟩) ?_;rintro _ _ ⟨rfl,x',hx',rfl⟩;simp[hb6];refine hK _ rfl ?_;clear hK K;refine AW.ret (C3 (vs:=[(Be q).av]) [(Be q).av] c ⟨118,1,[x']⟩ (by simp[hb6,RR.av]) (by simp[hb6]) (hone x' 0 hx') (Bb _ _ _) ⟨rfl,x',hx',rfl⟩)
 ·have e3:C2 e a (Dj a.q b.q)=(e,a):=if_neg he;rw[e3];unfold L6;unfold RR.av;refine Ad Tryz.func146 rfl rfl 20 rfl (Nat.le_of_ble_eq_true rfl) ?_;(repeat refine AW.seq_k fun K hK=>?_);refine AW.rgR [4,5] ?_;simp[Ak];try (refine hK _ rfl ?_;clear hK K)
  refine Ag.intro fun b6 hb6=>?_;simp only[Ap,Az,and_true]at hb6;refine hK _ rfl ?_;clear hK K;(repeat refine AW.seq_k fun K hK=>?_);refine AW.rg ?_;simp[hb6,hx];try (refine hK _ rfl ?_;clear hK K)
  refine AW.yes ?_ (by simp[he]);(repeat refine AW.seq_k fun K hK=>?_);refine AW.rg ?_;simp[hb6];try (refine hK _ rfl ?_;clear hK K)
  refine AW.ret (C3 (vs:=[.agg [.bool a.n1,Am a.l1,.bool a.n2,Am a.l2]]) [.agg [.bool a.n1,Am a.l1,.bool a.n2,Am a.l2]] c ⟨118,1,[x]⟩ (by simp[hb6]) (by simp[hb6]) (hone x e hx0) (Bb _ _ _) ⟨rfl,x,hx0,rfl⟩)
theorem Qe4 (c:Nat) (x:AV) (e:Int) (hx:Ge x e) (a b:RR) (ha:a.Lb) (hb:b.Lb) (h:e=0→a.ok=true∧b.ok=true):Aj Tryz.prog 111 [.ptr c 1 0 0,a.av,b.av] (L6 c x) fun v m=>v=(C2 e a (Em a.q b.q)).2.av∧∃x',Ge x' (C2 e a (Em a.q b.q)).1∧m=L6 c x':=by
 have hone:∀x' e',Ge x' e'→∀v∈(⟨118,1,[x']⟩:Et).l,v.cells.all AV.one=true:=by
  intro x' e' hx' v hv;simp at hv;subst hv;unfold Ge at hx';rw[hx'];rfl
 have hone:=hone;have hx0:=hx;unfold Ge at hx;by_cases he:e=0
 ·obtain⟨o1,o2⟩:=h he;obtain⟨g1,e1⟩:=Ek ha o1;obtain⟨g2,e2⟩:=Ek hb o2;have hr:=Qee a.q b.q g1 g2;rw[←Pk ha o1,←Pk hb o2]at hr;have hk:=Ms c x e;subst he;generalize Em a.q b.q=q at *;unfold L6 at hk ⊢;unfold RR.av at hr ⊢;refine Ad Tryz.func111 rfl rfl 20 rfl (Nat.le_of_ble_eq_true rfl) ?_;(repeat refine AW.seq_k fun K hK=>?_);refine AW.rgR [4,5] ?_;simp[Ak];try (refine hK _ rfl ?_;clear hK K)
  refine Ag.intro fun b6 hb6=>?_;simp only[Ap,Az,and_true]at hb6;refine hK _ rfl ?_;clear hK K;(repeat refine AW.seq_k fun K hK=>?_);refine AW.rg ?_;simp[hb6,hx];try (refine hK _ rfl ?_;clear hK K)
  refine AW.no ?_ rfl;refine AW.skip ?_;try simp
  refine hK _ rfl ?_;clear hK K;cases q with
  |none =>
   (repeat refine AW.seq_k fun K hK=>?_);refine AW.rg ?_;simp[hb6];try (refine hK _ rfl ?_;clear hK K)
   refine Ac.val hr ?_;simp[Fk,Cp];have hk2:=hk 2 hx0 Tr;refine Ac.grant (R:=fun v y=>v=Tr.av∧∃x',Ge x' 2∧y=⟨118,1,[x']⟩) c ⟨118,1,[x]⟩ (by simp[hb6]) (by simp) (hk2.mono fun v m ⟨h1,x',h2,h3⟩=>⟨_,⟨h1,x',h2,rfl⟩,h3⟩) ?_;rintro _ _ ⟨rfl,x',hx',rfl⟩;simp[hb6,Vu,Cp];refine hK _ rfl ?_;clear hK K;refine AW.ret (C3 (vs:=[Cp]) [Cp] c ⟨118,1,[x']⟩ (by simp[hb6,Cp]) (by simp[hb6]) (hone x' 2 hx') (Bb _ _ _) ⟨rfl,x',hx',rfl⟩)
  |some q =>
   (repeat refine AW.seq_k fun K hK=>?_);refine AW.rg ?_;simp[hb6];try (refine hK _ rfl ?_;clear hK K)
   refine Ac.val hr ?_;simp[Fk];have hk2:=hk 0 hx0 (Be q);refine Ac.grant (R:=fun v y=>v=(Be q).av∧∃x',Ge x' 0∧y=⟨118,1,[x']⟩) c ⟨118,1,[x]⟩ (by simp[hb6]) (by simp) (hk2.mono fun v m ⟨h1,x',h2,h3⟩=>⟨_,⟨h1,x',h2,rfl⟩,h3⟩) ?_;rintro _ _ ⟨rfl,x',hx',rfl⟩;simp[hb6];refine hK _ rfl ?_;clear hK K;refine AW.ret (C3 (vs:=[(Be q).av]) [(Be q).av] c ⟨118,1,[x']⟩ (by simp[hb6,RR.av]) (by simp[hb6]) (hone x' 0 hx') (Bb _ _ _) ⟨rfl,x',hx',rfl⟩)
 ·have e3:C2 e a (Em a.q b.q)=(e,a):=if_neg he;rw[e3];unfold L6;unfold RR.av;refine Ad Tryz.func111 rfl rfl 20 rfl (Nat.le_of_ble_eq_true rfl) ?_;(repeat refine AW.seq_k fun K hK=>?_);refine AW.rgR [4,5] ?_;simp[Ak];try (refine hK _ rfl ?_;clear hK K)
  refine Ag.intro fun b6 hb6=>?_;simp only[Ap,Az,and_true]at hb6;refine hK _ rfl ?_;clear hK K;(repeat refine AW.seq_k fun K hK=>?_);refine AW.rg ?_;simp[hb6,hx];try (refine hK _ rfl ?_;clear hK K)
  refine AW.yes ?_ (by simp[he]);(repeat refine AW.seq_k fun K hK=>?_);refine AW.rg ?_;simp[hb6];try (refine hK _ rfl ?_;clear hK K)
  refine AW.ret (C3 (vs:=[.agg [.bool a.n1,Am a.l1,.bool a.n2,Am a.l2]]) [.agg [.bool a.n1,Am a.l1,.bool a.n2,Am a.l2]] c ⟨118,1,[x]⟩ (by simp[hb6]) (by simp[hb6]) (hone x e hx0) (Bb _ _ _) ⟨rfl,x,hx0,rfl⟩)
theorem Qek (c:Nat) (x:AV) (e:Int) (hx:Ge x e) (a b:RR) (ha:a.Lb) (hb:b.Lb) (h:e=0→a.ok=true∧b.ok=true∧b.q≠0):Aj Tryz.prog 145 [.ptr c 1 0 0,a.av,b.av] (L6 c x) fun v m=>v=(C2 e a (Gq a.q b.q)).2.av∧∃x',Ge x' (C2 e a (Gq a.q b.q)).1∧m=L6 c x':=by
 have hone:∀x' e',Ge x' e'→∀v∈(⟨118,1,[x']⟩:Et).l,v.cells.all AV.one=true:=by
  intro x' e' hx' v hv;simp at hv;subst hv;unfold Ge at hx';rw[hx'];rfl
 have hone:=hone;have hx0:=hx;unfold Ge at hx;by_cases he:e=0
 ·obtain⟨o1,o2,o3⟩:=h he;obtain⟨g1,e1⟩:=Ek ha o1;obtain⟨g2,e2⟩:=Ek hb o2;have hr:=Qev a.q b.q g1 g2 o3;rw[←Pk ha o1,←Pk hb o2]at hr;have hk:=Ms c x e;subst he;generalize Gq a.q b.q=q at *;unfold L6 at hk ⊢;unfold RR.av at hr ⊢;refine Ad Tryz.func145 rfl rfl 20 rfl (Nat.le_of_ble_eq_true rfl) ?_;(repeat refine AW.seq_k fun K hK=>?_);refine AW.rgR [4,5] ?_;simp[Ak];try (refine hK _ rfl ?_;clear hK K)
  refine Ag.intro fun b6 hb6=>?_;simp only[Ap,Az,and_true]at hb6;refine hK _ rfl ?_;clear hK K;(repeat refine AW.seq_k fun K hK=>?_);refine AW.rg ?_;simp[hb6,hx];try (refine hK _ rfl ?_;clear hK K)
  refine AW.no ?_ rfl;refine AW.skip ?_;try simp
  refine hK _ rfl ?_;clear hK K;cases q with
  |none =>
   (repeat refine AW.seq_k fun K hK=>?_);refine AW.rg ?_;simp[hb6];try (refine hK _ rfl ?_;clear hK K)
   refine Ac.val hr ?_;simp[Fk,Cp];have hk2:=hk 2 hx0 Tr;refine Ac.grant (R:=fun v y=>v=Tr.av∧∃x',Ge x' 2∧y=⟨118,1,[x']⟩) c ⟨118,1,[x]⟩ (by simp[hb6]) (by simp) (hk2.mono fun v m ⟨h1,x',h2,h3⟩=>⟨_,⟨h1,x',h2,rfl⟩,h3⟩) ?_;rintro _ _ ⟨rfl,x',hx',rfl⟩;simp[hb6,Vu,Cp];refine hK _ rfl ?_;clear hK K;refine AW.ret (C3 (vs:=[Cp]) [Cp] c ⟨118,1,[x']⟩ (by simp[hb6,Cp]) (by simp[hb6]) (hone x' 2 hx') (Bb _ _ _) ⟨rfl,x',hx',rfl⟩)
  |some q =>
   (repeat refine AW.seq_k fun K hK=>?_);refine AW.rg ?_;simp[hb6];try (refine hK _ rfl ?_;clear hK K)
   refine Ac.val hr ?_;simp[Fk];have hk2:=hk 0 hx0 (Be q);refine Ac.grant (R:=fun v y=>v=(Be q).av∧∃x',Ge x' 0∧y=⟨118,1,[x']⟩) c ⟨118,1,[x]⟩ (by simp[hb6]) (by simp) (hk2.mono fun v m ⟨h1,x',h2,h3⟩=>⟨_,⟨h1,x',h2,rfl⟩,h3⟩) ?_;rintro _ _ ⟨rfl,x',hx',rfl⟩;simp[hb6];refine hK _ rfl ?_;clear hK K;refine AW.ret (C3 (vs:=[(Be q).av]) [(Be q).av] c ⟨118,1,[x']⟩ (by simp[hb6,RR.av]) (by simp[hb6]) (hone x' 0 hx') (Bb _ _ _) ⟨rfl,x',hx',rfl⟩)
 ·have e3:C2 e a (Gq a.q b.q)=(e,a):=if_neg he;rw[e3];unfold L6;unfold RR.av;refine Ad Tryz.func145 rfl rfl 20 rfl (Nat.le_of_ble_eq_true rfl) ?_;(repeat refine AW.seq_k fun K hK=>?_);refine AW.rgR [4,5] ?_;simp[Ak];try (refine hK _ rfl ?_;clear hK K)
  refine Ag.intro fun b6 hb6=>?_;simp only[Ap,Az,and_true]at hb6;refine hK _ rfl ?_;clear hK K;(repeat refine AW.seq_k fun K hK=>?_);refine AW.rg ?_;simp[hb6,hx];try (refine hK _ rfl ?_;clear hK K)
  refine AW.yes ?_ (by simp[he]);(repeat refine AW.seq_k fun K hK=>?_);refine AW.rg ?_;simp[hb6];try (refine hK _ rfl ?_;clear hK K)
  refine AW.ret (C3 (vs:=[.agg [.bool a.n1,Am a.l1,.bool a.n2,Am a.l2]]) [.agg [.bool a.n1,Am a.l1,.bool a.n2,Am a.l2]] c ⟨118,1,[x]⟩ (by simp[hb6]) (by simp[hb6]) (hone x e hx0) (Bb _ _ _) ⟨rfl,x,hx0,rfl⟩)
end Go.Av
end
section
namespace Go.Av
open Go.Proofs
def Ql (n:Int):Rat:=Rat.divInt n 1
theorem It:Ql 0=0:=Rat.zero_divInt 1
theorem Ir:Ql 1=1:=by decide
theorem Ur {n:Int} (h:n.natAbs<18446744073709551616):B4 (Ql n):=Gg (Rs h) (by decide) (by omega)
theorem Mb (n:Int) (h1:-9223372036854775808≤n) (h2:n<9223372036854775808):Aj Tryz.prog 152 [.int .i64 n] Aa.emp fun v m=>v=(Be (Ql n)).av∧m=Aa.emp:=by
 have ho:=Qc1 n 1 h1 h2 (by omega) (by omega) (by omega);have e:Rat.divInt n 1=Ql n:=rfl;rw[e,Fk]at ho;generalize Ql n=q at *;rw[Ia];unfold Jx at *;refine Ad Tryz.func152 rfl rfl 11 rfl (Nat.le_of_ble_eq_true rfl) ?_;(repeat refine AW.seq_k fun K hK=>?_);refine AW.rg ?_;simp[Ak];try (refine hK _ rfl ?_;clear hK K)
 refine Ag.intro fun b2 _=>?_;refine hK _ rfl ?_;clear hK K;(repeat refine AW.seq_k fun K hK=>?_);refine AW.rg ?_;simp;try (refine hK _ rfl ?_;clear hK K)
 refine Ac.val ho ?_;simp;refine Ag.intro fun b3 hb3=>?_;simp only[Ap,Az,and_true]at hb3;try simp[hb3]
 refine hK _ rfl ?_;clear hK K;(repeat refine AW.seq_k fun K hK=>?_);refine AW.rg ?_;simp[hb3];try (refine hK _ rfl ?_;clear hK K)
 exact AW.ret (Ai (vs:=[.agg [.bool (decide (q.num<0)),Am (Ao q.num.natAbs),.bool false,Am (Ao q.den)]]) [.agg [.bool (decide (q.num<0)),Am (Ao q.num.natAbs),.bool false,Am (Ao q.den)]] (by simp[hb3]) (by simp) ⟨rfl,rfl⟩)
section
variable {P:Program} {av:Nat→Prop} {f:FuncId} {args:List AV} {m:Aa} {k:AV→Aa→Prop}
theorem Ac.make {R:Nat→AV→Et→Prop} (h:Aj P f args Aa.emp fun v m'=>∃b x,R b v x∧m'=Aa.emp.set b x) (hk:∀b v x,R b v x→m b=none→¬av b→k v (m.set b x)):Ac P av f args m k:=by
 refine .inl ⟨Aa.emp,_,fun c y hy=>(by cases hy),h,?_⟩;rintro v g' ⟨b,x,hr,rfl⟩ hf;have hb:=hf b (by simp);rcases hb with hb | ⟨h1,h2⟩
 ·exact absurd rfl hb
 ·have e:Eg m Aa.emp (Aa.emp.set b x)=m.set b x:=by
   funext c
   unfold Eg;simp only[A3,Az];by_cases hc:c=b
   ·simp[hc]
   ·simp[hc]
  rw[e];exact hk b v x hr h1 h2
end
def Qhp:AV:=.agg [.bool false,.nil,.bool false,.nil]
def Kr (l:List RR) (i n:Nat):List AV:=Ct (l.take i)++List.replicate (n-i) Qhp
theorem Sc (l:List RR) (n:Nat):Kr l 0 n=List.replicate n Qhp:=by simp[Kr]
theorem Rr (l:List RR):Kr l l.length l.length=Ct l:=by simp[Kr]
theorem Sm (l:List RR) (i:Nat) (h:i<l.length):(Kr l i l.length).set i (rr l i).av=Kr l (i+1) l.length:=by
 unfold Kr;have hl:(Ct (l.take i)).length=i:=by simp;omega
 rw[List.set_append_right _ _ (by omega),hl,Nat.sub_self,show l.length-i=(l.length-(i+1))+1 by omega,List.replicate_succ,List.set_cons_zero];have e:l.take (i+1)=l.take i++[l[i]]:=by rw[List.take_add_one,List.getElem?_eq_getElem h];rfl
 rw[e];simp only[Ct,List.map_append,List.append_assoc,List.map_cons,List.map_nil,List.cons_append,List.nil_append,Lx h]
@[simp] theorem fillL_get? {l:List RR} {i:Nat} (h:i<l.length):(Kr l i l.length)[i]?=some Qhp:=by
 unfold Kr;have hl:(Ct (l.take i)).length=i:=by simp;omega
 rw[List.getElem?_append_right (by omega),hl,Nat.sub_self,show l.length-i=(l.length-(i+1))+1 by omega,List.replicate_succ];rfl
theorem Xb (n:Nat) (hn:n<2^40):Aj Tryz.prog 109 [.int .i64 n] Aa.emp fun v m=>∃b x,(v=.osl b 4 0 n∧x=⟨44,4,Ct (List.replicate n (Be 0))⟩)∧m=Aa.emp.set b x:=by
 have hw:=Mb 0 (by omega) (by omega);rw[It]at hw;generalize hl:List.replicate n (Be 0)=l at *;have hlen:l.length=n:=by rw[←hl];simp
 have hget:∀i,i<n→rr l i=Be 0:=by
  intro i hi;rw[Lx (by omega)];subst hl;simp
 generalize Be 0=z at *;clear hl;subst hlen;refine Ad Tryz.func109 rfl rfl 18 rfl (Nat.le_of_ble_eq_true rfl) ?_;(repeat refine AW.seq_k fun K hK=>?_);refine AW.rg ?_;simp[Ak];try (refine hK _ rfl ?_;clear hK K)
 (repeat refine AW.seq_k fun K hK=>?_);refine AW.rg ?_;simp[-Int.natCast_mul];try (refine hK _ rfl ?_;clear hK K)
 refine⟨by omega,Ag.intro fun b _=>?_⟩;refine hK _ rfl ?_;clear hK K;refine AW.seq_has [(3,.osl b 4 0 l.length)] (Aa.emp.set b ⟨44,4,Ct l⟩) ?_ ?_
 ·(repeat refine AW.seq_k fun K hK=>?_);refine AW.rg ?_;simp;try (refine hK _ rfl ?_;clear hK K)
  refine AW.block (AW.loopS (ι:=Nat) (fun i=>[(3,.osl b 4 0 l.length),(8,.int .i64 (l.length:Nat)),(9,.int .i64 (i:Nat))]) (fun i=>Aa.emp.set b ⟨44,4,Kr l i l.length⟩)
   (fun i=>i≤l.length) (fun i=>l.length-i) 0 (by simp) (by rw[Sc];rfl) (by simp) ?_)
  intro i h1;(repeat refine AW.seq_k fun K hK=>?_);refine AW.rg ?_;simp;try (refine hK _ rfl ?_;clear hK K)
  refine AW.seq_k fun K hK=>?_;(repeat refine AW.seq ?_);refine AW.cs (fun hi=>?_) (fun hi=>?_) rfl<;>(try simp at hi)
  ·refine AW.skip ?_;try simp
   refine hK _ rfl ?_;clear hK K;have w1:=Aq (i+1) (by omega);(repeat refine AW.seq ?_);refine AW.block ?_;(repeat refine AW.seq_k fun K hK=>?_);refine AW.rg ?_;simp;try (refine hK _ rfl ?_;clear hK K)
   (repeat refine AW.seq_k fun K hK=>?_);refine AW.rg ?_;simp[hi];try (refine hK _ rfl ?_;clear hK K)
   refine Ac.val hw ?_;simp[hi,Qhp];rw[←hget i hi,Sm l i hi];(repeat refine AW.seq_k fun K hK=>?_);refine AW.rg ?_;simp[-Int.natCast_add,w1];try (refine hK _ rfl ?_;clear hK K)
   exact⟨i+1,hi,by omega,rfl,rfl⟩
  ·refine AW.exit ?_;try simp
   have:i=l.length:=by omega
   subst this;rw[Rr]
 (repeat refine AW.seq_k fun K hK=>?_);refine AW.rg ?_;simp;try (refine hK _ rfl ?_;clear hK K)
 exact AW.ret (B0 rfl (R5 (O8 l)) ⟨b,_,⟨rfl,rfl⟩,rfl⟩)
theorem Xe (l:List RR) (hl:∀x∈l,x.l1.length<2^40∧x.l2.length<2^40) (hn:l.length<2^40):Aj Tryz.prog 143 [A6 l] Aa.emp fun v m=>∃b x,(v=.osl b 4 0 l.length∧x=⟨44,4,Ct l⟩)∧m=Aa.emp.set b x:=by
 refine Ad Tryz.func143 rfl rfl 23 rfl (Nat.le_of_ble_eq_true rfl) ?_;(repeat refine AW.seq_k fun K hK=>?_);refine AW.rg ?_;simp[Ak];try (refine hK _ rfl ?_;clear hK K)
 (repeat refine AW.seq_k fun K hK=>?_);refine AW.rg ?_;simp[-Int.natCast_mul];try (refine hK _ rfl ?_;clear hK K)
 refine⟨by omega,Ag.intro fun b _=>?_⟩;refine hK _ rfl ?_;clear hK K;refine AW.seq_has [(3,.osl b 4 0 l.length)] (Aa.emp.set b ⟨44,4,Ct l⟩) ?_ ?_
 ·(repeat refine AW.seq_k fun K hK=>?_);refine AW.rg ?_;simp;try (refine hK _ rfl ?_;clear hK K)
  refine AW.block (AW.loopS (ι:=Nat) (fun i=>[(0,A6 l),(3,.osl b 4 0 l.length),(9,.int .i64 (l.length:Nat)),(10,.int .i64 (i:Nat))]) (fun i=>Aa.emp.set b ⟨44,4,Kr l i l.length⟩)
   (fun i=>i≤l.length) (fun i=>l.length-i) 0 (by simp) (by rw[Sc];rfl) (by simp) ?_)
  intro i h1;(repeat refine AW.seq_k fun K hK=>?_);refine AW.rg ?_;simp;try (refine hK _ rfl ?_;clear hK K)
  refine AW.seq_k fun K hK=>?_;(repeat refine AW.seq ?_);refine AW.cs (fun hi=>?_) (fun hi=>?_) rfl<;>(try simp at hi)
  ·refine AW.skip ?_;try simp
   refine hK _ rfl ?_;clear hK K;have w1:=Aq (i+1) (by omega);have hx:=hl (rr l i) (by rw[Lx hi];exact List.getElem_mem hi);have ho:=Qf6 (rr l i) hx.1 hx.2;(repeat refine AW.seq ?_);refine AW.block ?_;(repeat refine AW.seq_k fun K hK=>?_);refine AW.rg ?_;simp;try (refine hK _ rfl ?_;clear hK K)
   (repeat refine AW.seq_k fun K hK=>?_);refine AW.rg ?_;simp[hi];try (refine hK _ rfl ?_;clear hK K)
   refine Ac.val ho ?_;simp[hi,Qhp];rw[Sm l i hi];(repeat refine AW.seq_k fun K hK=>?_);refine AW.rg ?_;simp[-Int.natCast_add,w1];try (refine hK _ rfl ?_;clear hK K)
   exact⟨i+1,hi,by omega,rfl,rfl⟩
  ·refine AW.exit ?_;try simp
   have:i=l.length:=by omega
   subst this;rw[Rr]
 (repeat refine AW.seq_k fun K hK=>?_);refine AW.rg ?_;simp;try (refine hK _ rfl ?_;clear hK K)
 exact AW.ret (B0 rfl (R5 (O8 l)) ⟨b,_,⟨rfl,rfl⟩,rfl⟩)
end Go.Av
end
section
namespace Go.Av
open Go.Proofs
def Gh (bs:List Nat) (rows:List (List RR)):List AV:=List.zipWith (fun b (r:List RR)=>.osl b 4 0 r.length) bs rows
def nb (bs:List Nat) (i:Nat):Nat:=bs.getD i 0
theorem Ij {bs:List Nat} {i:Nat} (h:i<bs.length):nb bs i=bs[i]:=by unfold nb;rw[List.getD_eq_getElem?_getD,List.getElem?_eq_getElem h];rfl
theorem Ew {bs:List Nat} {i:Nat} (h:i<bs.length):nb bs i∈bs:=by rw[Ij h];exact List.getElem_mem h
theorem Cz {bs:List Nat} {rows:List (List RR)} (h:bs.length=rows.length):(Gh bs rows).length=rows.length:=by simp[Gh,h]
theorem hdrs_get? {bs:List Nat} {rows:List (List RR)} (h:bs.length=rows.length) {i:Nat} (hi:i<rows.length):(Gh bs rows)[i]?=some (.osl (nb bs i) 4 0 (Al rows i).length):=by
 unfold Gh;rw[List.getElem?_zipWith,List.getElem?_eq_getElem (by omega),List.getElem?_eq_getElem hi,Ij (by omega),Gf hi]
structure Ea (M:Aa) (B:Nat) (bs:List Nat) (rows:List (List RR)):Prop where
 top:M B=some ⟨51,1,Gh bs rows⟩
 len:bs.length=rows.length
 row:∀i,i<rows.length→M (nb bs i)=some ⟨44,4,Ct (Al rows i)⟩
 nd:bs.Nodup
 nB:B ∉ bs
theorem Qig {bs:List Nat} (hnd:bs.Nodup) {i j:Nat} (hi:i<bs.length) (hj:j<bs.length) (h:nb bs i=nb bs j):i=j:=by
 rw[Ij hi,Ij hj]at h;exact(List.getElem_inj hnd).1 h
section
variable {M:Aa} {B:Nat} {bs:List Nat} {rows:List (List RR)}
theorem Ea.ne (h:Ea M B bs rows) {i:Nat} (hi:i<rows.length):nb bs i≠B:=fun e=>h.nB (e ▸ Ew (by rw[h.len];exact hi))
theorem Ea.get (h:Ea M B bs rows) {i:Nat} (hi:i<rows.length):(Gh bs rows)[i]?=some (.osl (nb bs i) 4 0 (Al rows i).length):=hdrs_get? h.len hi
theorem Qd8 {bs:List Nat} {rows:List (List RR)} (i:Nat) (r:List RR) (hr:r.length=(Al rows i).length):Gh bs (rows.set i r)=Gh bs rows:=by
 unfold Gh;refine List.ext_getElem? fun k=>?_;rw[List.getElem?_zipWith,List.getElem?_zipWith,List.getElem?_set];by_cases hk:i=k
 ·subst hk;rw[if_pos rfl];by_cases hi:i<rows.length
  ·rw[if_pos hi,List.getElem?_eq_getElem hi];cases bs[i]? with
   |none=>rfl
   |some b=>simp[hr,Gf hi]
  ·rw[if_neg hi,List.getElem?_eq_none (l:=rows) (by omega)]
 ·rw[if_neg hk]
theorem Hr {α:Type} {rows:List (List α)} {i:Nat} (hi:i<rows.length) (r:List α) (k:Nat):Al (rows.set i r) k=if k=i then r else Al rows k:=by
 unfold Al;rw[List.getD_eq_getElem?_getD,List.getElem?_set];by_cases h:i=k
 ·subst h;simp[hi]
 ·rw[if_neg h,if_neg (Ne.symm h),←List.getD_eq_getElem?_getD]
theorem Ea.setRow (h:Ea M B bs rows) {i:Nat} (hi:i<rows.length) (r:List RR) (hr:r.length=(Al rows i).length):Ea (M.set (nb bs i) ⟨44,4,Ct r⟩) B bs (rows.set i r):=by
 refine⟨?_,by simpa using h.len,fun k hk=>?_,h.nd,h.nB⟩
 ·rw[Qd8 i r hr];simp only[A3];rw[if_neg (Ne.symm (h.ne hi))];exact h.top
 ·have hk':k<rows.length:=by simpa using hk
  simp only[A3];rw[Hr hi];by_cases hki:k=i
  ·subst hki;simp
  ·have:nb bs k≠nb bs i:=fun e=>hki (Qig h.nd (by rw[h.len];exact hk') (by rw[h.len];exact hi) e);rw[if_neg this,if_neg hki];exact h.row k hk'
theorem Ea.other (h:Ea M B bs rows) {c:Nat} (h1:c≠B) (h2:c ∉ bs) (x:Et):Ea (M.set c x) B bs rows:=by
 refine⟨?_,h.len,fun k hk=>?_,h.nd,h.nB⟩
 ·simp only[A3];rw[if_neg (Ne.symm h1)];exact h.top
 ·have:nb bs k≠c:=fun e=>h2 (e ▸ Ew (by rw[h.len];exact hk));simp only[A3];rw[if_neg this];exact h.row k hk
theorem U5 (bs:List Nat) (rows:List (List RR)):∀v∈Gh bs rows,v.cells.all AV.one=true:=by
 intro v hv;unfold Gh at hv;obtain⟨k,hk⟩:=List.getElem?_of_mem hv;rw[List.getElem?_zipWith]at hk;cases h1:bs[k]?<;>cases h2:rows[k]?<;>simp[h1,h2]at hk
 subst hk;rfl
theorem Ea.view (h:Ea M B bs rows):Bx M Aa.emp (.osl B 1 0 rows.length) (A8 rows):=by
 refine .osl B 1 0 rows.length _ _ h.top rfl rfl (by simp) (by simp[Cz h.len]) fun k v v' h1 h2=>?_;simp only[Nat.zero_add]at h1;have hk:k<rows.length:=by
  have:=(List.getElem?_eq_some_iff.1 h2).1;simpa using this
 rw[h.get hk]at h1;rw[List.getElem?_map,List.getElem?_eq_getElem hk]at h2;cases h1;cases h2;rw[←Gf hk];refine .osl (nb bs k) 4 0 _ _ _ (h.row k hk) rfl rfl (by simp) (by simp) fun j u u' g1 g2=>?_;simp only[Nat.zero_add]at g1;rw[g1]at g2;cases g2;exact .same _
end
def Dr (M:Aa) (l:List Nat):Prop:=∀b,M b≠none→b∈l
theorem Dr.none {M:Aa} {l:List Nat} (h:Dr M l) {b:Nat} (hb:b ∉ l):M b=Option.none:=by
 cases hx:M b with
 |none=>rfl
 |some x=>exact absurd (h b (by rw[hx];simp)) hb
theorem Ea.ones {M:Aa} {B:Nat} {bs:List Nat} {rows:List (List RR)} (h:Ea M B bs rows) {l:List Nat} (ho:Dr M (l++B::bs)) (hl:∀c∈l,∀x,M c=some x→∀v∈x.l,v.cells.all AV.one=true):∀(b:Nat) (x:Et),M b=some x→∀v∈x.l,v.cells.all AV.one=true:=by
 intro b x hx;have:=ho b (by rw[hx];simp);rcases List.mem_append.1 this with h1 | h1
 ·exact hl b h1 x hx
 ·rcases List.mem_cons.1 h1 with rfl|h1
  ·rw[h.top]at hx;cases hx;exact U5 bs rows
  ·obtain⟨i,hi⟩:=List.getElem?_of_mem h1;have hib:i<bs.length:=(List.getElem?_eq_some_iff.1 hi).1;have hir:i<rows.length:=by rw[←h.len];exact hib
   have e:nb bs i=b:=by rw[Ij hib];exact(List.getElem?_eq_some_iff.1 hi).2
   have:=h.row i hir;rw[e,hx]at this;cases this;exact O8 _
structure Qdv (M:Aa) (B:Nat) (bs:List Nat) (rows:List (List RR)) (k:Nat):Prop where
 top:M B=some ⟨51,1,Gh bs rows++List.replicate k AV.nil⟩
 len:bs.length=rows.length
 row:∀i,i<rows.length→M (nb bs i)=some ⟨44,4,Ct (Al rows i)⟩
 nd:bs.Nodup
 nB:B ∉ bs
 only:Dr M (B::bs)
theorem Uw {bs:List Nat} {rows:List (List RR)} (h:bs.length=rows.length) (b:Nat) (r:List RR):Gh (bs++[b]) (rows++[r])=Gh bs rows++[.osl b 4 0 r.length]:=by
 unfold Gh;rw[List.zipWith_append h];rfl
theorem Uh {α:Type} (rows:List (List α)) (r:List α) (i:Nat) (hi:i<rows.length+1):Al (rows++[r]) i=if i<rows.length then Al rows i else r:=by
 unfold Al;rw[List.getD_eq_getElem?_getD];by_cases h:i<rows.length
 ·rw[if_pos h,List.getElem?_append_left h,←List.getD_eq_getElem?_getD]
 ·rw[if_neg h,List.getElem?_append_right (by omega),show i-rows.length=0 by omega];rfl
theorem Qdo (bs:List Nat) (b:Nat) (i:Nat) (hi:i<bs.length+1):nb (bs++[b]) i=if i<bs.length then nb bs i else b:=by
 unfold nb;rw[List.getD_eq_getElem?_getD];by_cases h:i<bs.length
 ·rw[if_pos h,List.getElem?_append_left h,←List.getD_eq_getElem?_getD]
 ·rw[if_neg h,List.getElem?_append_right (by omega),show i-bs.length=0 by omega];rfl
theorem Qdv.step {M:Aa} {B:Nat} {bs:List Nat} {rows:List (List RR)} {k:Nat} (h:Qdv M B bs rows (k+1)) {b:Nat} (hb:M b=none) (r:List RR) :
  Qdv ((M.set b ⟨44,4,Ct r⟩).set B ⟨51,1,(Gh bs rows++List.replicate (k+1) AV.nil).set rows.length (.osl b 4 0 r.length)⟩) B (bs++[b]) (rows++[r]) k:=by
 have hbB:b≠B:=by rintro rfl;rw[h.top]at hb;cases hb
 have hbb:b ∉ bs:=by
  intro hm;obtain⟨i,hi⟩:=List.getElem?_of_mem hm;have hib:i<bs.length:=(List.getElem?_eq_some_iff.1 hi).1;have e:nb bs i=b:=by rw[Ij hib];exact(List.getElem?_eq_some_iff.1 hi).2
  have:=h.row i (by rw[←h.len];exact hib);rw[e,hb]at this;cases this
 refine⟨?_,by simp[h.len],fun i hi=>?_,?_,?_,fun c hc=>?_⟩
 ·simp only[A3,if_true];rw[Uw h.len,List.set_append_right _ _ (by rw[Cz h.len];omega),Cz h.len,Nat.sub_self,List.replicate_succ,List.set_cons_zero];simp
 ·have hi':i<rows.length+1:=by simpa using hi
  rw[Qdo bs b i (by rw[h.len];exact hi'),Uh rows r i hi',h.len];by_cases hlt:i<rows.length
  ·rw[if_pos hlt,if_pos hlt];have n1:nb bs i≠B:=fun e=>h.nB (e ▸ Ew (by rw[h.len];exact hlt));have n2:nb bs i≠b:=fun e=>hbb (e ▸ Ew (by rw[h.len];exact hlt));simp only[A3];rw[if_neg n1,if_neg n2];exact h.row i hlt
  ·rw[if_neg hlt,if_neg hlt];simp[hbB]
 ·rw[List.nodup_append];exact⟨h.nd,by simp,fun x hx y hy=>by simp at hy;subst hy;exact fun e=>hbb (e ▸ hx)⟩
 ·simp only[List.mem_append,List.mem_singleton,not_or];exact⟨h.nB,Ne.symm hbB⟩
 ·simp only[A3]at hc;by_cases h1:c=B
  ·simp[h1]
  ·rw[if_neg h1]at hc;by_cases h2:c=b
   ·simp[h2]
   ·rw[if_neg h2]at hc;have:=h.only c hc;simp at this ⊢;rcases this with h3 | h3
    ·exact absurd h3 h1
    ·exact .inr (.inl h3)
theorem Qdv.full {M:Aa} {B:Nat} {bs:List Nat} {rows:List (List RR)} (h:Qdv M B bs rows 0):Ea M B bs rows∧Dr M (B::bs) :=
 ⟨⟨by rw[h.top];simp,h.len,h.row,h.nd,h.nB⟩,h.only⟩
def Qhg (m:List (List RR)):Prop:=∀r∈m,∀x∈r,x.l1.length<2^40∧x.l2.length<2^40
theorem Qa8 (m:List (List RR)) (hs:Qhg m) (h1:m.length<2^40) (h2:∀r∈m,r.length<2^40):Aj Tryz.prog 100 [A8 m] Aa.emp fun v M=>∃B bs,v=.osl B 1 0 m.length∧Ea M B bs m∧Dr M (B::bs):=by
 refine Ad Tryz.func100 rfl rfl 23 rfl (Nat.le_of_ble_eq_true rfl) ?_;(repeat refine AW.seq_k fun K hK=>?_);refine AW.rg ?_;simp[Ak];try (refine hK _ rfl ?_;clear hK K)
 (repeat refine AW.seq_k fun K hK=>?_);refine AW.rg ?_;simp;try (refine hK _ rfl ?_;clear hK K)
 refine⟨by omega,Ag.intro fun B _=>?_⟩;refine hK _ rfl ?_;clear hK K;refine AW.seq_ex (ι:=Aa × List Nat) (fun z=>[(3,.osl B 1 0 m.length)]) (fun z=>z.1) (fun z=>Ea z.1 B z.2 m∧Dr z.1 (B::z.2)) ?_ ?_
 ·(repeat refine AW.seq_k fun K hK=>?_);refine AW.rg ?_;simp;try (refine hK _ rfl ?_;clear hK K)
  refine AW.block (AW.loopS (ι:=Nat × Aa × List Nat) (fun z=>[(0,A8 m),(3,.osl B 1 0 m.length),(9,.int .i64 (m.length:Nat)),(10,.int .i64 (z.1:Nat))]) (fun z=>z.2.1)
   (fun z=>z.1≤m.length∧Qdv z.2.1 B z.2.2 (m.take z.1) (m.length-z.1)) (fun z=>m.length-z.1) (0,Aa.emp.set B ⟨51,1,List.replicate m.length .nil⟩,[]) ⟨by simp,⟨by simp[Gh],rfl,fun i hi=>(by simp at hi),by simp,by simp,fun b hb=>by
    simp only[A3,Az]at hb;by_cases h:b=B
    ·simp[h]
    ·simp[h]at hb⟩⟩ rfl (by simp) ?_)
  rintro⟨i,M,bs⟩ ⟨g1,g2⟩;simp only at g1 g2;(repeat refine AW.seq_k fun K hK=>?_);refine AW.rg ?_;simp;try (refine hK _ rfl ?_;clear hK K)
  refine AW.seq_k fun K hK=>?_;(repeat refine AW.seq ?_);refine AW.cs (fun hi=>?_) (fun hi=>?_) rfl<;>(try simp at hi)
  ·refine AW.skip ?_;try simp
   refine hK _ rfl ?_;clear hK K;have w1:=Aq (i+1) (by omega);obtain⟨k,hk⟩:∃k,m.length-i=k+1:=⟨m.length-i-1,by omega⟩;rw[hk]at g2;have hmem:Al m i∈m:=by rw[Gf hi];exact List.getElem_mem hi
   have ho:=Xe (Al m i) (hs _ hmem) (h2 _ hmem);have htl:(m.take i).length=i:=by simp;omega
   have hlen:(Gh bs (m.take i)++List.replicate (k+1) AV.nil)[i]?=some .nil:=by
    rw[List.getElem?_append_right (by rw[Cz g2.len];omega),Cz g2.len,htl,Nat.sub_self];rfl
   (repeat refine AW.seq ?_);refine AW.block ?_;(repeat refine AW.seq_k fun K hK=>?_);refine AW.rg ?_;simp;try (refine hK _ rfl ?_;clear hK K)
   (repeat refine AW.seq_k fun K hK=>?_);refine AW.rg ?_;simp[hi];try (refine hK _ rfl ?_;clear hK K)
   refine Ac.make ho ?_;rintro b _ _ ⟨rfl,rfl⟩ hb _;have hbB:B≠b:=by rintro rfl;rw[g2.top]at hb;cases hb
   simp[hi,hbB,g2.top,hlen];have hst:=g2.step hb (Al m i);rw[htl]at hst;(repeat refine AW.seq_k fun K hK=>?_);refine AW.rg ?_;simp[-Int.natCast_add,w1];try (refine hK _ rfl ?_;clear hK K)
   refine⟨i+1,_,⟨hi,bs++[b],?_⟩,by omega,rfl,rfl⟩;have e:m.take (i+1)=m.take i++[Al m i]:=by rw[List.take_add_one,List.getElem?_eq_getElem hi,Gf hi];rfl
   rw[e,show m.length-(i+1)=k by omega];exact hst
  ·refine AW.exit ?_;try simp
   have:i=m.length:=by omega
   subst this;rw[Nat.sub_self,List.take_length]at g2;exact⟨bs,g2.full⟩
 rintro⟨M,bs⟩ ⟨g1,g2⟩;simp only at g1 g2;(repeat refine AW.seq_k fun K hK=>?_);refine AW.rg ?_;simp;try (refine hK _ rfl ?_;clear hK K)
 refine AW.ret (B0 rfl ?_ ⟨B,bs,rfl,g1,g2⟩);exact g1.ones (l:=[]) g2 (by simp)
end Go.Av
end
section
namespace Go.Av
open Go.Proofs
def Bd {α:Type} (f:Nat→α→Option α):Nat→α→Option α
 |0,s=>some s
 |n+1,s=>(Bd f n s).bind (f n)
theorem Ef {α:Type} (f:Nat→α→Option α) (n:Nat) (s:α):Bd f (n+1) s=(Bd f n s).bind (f n):=rfl
theorem Ss {α:Type} {f:Nat→α→Option α} {n:Nat} {s:α} (h:Bd f n s=none):∀k,Bd f (n+k) s=none
 |0=>h
 |k+1=>by rw[←Nat.add_assoc,Ef,Ss h k];rfl
theorem Xs {α:Type} {f:Nat→α→Option α} {n m:Nat} {s:α} (h:Bd f n s=none) (hm:n≤m):Bd f m s=none:=by
 have:=Ss h (m-n)
 rwa [Nat.add_sub_cancel' hm]at this
def Dy (r:List Rat) (i:Nat):Rat:=r.getD i 0
def Ju (M:List (List Rat)) (i j:Nat):Rat:=Dy (Al M i) j
def Cs (M:List (List Rat)):List (List RR):=M.map fun r=>r.map Be
def D4 (M:List (List Rat)):Prop:=∀r∈M,∀q∈r,B4 q
def Di {α:Type} (l:List (List α)) (i j:Nat):List (List α):=(l.set i (Al l j)).set j (Al l i)
def H1 (op:Rat→Nat→Option Rat) (k:Nat) (row:List Rat):Option (List Rat):=(op (Dy row k) k).map (row.set k)
def Cw (d:Rat):Nat→List Rat→Option (List Rat):=H1 fun q _=>Gq q d
def Uf (a f b:Rat):Option Rat:=(Em b f).bind (Dj a)
def Fp (by_:List Rat) (f:Rat):Nat→List Rat→Option (List Rat):=H1 fun q k=>Uf q f (Dy by_ k)
def Cj (r j i:Nat) (M:List (List Rat)):Option (List (List Rat)) :=
 if i=r∨Ju M i j=0 then some M else (Bd (Fp (Al M r) (Ju M i j)) (Al M i).length (Al M i)).map (M.set i)
def Km (M:List (List Rat)) (j r:Nat):Option (List (List Rat)) :=
 (Bd (Cw (Ju M r j)) (Al M r).length (Al M r)).bind fun row=>Bd (Cj r j) M.length (M.set r row)
def Qbv (M:List (List Rat)) (j r:Nat):Option Nat:=(List.range M.length).find? fun i=>decide (r≤i)&&!decide (Ju M i j=0)
def Da (j:Nat) (z:List (List Rat) × List Nat):Option (List (List Rat) × List Nat) :=
 match Qbv z.1 j z.2.length with
 |none=>some z
 |some i=>(Km (Di z.1 i z.2.length) j z.2.length).map fun M=>(M,z.2++[j])
def Gd (M:List (List Rat)):Option (List (List Rat) × List Nat):=Bd Da (Al M 0).length (M,[])
/-! ### The numbers in memory -/
theorem Bi (M:List (List Rat)):(Cs M).length=M.length:=by simp[Cs]
theorem Ch (M:List (List Rat)) (i:Nat):Al (Cs M) i=(Al M i).map Be:=by
 unfold Al Cs;rw[List.getD_eq_getElem?_getD,List.getD_eq_getElem?_getD,List.getElem?_map];cases M[i]?<;>rfl
theorem Jn {r:List Rat} {i:Nat} (h:i<r.length):rr (r.map Be) i=Be (Dy r i):=by
 unfold rr Dy;rw[List.getD_eq_getElem?_getD,List.getD_eq_getElem?_getD,List.getElem?_map,List.getElem?_eq_getElem h];rfl
theorem Mw (M:List (List Rat)) (i:Nat) (r:List Rat):Cs (M.set i r)=(Cs M).set i (r.map Be):=by simp[Cs,List.map_set]
theorem Yn (M:List (List Rat)) (i j:Nat):Cs (Di M i j)=Di (Cs M) i j:=by
 unfold Di;rw[Mw,Mw,Ch,Ch]
theorem D4.at {M:List (List Rat)} (h:D4 M) {i j:Nat} (hj:j<(Al M i).length):B4 (Ju M i j):=by
 unfold Ju Dy;have hi:i<M.length:=by
  rcases Nat.lt_or_ge i M.length with h|h
  ·exact h
  ·unfold Al at hj;rw[List.getD_eq_getElem?_getD,List.getElem?_eq_none h]at hj;simp at hj
 rw[List.getD_eq_getElem?_getD,List.getElem?_eq_getElem hj];refine h (Al M i) ?_ _ (List.getElem_mem hj);rw[Gf hi];exact List.getElem_mem hi
theorem D4.set {M:List (List Rat)} (h:D4 M) (i:Nat) {r:List Rat} (hr:∀q∈r,B4 q):D4 (M.set i r):=by
 intro x hx q hq;rcases List.mem_or_eq_of_mem_set hx with h1 | rfl
 ·exact h x h1 q hq
 ·exact hr q hq
theorem D4.row {M:List (List Rat)} (h:D4 M) (i:Nat):∀q∈Al M i,B4 q:=by
 intro q hq;unfold Al at hq;rw[List.getD_eq_getElem?_getD]at hq;cases hm:M[i]? with
 |none=>rw[hm]at hq;cases hq
 |some r=>rw[hm]at hq;exact h r (List.mem_of_getElem? hm) q hq
theorem Xt {r:List Rat} (h:∀q∈r,B4 q) (k:Nat) {x:Rat} (hx:B4 x):∀q∈r.set k x,B4 q:=by
 intro q hq;rcases List.mem_or_eq_of_mem_set hq with h1 | rfl
 ·exact h q h1
 ·exact hx
theorem D4.swap {M:List (List Rat)} (h:D4 M) (i j:Nat):D4 (Di M i j):=(h.set i (h.row j)).set j (h.row i)
def Jz {α:Type} (M:List (List α)) (w:Nat):Prop:=∀i,i<M.length→(Al M i).length=w
theorem Jz.set {α:Type} {M:List (List α)} {w:Nat} (h:Jz M w) {i:Nat} {r:List α} (hr:r.length=w):Jz (M.set i r) w:=by
 intro k hk;have hk':k<M.length:=by simpa using hk
 by_cases hi:i<M.length
 ·rw[Hr hi];split
  ·exact hr
  ·exact h k hk'
 ·rw[List.set_eq_of_length_le (by omega)];exact h k hk'
theorem Jz.swap {α:Type} {M:List (List α)} {w:Nat} (h:Jz M w) {i j:Nat} (hi:i<M.length) (hj:j<M.length):Jz (Di M i j) w:=(h.set (h j hj)).set (h i hi)
theorem I9 {α:Type} (M:List (List α)) (i j:Nat):(Di M i j).length=M.length:=by simp[Di]
theorem Qdi {M:List (List Rat)} {w:Nat} (h:Jz M w):Jz (Cs M) w:=by
 intro i hi;rw[Ch,List.length_map];exact h i (by simpa[Cs]using hi)
theorem Wo (M:List (List Rat)):Z4 (Cs M):=by
 intro r hr x hx;obtain⟨s,_,rfl⟩:=List.mem_map.1 hr;obtain⟨q,_,rfl⟩:=List.mem_map.1 hx;exact F2 q
theorem Z4.set {M:List (List RR)} (h:Z4 M) (i:Nat) {r:List RR} (hr:∀x∈r,x.Lb):Z4 (M.set i r):=by
 intro x hx q hq;rcases List.mem_or_eq_of_mem_set hx with h1 | rfl
 ·exact h x h1 q hq
 ·exact hr q hq
theorem Qpp {r:List RR} (h:∀x∈r,x.Lb) (k:Nat) {y:RR} (hy:y.Lb):∀x∈r.set k y,x.Lb:=by
 intro x hx;rcases List.mem_or_eq_of_mem_set hx with h1 | rfl
 ·exact h x h1
 ·exact hy
theorem Z4.swap {M:List (List RR)} (h:Z4 M) (i j:Nat):Z4 (Di M i j):=(h.set i (h.row j)).set j (h.row i)
def Ts (e:Int) (rows:List (List RR)) (X:Option (List (List Rat))):Prop :=
 match X with
 |some M=>e=0∧rows=Cs M∧D4 M
 |none=>e=2
theorem Qh5 {op:Rat→Nat→Option Rat} (hop:∀q k x,op q k=some x→B4 x) {X:Option (List (List Rat))} {n w r k:Nat} {e e':Int} {rows:List (List RR)} {y:RR} (hn:rows.length=n) (hr:r<n) (hd:Jz rows w) (hk:k<w)
  {Z:Option (List (List Rat) × List Rat)} (hZ:X=Z.map fun z=>z.1.set r z.2) (hM:Ts e rows X) (h1:e≠0→e'=e) (h2:e=0→match op (rr (Al rows r) k).q k with | some z=>e'=0∧y=Be z | none=>e'=2) :
  Ts e' (rows.set r ((Al rows r).set k y)) (Z.bind fun z=>(H1 op k z.2).map fun row=>z.1.set r row):=by
 cases Z with
 |none =>
  subst hZ;have:e=2:=hM;exact(h1 (by omega)).trans this
 |some z =>
  subst hZ;obtain⟨M,row⟩:=z;obtain⟨m1,m2,m3⟩:e=0∧rows=Cs (M.set r row)∧D4 (M.set r row):=hM;have hMl:M.length=n:=by rw[m2]at hn;simpa[Cs]using hn
  have hrow:Al rows r=row.map Be:=by rw[m2,Ch,Hr (by omega),if_pos rfl]
  have hkr:k<row.length:=by
   have:=hd r (by omega);rw[hrow,List.length_map]at this;omega
  have hq:(rr (Al rows r) k).q=Dy row k:=by rw[hrow,Jn hkr,Gt]
  have h2:=h2 m1;rw[hq]at h2;show Ts e' _ ((H1 op k row).map fun row=>M.set r row)
  unfold H1;cases ho:op (Dy row k) k with
  |none=>rw[ho]at h2;exact h2
  |some z =>
   rw[ho]at h2;obtain⟨e1,e2⟩:=h2;refine⟨e1,?_,?_⟩
   ·rw[e2,hrow,m2,Mw,Mw,List.set_set,List.map_set]
   ·have:=m3.set r (r:=row.set k z) (Xt (by have:=m3.row r;rwa [Hr (by omega),if_pos rfl]at this) k (hop _ _ _ ho))
    rwa [List.set_set]at this
theorem Ml {q:Rat}:Qdl q=0↔q=0:=by
 unfold Qdl;constructor
 ·intro h;split at h
  ·cases h
  ·split at h
   ·rename_i h2;exact Rat.num_eq_zero.1 h2
   ·cases h
 ·rintro rfl;rfl
def Qa7 (rows:List (List RR)) (j r:Nat):Option Nat:=(List.range rows.length).find? fun i=>decide (r≤i)&&!decide (Db (rr (Al rows i) j)=0)
theorem Tj {α:Type} {p q:α→Bool}:∀{l:List α},(∀x∈l,p x=q x)→l.find? p=l.find? q
 |[],_=>rfl
 |a::l,h=>by
  rw[List.find?_cons,List.find?_cons,h a (by simp),Tj fun x hx=>h x (by simp[hx])]
theorem Qhv {M:List (List Rat)} (hg:D4 M) {w j:Nat} (hd:Jz M w) (hj:j<w) (r:Nat):Qa7 (Cs M) j r=Qbv M j r:=by
 unfold Qa7 Qbv;rw[Bi];refine Tj ?_;intro i hi;have hi':i<M.length:=List.mem_range.1 hi;have hl:j<(Al M i).length:=by rw[hd i hi'];exact hj
 rw[Ch,Jn hl,show Dy (Al M i) j=Ju M i j from rfl,Om (hg.at hl)]
 congr 2
 simp only[Ml]
theorem Qbd {n:Nat} {p:Nat→Bool} {i:Nat} (h:(List.range n).find? p=some i):i<n∧p i=true∧∀k,k<i→p k=false:=by
 rw[List.find?_range_eq_some]at h;exact⟨List.mem_range.1 h.2.1,h.1,fun k hk=>by simpa using h.2.2 k hk⟩
end Go.Av
end
section
namespace Go.Av
open Go.Proofs
section
variable {P:Program} {av:Nat→Prop} {f:FuncId} {args:List AV} {m:Aa} {k:AV→Aa→Prop}
def Aa.only (m:Aa) (l:List Nat):Aa:=fun b=>if b∈l then m b else none
def Aa.back (m:Aa) (l:List Nat) (g:Aa):Aa:=fun b=>match g b with
 |some x=>some x
 |none=>if b∈l then none else m b
theorem Bv {l:List Nat} {b:Nat} (h:b∈l):m.only l b=m b:=if_pos h
theorem Bo {l:List Nat} {b:Nat} (h:b ∉ l):m.only l b=none:=if_neg h
theorem Ut {l:List Nat} {g:Aa} {b:Nat} {x:Et} (h:g b=some x):m.back l g b=some x:=by unfold Aa.back;rw[h]
theorem Hd {l:List Nat} {g:Aa} {b:Nat} (h:g b=none) (hb:b ∉ l):m.back l g b=m b:=by unfold Aa.back;rw[h];exact if_neg hb
theorem Qcz {l:List Nat} {g:Aa} {b:Nat} (hb:b∈l):m.back l g b=g b:=by
 unfold Aa.back;cases h:g b with
 |none=>exact if_pos hb
 |some x=>rfl
theorem Ac.hand {R:AV→Aa→Prop} (l:List Nat) (hl:∀b∈l,¬av b) (h:Aj P f args (m.only l) R) (hk:∀v g,R v g→(∀b,g b≠none→b∈l∨(m b=none∧¬av b))→k v (m.back l g)):Ac P av f args m k:=by
 refine .inl ⟨m.only l,R,fun c y hy=>?_,h,?_⟩
 ·by_cases hc:c∈l
  ·rw[Bv hc]at hy;exact⟨hy,hl c hc⟩
  ·rw[Bo hc]at hy;cases hy
 ·intro v g hr hf;have e:Eg m (m.only l) g=m.back l g:=by
   funext c
   unfold Eg Aa.back;cases g c with
   |some x=>rfl
   |none =>
    by_cases hc:c∈l
    ·rw[Bv hc,if_pos hc];cases hm:m c<;>rfl
    ·rw[Bo hc,if_neg hc]
  rw[e];refine hk v g hr fun b hb=>?_;rcases hf b hb with h1 | h1
  ·by_cases hc:b∈l
   ·exact .inl hc
   ·exact absurd (Bo hc) h1
  ·exact .inr h1
end
theorem Ea.only {M:Aa} {B:Nat} {bs:List Nat} {rows:List (List RR)} (h:Ea M B bs rows) {l:List Nat} (hl:∀b,b=B∨b∈bs→b∈l):Ea (M.only l) B bs rows :=
 ⟨by rw[Bv (hl B (.inl rfl))];exact h.top,h.len,fun i hi=>by rw[Bv (hl _ (.inr (Ew (by rw[h.len];exact hi))))];exact h.row i hi,h.nd,h.nB⟩
theorem Qbz (M:Aa) (l:List Nat):Dr (M.only l) l:=by
 intro b hb;rcases Classical.em (b∈l)with h | h
 ·exact h
 ·exact absurd (Bo h) hb
theorem Ea.back {M g:Aa} {B:Nat} {bs:List Nat} {rows:List (List RR)} (h:Ea g B bs rows) (l:List Nat):Ea (M.back l g) B bs rows :=
 ⟨Ut h.top,h.len,fun i hi=>Ut (h.row i hi),h.nd,h.nB⟩
theorem Qeo {M:Aa} {l:List Nat} (h:Dr M l):M.only l=M:=by
 funext b
 by_cases hb:b∈l
 ·exact Bv hb
 ·rw[Bo hb,h.none hb]
def Fe (bs:List Nat) (i r:Nat):List Nat:=(bs.set i (nb bs r)).set r (nb bs i)
theorem Qiz {bs:List Nat} {i:Nat} (hi:i<bs.length) (b k:Nat):nb (bs.set i b) k=if k=i then b else nb bs k:=by
 unfold nb;rw[List.getD_eq_getElem?_getD,List.getElem?_set];by_cases h:i=k
 ·subst h;simp[hi]
 ·rw[if_neg h,if_neg (Ne.symm h),←List.getD_eq_getElem?_getD]
theorem H5 {bs:List Nat} {i r:Nat} (hi:i<bs.length) (hr:r<bs.length) (k:Nat):nb (Fe bs i r) k=if k=r then nb bs i else if k=i then nb bs r else nb bs k:=by
 unfold Fe;rw[Qiz (by simpa using hr),Qiz hi]
theorem K7 {α:Type} {rows:List (List α)} {i r:Nat} (hi:i<rows.length) (hr:r<rows.length) (k:Nat):Al (Di rows i r) k=if k=r then Al rows i else if k=i then Al rows r else Al rows k:=by
 unfold Di;rw[Hr (by simpa using hr),Hr hi]
theorem K2 {bs:List Nat} {i r:Nat} (hi:i<bs.length) (hr:r<bs.length) (b:Nat):b∈Fe bs i r↔b∈bs:=by
 have hl:(Fe bs i r).length=bs.length:=by simp[Fe]
 constructor
 ·intro h;obtain⟨k,hk,e⟩:=List.mem_iff_getElem.1 h;rw[←e,←Ij hk,H5 hi hr];rw[hl]at hk;split
  ·exact Ew hi
  ·split
   ·exact Ew hr
   ·exact Ew hk
 ·intro h;obtain⟨k,hk,e⟩:=List.mem_iff_getElem.1 h;rw[←e,←Ij hk];have key:∀k',k'<bs.length→nb (Fe bs i r) k'∈Fe bs i r:=fun k' h'=>Ew (by rw[hl];exact h');by_cases h1:k=i
  ·have:=key r hr;rw[H5 hi hr,if_pos rfl]at this;rw[h1];exact this
  ·by_cases h2:k=r
   ·have:=key i hi;rw[H5 hi hr]at this;rw[h2];by_cases h3:i=r
    ·rw[if_pos h3]at this;rw[←h3];rw[←h3]at this;exact this
    ·rw[if_neg h3,if_pos rfl]at this;exact this
   ·have:=key k hk
    rwa [H5 hi hr,if_neg h2,if_neg h1]at this
theorem Qgr {bs:List Nat} {i r:Nat} (hi:i<bs.length) (hr:r<bs.length) (h:bs.Nodup):(Fe bs i r).Nodup:=by
 have hl:(Fe bs i r).length=bs.length:=by simp[Fe]
 unfold List.Nodup;rw[List.pairwise_iff_getElem];intro x y hx hy hxy;rw[←Ij hx,←Ij hy,H5 hi hr,H5 hi hr];rw[hl]at hy hx;intro e;have inj:∀{a b},a<bs.length→b<bs.length→nb bs a=nb bs b→a=b:=fun ha hb=>Qig h ha hb;split at e<;>split at e<;>(try split at e)<;>(try split at e)<;>have:=inj (by omega) (by omega) e<;>omega
theorem Qfn {bs:List Nat} {rows:List (List RR)} (h:bs.length=rows.length) {i r:Nat} (hi:i<rows.length) (hr:r<rows.length) :
  ((Gh bs rows).set i (.osl (nb bs r) 4 0 (Al rows r).length)).set r (.osl (nb bs i) 4 0 (Al rows i).length)=Gh (Fe bs i r) (Di rows i r):=by
 have hl:(Fe bs i r).length=(Di rows i r).length:=by simp[Fe,Di,h]
 have h0:(Di rows i r).length=rows.length:=I9 _ _ _;refine List.ext_getElem? fun k=>?_;by_cases hk:k<rows.length
 ·rw[hdrs_get? hl (by rw[h0];exact hk),H5 (by omega) (by omega),K7 hi hr,List.getElem?_set,List.getElem?_set,hdrs_get? h hk];have e:=Cz h;simp only[List.length_set,e,hi,hr,if_true];by_cases h1:r=k
  ·subst h1;simp
  ·rw[if_neg h1,if_neg (Ne.symm h1),if_neg (Ne.symm h1)];by_cases h2:i=k
   ·subst h2;simp
   ·rw[if_neg h2,if_neg (Ne.symm h2),if_neg (Ne.symm h2)]
 ·rw[List.getElem?_eq_none (by simp[Cz h];omega),List.getElem?_eq_none (by rw[Cz hl,h0];omega)]
theorem Ea.swap {M:Aa} {B:Nat} {bs:List Nat} {rows:List (List RR)} (h:Ea M B bs rows) {i r:Nat} (hi:i<rows.length) (hr:r<rows.length) :
  Ea (M.set B ⟨51,1,((Gh bs rows).set i (.osl (nb bs r) 4 0 (Al rows r).length)).set r (.osl (nb bs i) 4 0 (Al rows i).length)⟩) B (Fe bs i r) (Di rows i r):=by
 have h0:(Di rows i r).length=rows.length:=I9 _ _ _;have hi':i<bs.length:=by rw[h.len];exact hi
 have hr':r<bs.length:=by rw[h.len];exact hr
 refine⟨by rw[Qfn h.len hi hr];simp,by rw[h0,←h.len];simp[Fe],fun k hk=>?_,Qgr hi' hr' h.nd,fun hm=>h.nB ((K2 hi' hr' B).1 hm)⟩;rw[h0]at hk;rw[H5 hi' hr',K7 hi hr];have key:∀k,k<rows.length→(M.set B ⟨51,1,((Gh bs rows).set i (.osl (nb bs r) 4 0 (Al rows r).length)).set r (.osl (nb bs i) 4 0 (Al rows i).length)⟩) (nb bs k)=some ⟨44,4,Ct (Al rows k)⟩:=fun k hk=>by
  simp only[A3];rw[if_neg (h.ne hk)];exact h.row k hk
 split
 ·exact key i hi
 ·split
  ·exact key r hr
  ·exact key k hk
attribute [simp high] rrs_get?
theorem Dr.set {M:Aa} {l:List Nat} (h:Dr M l) {b:Nat} (hb:b∈l) (x:Et):Dr (M.set b x) l:=by
 intro c hc;simp only[A3]at hc;by_cases e:c=b
 ·rw[e];exact hb
 ·rw[if_neg e]at hc;exact h c hc
theorem Dr.sub {M:Aa} {l l':List Nat} (h:Dr M l) (hs:∀b∈l,b∈l'):Dr M l':=fun c hc=>hs c (h c hc)
theorem Qe6 {rows:List (List RR)} {j r:Nat} (h:∀k,r≤k→k<rows.length→Db (rr (Al rows k) j)=0):Qa7 rows j r=none:=by
 unfold Qa7;rw[List.find?_eq_none];intro k hk;have hk:=List.mem_range.1 hk;by_cases hr:r≤k
 ·simp[h k hr hk]
 ·simp[hr]
theorem Qfb {rows:List (List RR)} {j r i:Nat} (h:∀k,r≤k→k<i→Db (rr (Al rows k) j)=0) (hr:r≤i) (hi:i<rows.length) (hs:¬Db (rr (Al rows i) j)=0):Qa7 rows j r=some i:=by
 unfold Qa7;rw[List.find?_range_eq_some];refine⟨by simp[hr,hs],List.mem_range.2 hi,fun k hk=>?_⟩;by_cases hrk:r≤k
 ·simp[h k hrk hk]
 ·simp[hrk]
def Vm (M:Aa) (B:Nat) (bs:List Nat) (rows:List (List RR)) (j r:Nat) (v:AV) (M':Aa):Prop :=
 match Qa7 rows j r with
 |none=>v=.tup [.bool false,.bool false]∧M'=M
 |some i=>v=.tup [.bool true,.bool (decide (i≠r))]∧Ea M' B (Fe bs i r) (Di rows i r)∧Dr M' (B::bs)
theorem Qbp (M:Aa) (B:Nat) (bs:List Nat) (rows:List (List RR)) (hM:Ea M B bs rows) (hO:Dr M (B::bs)) (hlb:Z4 rows) (w j r:Nat) (hd:Jz rows w) (hj:j<w) (h1:rows.length<2^40) (h2:w<2^40) (h3:r<2^40) :
  Aj Tryz.prog 144 [.osl B 1 0 rows.length,.int .i64 j,.int .i64 r] M (Vm M B bs rows j r):=by
 have hones:=hM.ones (l:=[]) hO (by simp);refine Ad Tryz.func144 rfl rfl 42 rfl (Nat.le_of_ble_eq_true rfl) ?_;(repeat refine AW.seq_k fun K hK=>?_);refine AW.rg ?_;simp[Ak];try (refine hK _ rfl ?_;clear hK K)
 refine AW.scope (AW.seq (AW.label ?_));intro _;refine AW.seq_ex (ι:=Unit) (fun _=>[]) (fun _=>M) (fun _=>∀k,r≤k→k<rows.length→Db (rr (Al rows k) j)=0) ?_ ?_
 ·(repeat refine AW.seq_k fun K hK=>?_);refine AW.rg ?_;simp;try (refine hK _ rfl ?_;clear hK K)
  refine AW.block (AW.loopS (ι:=Nat) (fun i=>[(0,.osl B 1 0 rows.length),(1,.int .i64 j),(2,.int .i64 r),(8,.int .i64 (i:Nat))]) (fun _=>M) (fun i=>r≤i∧∀k,r≤k→k<i→Db (rr (Al rows k) j)=0) (fun i=>rows.length-i) r ⟨by omega,by omega⟩ rfl (by simp) ?_);rintro i ⟨g1,g2⟩;(repeat refine AW.seq_k fun K hK=>?_);refine AW.rg ?_;simp;try (refine hK _ rfl ?_;clear hK K)
  (repeat refine AW.seq ?_);refine AW.cs (fun hi=>?_) (fun hi=>?_) rfl<;>(try simp at hi)
  ·refine AW.skip ?_;try simp
   refine hK _ rfl ?_;clear hK K;have w1:=Aq (i+1) (by omega);have hri:r<rows.length:=by omega
   have hwi:=hd i hi;refine AW.seq_ex (ι:=Unit) (fun _=>[(0,.osl B 1 0 rows.length),(1,.int .i64 j),(2,.int .i64 r),(8,.int .i64 (i:Nat))]) (fun _=>M) (fun _=>Db (rr (Al rows i) j)=0) ?_ ?_
   ·(repeat refine AW.seq ?_);refine AW.block ?_;have hs:=Mn (rr (Al rows i) j) (Ls (hlb.row i) j);refine AW.seq_ex (ι:=Unit) (fun _=>[(0,.osl B 1 0 rows.length),(1,.int .i64 j),(2,.int .i64 r),(8,.int .i64 (i:Nat))]) (fun _=>M) (fun _=>¬Db (rr (Al rows i) j)=0) ?_ ?_
    ·(repeat refine AW.seq_k fun K hK=>?_);refine AW.rg ?_;simp[hi,hM.top,↓hM.get hi,hM.row i hi,hwi,hj];try (refine hK _ rfl ?_;clear hK K)
     refine Ac.val hs ?_;simp;refine hK _ rfl ?_;clear hK K;(repeat refine AW.seq ?_);refine AW.cs (fun h0=>?_) (fun h0=>?_) rfl<;>(try simp at h0)
     ·refine AW.exit ?_;try simp
      exact h0
     ·refine AW.skip ?_;try simp
      exact h0
    rintro _ h0;(repeat refine AW.seq_k fun K hK=>?_);refine AW.rdA B [0,1,2,3,4,5,6,7,8,9,10,11,12,13,14,15] Ds (by simp[hi,hri,hM.top,↓hM.get hi,↓hM.get hri,Cz hM.len]) ?_;simp[hi,hri,hM.top,↓hM.get hi,↓hM.get hri,Cz hM.len];try (refine hK _ rfl ?_;clear hK K)
    (repeat refine AW.seq_k fun K hK=>?_);refine AW.rg ?_;simp;try (refine hK _ rfl ?_;clear hK K)
    have hO':Dr (M.set B ⟨51,1,((Gh bs rows).set i (.osl (nb bs r) 4 0 (Al rows r).length)).set r (.osl (nb bs i) 4 0 (Al rows i).length)⟩) (B::bs):=hO.set (by simp) _;have hb:∀b,b∈B::Fe bs i r↔b∈B::bs:=fun b=>by simp[K2 (bs:=bs) (i:=i) (r:=r) (by rw[hM.len];exact hi) (by rw[hM.len];exact hri) b]
    refine AW.ret (B0 rfl ?_ ?_)
    ·exact(hM.swap hi hri).ones (l:=[]) (hO'.sub fun b h=>(hb b).2 h) (by simp)
    ·unfold Vm;rw[Qfb g2 g1 hi h0];refine⟨?_,hM.swap hi hri,hO'⟩;by_cases e:i=r
     ·simp[e]
     ·simp[e]
   ·rintro _ h0;(repeat refine AW.seq_k fun K hK=>?_);refine AW.rg ?_;simp[-Int.natCast_add,w1];try (refine hK _ rfl ?_;clear hK K)
    refine⟨⟨by omega,fun k hk1 hk2=>?_⟩,by omega⟩;rcases Nat.lt_succ_iff_lt_or_eq.1 hk2 with h | rfl
    ·exact g2 k hk1 h
    ·exact h0
  ·refine AW.exit ?_;try simp
   exact fun k a b=>g2 k a (by omega)
 rintro _ hno;(repeat refine AW.seq_k fun K hK=>?_);refine AW.rg ?_;simp;try (refine hK _ rfl ?_;clear hK K)
 refine AW.ret (B0 rfl hones ?_);unfold Vm;rw[Qe6 hno];exact⟨rfl,rfl⟩
end Go.Av
end
section
namespace Go.Av
open Go.Proofs
theorem Bj.sub {m m':Aa} (h:∀b x,m' b=some x→m b=some x∧∀v∈x.l,v.cells.all AV.one=true):Bj m m':=by
 refine⟨fun c y hy=>⟨y,(h c y hy).1,rfl,rfl,rfl,fun k v v' q1 q2=>?_⟩⟩;rw[q1]at q2;cases q2;exact⟨.same _,(h c y hy).2 v (List.mem_of_getElem? q1)⟩
theorem Bj.drop {m:Aa} {b:Nat} {x:Et} (hb:m b=none) (h1:∀c y,m c=some y→∀v∈y.l,v.cells.all AV.one=true):Bj (m.set b x) m :=
 Bj.sub fun c y hy=>⟨by
  simp only[A3];rw[if_neg (by rintro rfl;rw[hb]at hy;cases hy)];exact hy,h1 c y hy⟩
theorem K9 {M:Aa} {b z:Nat} {e:TypeId} {cs:List AV} (hb:M b=none):Bx (M.set b ⟨e,z,[.agg cs]⟩) M (.ptr b z 0 0) (.rptr cs) :=
 Bx.ptr b z 0 0 ⟨e,z,[.agg cs]⟩ (.agg cs) (Aa.set_same _ _ _) hb rfl rfl
section
variable {av:Nat→Prop} {m:Aa} {k:AV→Aa→Prop} {c:Nat} {x:AV} {e:Int} {a b:RR}
theorem Qhb (hc:m c=some ⟨118,1,[x]⟩) (hv:¬av c) (hx:Ge x e) (ha:a.Lb) (hb:b.Lb) (h:e=0→a.ok=true∧b.ok=true) (hk:∀x',Ge x' (C2 e a (Dj a.q b.q)).1→k (C2 e a (Dj a.q b.q)).2.av (m.set c ⟨118,1,[x']⟩)):Ac Tryz.prog av 146 [.ptr c 1 0 0,a.av,b.av] m k :=
 Ac.grant (R:=fun v y=>v=(C2 e a (Dj a.q b.q)).2.av∧∃x',Ge x' (C2 e a (Dj a.q b.q)).1∧y=⟨118,1,[x']⟩) c _ hc hv ((Qfd c x e hx a b ha hb h).mono fun v m ⟨h1,x',h2,h3⟩=>⟨_,⟨h1,x',h2,rfl⟩,h3⟩) (by rintro _ _ ⟨rfl,x',hx',rfl⟩;exact hk x' hx')
theorem Qof (hc:m c=some ⟨118,1,[x]⟩) (hv:¬av c) (hx:Ge x e) (ha:a.Lb) (hb:b.Lb) (h:e=0→a.ok=true∧b.ok=true) (hk:∀x',Ge x' (C2 e a (Em a.q b.q)).1→k (C2 e a (Em a.q b.q)).2.av (m.set c ⟨118,1,[x']⟩)):Ac Tryz.prog av 111 [.ptr c 1 0 0,a.av,b.av] m k :=
 Ac.grant (R:=fun v y=>v=(C2 e a (Em a.q b.q)).2.av∧∃x',Ge x' (C2 e a (Em a.q b.q)).1∧y=⟨118,1,[x']⟩) c _ hc hv ((Qe4 c x e hx a b ha hb h).mono fun v m ⟨h1,x',h2,h3⟩=>⟨_,⟨h1,x',h2,rfl⟩,h3⟩) (by rintro _ _ ⟨rfl,x',hx',rfl⟩;exact hk x' hx')
theorem Qo8 (hc:m c=some ⟨118,1,[x]⟩) (hv:¬av c) (hx:Ge x e) (ha:a.Lb) (hb:b.Lb) (h:e=0→a.ok=true∧b.ok=true∧b.q≠0) (hk:∀x',Ge x' (C2 e a (Gq a.q b.q)).1→k (C2 e a (Gq a.q b.q)).2.av (m.set c ⟨118,1,[x']⟩)):Ac Tryz.prog av 145 [.ptr c 1 0 0,a.av,b.av] m k :=
 Ac.grant (R:=fun v y=>v=(C2 e a (Gq a.q b.q)).2.av∧∃x',Ge x' (C2 e a (Gq a.q b.q)).1∧y=⟨118,1,[x']⟩) c _ hc hv ((Qek c x e hx a b ha hb h).mono fun v m ⟨h1,x',h2,h3⟩=>⟨_,⟨h1,x',h2,rfl⟩,h3⟩) (by rintro _ _ ⟨rfl,x',hx',rfl⟩;exact hk x' hx')
end
theorem V1 {e:Int} {rows:List (List RR)} {Z:Option (List (List Rat))} (h:Ts e rows Z) (he:e=0) {i j:Nat} (hj:j<(Al rows i).length):(rr (Al rows i) j).ok=true:=by
 cases Z with
 |none=>have:e=2:=h;omega
 |some M =>
  obtain⟨_,m2,m3⟩:e=0∧rows=Cs M∧D4 M:=h;subst m2;rw[Ch,List.length_map]at hj;rw[Ch,Jn hj];exact Ex (m3.at hj)
theorem Ky {e:Int} {a:RR} {q:Option Rat} (h:e≠0):C2 e a q=(e,a):=if_neg h
theorem Qdm {e:Int} {a:RR} {q:Option Rat} (h:e=0):match q with | some z=>(C2 e a q).1=0∧(C2 e a q).2=Be z | none=>(C2 e a q).1=2:=by
 unfold C2;rw[if_pos h];cases q with
 |none=>rfl
 |some z=>exact⟨rfl,rfl⟩
theorem Oj {e:Int} {a:RR} (h:e=0):C2 e a none=(2,Tr):=if_pos h
theorem Lg {e:Int} {a:RR} {z:Rat} (h:e=0):C2 e a (some z)=(0,Be z):=if_pos h
def An (l:List Nat):List AV:=l.map fun p=>.int .i64 (p:Nat)
@[simp] theorem J4 (l:List Nat):(An l).length=l.length:=by simp[An]
theorem Cl (l:List Nat):∀v∈An l,v.cells.all AV.one=true:=by
 intro v hv;obtain⟨p,_,rfl⟩:=List.mem_map.1 hv;rfl
theorem D5 (l:List Nat) (p:Nat):An (l++[p])=An l++[.int .i64 (p:Nat)]:=by simp[An]
def Wd (M:Aa) (pv:AV) (pb ps:List Nat):Prop :=
 (ps=[]∧pb=[]∧pv=.nil)∨∃b,pb=[b]∧pv=.osl b 1 0 ps.length∧M b=some ⟨3,1,An ps⟩
theorem Wd.keep {M M':Aa} {pv:AV} {pb ps:List Nat} (h:Wd M pv pb ps) (hm:∀b∈pb,M' b=M b):Wd M' pv pb ps:=by
 rcases h with h|⟨b,h1,h2,h3⟩
 ·exact .inl h
 ·exact .inr ⟨b,h1,h2,by rw[hm b (by simp[h1])];exact h3⟩
theorem Wd.len {M:Aa} {pv:AV} {pb ps:List Nat} (h:Wd M pv pb ps) (size bytes:Nat) (e:TypeId) (zero:AV) (fs:List (Nat × Nat × Option Bool)):Jv ⟨size,bytes,.slice e,zero,fs⟩ pv=some (.int .i64 ps.length):=by
 rcases h with⟨rfl,_,rfl⟩|⟨b,_,rfl,_⟩
 ·simp
 ·simp
theorem Wd.view {M:Aa} {pv:AV} {pb ps:List Nat} (h:Wd M pv pb ps):Bx M Aa.emp pv (.sl 1 (An ps)):=by
 rcases h with⟨rfl,_,rfl⟩|⟨b,_,rfl,h⟩
 ·exact .nilsl 1
 ·refine .osl b 1 0 ps.length _ _ h rfl rfl (by simp) (by simp) fun j u u' g1 g2=>?_;simp only[Nat.zero_add]at g1;rw[g1]at g2;cases g2;exact .same _
structure Dl (M:Aa) (c B:Nat) (bs:List Nat) (rows:List (List RR)) (x pv:AV) (pb ps:List Nat):Prop where
 mat:Ea M B bs rows
 cell:M c=some ⟨118,1,[x]⟩
 piv:Wd M pv pb ps
 only:Dr M (c::B::(bs++pb))
 cB:c≠B
 cb:c ∉ bs
 pB:B ∉ pb
 pc:c ∉ pb
 pd:∀b∈pb,b ∉ bs
section
variable {M:Aa} {c B:Nat} {bs:List Nat} {rows:List (List RR)} {x pv:AV} {pb ps:List Nat}
theorem Qc8 {x:AV} {e:Int} (h:Ge x e):x.cells.all AV.one=true:=by unfold Ge at h;rw[h];rfl
theorem Dl.nc (h:Dl M c B bs rows x pv pb ps) {i:Nat} (hi:i<rows.length):nb bs i≠c:=fun e=>h.cb (e ▸ Ew (by rw[h.mat.len];exact hi))
theorem Dl.np (h:Dl M c B bs rows x pv pb ps) {i:Nat} (hi:i<rows.length):nb bs i ∉ pb:=fun e=>h.pd _ e (Ew (by rw[h.mat.len];exact hi))
theorem Dl.setE (h:Dl M c B bs rows x pv pb ps) (x':AV):Dl (M.set c ⟨118,1,[x']⟩) c B bs rows x' pv pb ps :=
 ⟨h.mat.other h.cB h.cb _,by simp,h.piv.keep fun b hb=>by simp only[A3];rw[if_neg (by rintro rfl;exact h.pc hb)],h.only.set (by simp) _,h.cB,h.cb,h.pB,h.pc,h.pd⟩
theorem Dl.setRow (h:Dl M c B bs rows x pv pb ps) {i:Nat} (hi:i<rows.length) (r:List RR) (hr:r.length=(Al rows i).length):Dl (M.set (nb bs i) ⟨44,4,Ct r⟩) c B bs (rows.set i r) x pv pb ps :=
 ⟨h.mat.setRow hi r hr,by simp only[A3];rw[if_neg (Ne.symm (h.nc hi))];exact h.cell,h.piv.keep fun b hb=>by simp only[A3];rw[if_neg (by rintro rfl;exact h.np hi hb)],
  h.only.set (by simp[Ew (show i<bs.length by rw[h.mat.len];exact hi)]) _,h.cB,h.cb,h.pB,h.pc,h.pd⟩
theorem Dl.ones (h:Dl M c B bs rows x pv pb ps) {e:Int} (hx:Ge x e):∀(b:Nat) (y:Et),M b=some y→∀v∈y.l,v.cells.all AV.one=true:=by
 refine h.mat.ones (l:=c::pb) (h.only.sub fun b hb=>by simp at hb ⊢;rcases hb with h | h | h | h<;>simp[h]) fun b hb y hy=>?_
 rcases List.mem_cons.1 hb with rfl|hb
 ·rw[h.cell]at hy;cases hy;intro v hv;simp at hv;subst hv;exact Qc8 hx
 ·rcases h.piv with⟨_,h1,_⟩|⟨b',h1,_,h3⟩
  ·rw[h1]at hb;cases hb
  ·rw[h1]at hb;simp at hb;subst hb;rw[h3]at hy;cases hy;exact Cl ps
theorem Dl.back (h:Dl M c B bs rows x pv pb ps) {g:Aa} {bs':List Nat} {rows':List (List RR)} (hg:Ea g B bs' rows') (ho:Dr g (B::bs)) (hb:∀b,b∈bs'↔b∈bs):Dl (M.back (B::bs) g) c B bs' rows' x pv pb ps:=by
 have hout:∀b,b ∉ B::bs→(M.back (B::bs) g) b=M b:=fun b hb=>Hd (ho.none hb) hb;refine⟨hg.back _,by rw[hout c (by simp[h.cB,h.cb])];exact h.cell,h.piv.keep fun b hb'=>hout b ?_,fun b hb'=>?_,h.cB,fun hh=>h.cb ((hb _).1 hh),h.pB,h.pc,fun b h1 h2=>h.pd b h1 ((hb _).1 h2)⟩
 ·simp only[List.mem_cons,not_or];exact⟨by rintro rfl;exact h.pB hb',h.pd b hb'⟩
 ·by_cases hm:b∈B::bs
  ·simp only[List.mem_cons,List.mem_append,hb]at hm ⊢;rcases hm with h | h<;>simp[h]
  ·rw[hout b hm]at hb';have:=h.only b hb';simp only[List.mem_cons,List.mem_append,hb]at this ⊢;exact this
theorem Dl.matOnly (h:Dl M c B bs rows x pv pb ps):Ea (M.only (B::bs)) B bs rows∧Dr (M.only (B::bs)) (B::bs) :=
 ⟨h.mat.only fun b hb=>by simpa using hb,Qbz _ _⟩
theorem Dl.fresh (h:Dl M c B bs rows x pv pb ps) {b:Nat} (hb:M b=none):b≠c∧b≠B∧b ∉ bs∧b ∉ pb:=by
 refine⟨(by rintro rfl;rw[h.cell]at hb;cases hb),(by rintro rfl;rw[h.mat.top]at hb;cases hb),fun hm=>?_,fun hm=>?_⟩
 ·obtain⟨i,hi,e⟩:=List.mem_iff_getElem.1 hm;rw[←Ij hi]at e;have:=h.mat.row i (by rw[←h.mat.len];exact hi);rw[e,hb]at this;cases this
 ·rcases h.piv with⟨_,h1,_⟩|⟨b',h1,_,h3⟩
  ·rw[h1]at hm;cases hm
  ·rw[h1]at hm;simp at hm;subst hm;rw[h3]at hb;cases hb
theorem Dl.push0 (h:Dl M c B bs rows x .nil [] []) {b:Nat} (hb:M b=none) (j:Nat):Dl (M.set b ⟨3,1,[.int .i64 (j:Nat)]⟩) c B bs rows x (.osl b 1 0 1) [b] [j]:=by
 obtain⟨f1,f2,f3,_⟩:=h.fresh hb;refine⟨h.mat.other f2 f3 _,by simp only[A3];rw[if_neg (Ne.symm f1)];exact h.cell,.inr ⟨b,rfl,rfl,by simp[An]⟩,?_,h.cB,h.cb,by simpa using Ne.symm f2,by simpa using Ne.symm f1,by simpa using f3⟩;exact(h.only.sub fun a ha=>by simp at ha ⊢;rcases ha with h | h | h<;>simp[h]).set (by simp) _
theorem Dl.push1 {b0:Nat} (h:Dl M c B bs rows x (.osl b0 1 0 ps.length) [b0] ps) {b:Nat} (hb:(M.del b0) b=none) (j:Nat):Dl ((M.del b0).set b ⟨3,1,An ps++[.int .i64 (j:Nat)]⟩) c B bs rows x (.osl b 1 0 (ps.length+1)) [b] (ps++[j]):=by
 have hB:B≠b0:=by have:=h.pB;simpa using this
 have hc:c≠b0:=by have:=h.pc;simpa using this
 have hd:b0 ∉ bs:=h.pd b0 (by simp);have hh:Dl (M.del b0) c B bs rows x .nil [] []:=by
  have hdel:∀a,a≠b0→(M.del b0) a=M a:=fun a ha=>if_neg ha;refine⟨⟨by rw[hdel B hB];exact h.mat.top,h.mat.len,fun i hi=>?_,h.mat.nd,h.mat.nB⟩,by rw[hdel c hc];exact h.cell,.inl ⟨rfl,rfl,rfl⟩,fun a ha=>?_,h.cB,h.cb,by simp,by simp,by simp⟩
  ·rw[hdel _ (fun e=>hd (e ▸ Ew (by rw[h.mat.len];exact hi)))];exact h.mat.row i hi
  ·have h1:a≠b0:=by
    rintro rfl;exact ha (if_pos rfl)
   rw[hdel a h1]at ha;have:=h.only a ha;simp at this ⊢;rcases this with h | h | h | h
   ·exact .inl h
   ·exact .inr (.inl h)
   ·exact .inr (.inr h)
   ·exact absurd h h1
 obtain⟨f1,f2,f3,_⟩:=hh.fresh hb;refine⟨hh.mat.other f2 f3 _,by simp only[A3];rw[if_neg (Ne.symm f1)];exact hh.cell,.inr ⟨b,rfl,by simp,by simp[D5]⟩,?_,h.cB,h.cb,by simpa using Ne.symm f2,by simpa using Ne.symm f1,by simpa using f3⟩;exact(hh.only.sub fun a ha=>by simp at ha ⊢;rcases ha with h | h | h<;>simp[h]).set (by simp) _
end
end Go.Av
end
section
namespace Go.Av
open Go.Proofs
theorem Qfr (M:Aa) (l:List Nat):M.back l (M.only l)=M:=by
 funext b
 by_cases hb:b∈l
 ·rw[Qcz hb,Bv hb]
 ·rw[Hd (Bo hb) hb]
def Qge (c B:Nat) (X0:List (List Rat)) (v:AV) (M':Aa):Prop :=
 ∃x',M' c=some ⟨118,1,[x']⟩∧(∀b y,M' b=some y→∀v∈y.l,v.cells.all AV.one=true)∧match Gd X0 with
 |none=>Ge x' 2
 |some z=>Ge x' 0∧∃bs' pb,Dl M' c B bs' (Cs z.1) x' v pb z.2
structure Qn2 where
 X:List (List Rat)
 ps:List Nat
 M:Aa
 bs:List Nat
 pv:AV
 pb:List Nat
 x:AV
structure Vr where
 M:Aa
 rows:List (List RR)
 x:AV
 e:Int
def Qum (X0:List (List Rat)) (c B w j:Nat) (s:Qn2):Prop :=
 Bd Da j (X0,[])=some (s.X,s.ps)∧D4 s.X∧Jz s.X w∧s.X.length=X0.length∧s.ps.length≤j∧Dl s.M c B s.bs (Cs s.X) s.x s.pv s.pb s.ps∧Ge s.x 0
def Jw (c B:Nat) (bs:List Nat) (pv:AV) (pb ps:List Nat) (w n:Nat) (Z:Option (List (List Rat))) (s:Vr):Prop :=
 Dl s.M c B bs s.rows s.x pv pb ps∧Ge s.x s.e∧Z4 s.rows∧Jz s.rows w∧s.rows.length=n∧Ts s.e s.rows Z
theorem Jw.row {op:Rat→Nat→Option Rat} (hop:∀q k x,op q k=some x→B4 x) {c B:Nat} {bs:List Nat} {pv:AV} {pb ps:List Nat} {w n:Nat} {Z0:Option (List (List Rat))} {s:Vr} (h:Jw c B bs pv pb ps w n Z0 s) {i k:Nat} (hi:i<n) (hk:k<w)
  {Z:Option (List (List Rat) × List Rat)} (hZ:Z0=Z.map fun z=>z.1.set i z.2) {e':Int} {y:RR} {x':AV} (hx:Ge x' e') (hy:y.Lb) (h1:s.e≠0→e'=s.e) (h2:s.e=0→match op (rr (Al s.rows i) k).q k with | some z=>e'=0∧y=Be z | none=>e'=2) :
  Jw c B bs pv pb ps w n (Z.bind fun z=>(H1 op k z.2).map fun row=>z.1.set i row) ⟨(s.M.set c ⟨118,1,[x']⟩).set (nb bs i) ⟨44,4,Ct ((Al s.rows i).set k y)⟩,s.rows.set i ((Al s.rows i).set k y),x',e'⟩:=by
 obtain⟨g1,g2,g3,g4,g5,g6⟩:=h;exact⟨(g1.setE x').setRow (by omega) _ (by simp),hx,g3.set i (Qpp (g3.row i) k hy),g4.set (by rw[List.length_set];exact g4 i (by omega)),by simp[g5],Qh5 hop g5 hi g4 hk hZ g6 h1 h2⟩
theorem Ts.mono {e:Int} {rows:List (List RR)} {Z Z':Option (List (List Rat))} (h:Ts e rows Z) (hZ:Z'=Z):Ts e rows Z':=hZ ▸ h
theorem Jw.to {c B:Nat} {bs:List Nat} {pv:AV} {pb ps:List Nat} {w n:Nat} {Z Z':Option (List (List Rat))} {s:Vr} (h:Jw c B bs pv pb ps w n Z s) (hZ:Z'=Z):Jw c B bs pv pb ps w n Z' s:=hZ ▸ h
theorem Qhl {e:Int} {a b f:RR} {bq fq:Rat} (hb:e=0→b.q=bq∧f.q=fq) {e1:Int} {p:RR} (hp:C2 e b (Em b.q f.q)=(e1,p)) :
  (e≠0→(C2 e1 a (Dj a.q p.q)).1=e)∧(e=0→match Uf a.q fq bq with | some z=>(C2 e1 a (Dj a.q p.q)).1=0∧(C2 e1 a (Dj a.q p.q)).2=Be z | none=>(C2 e1 a (Dj a.q p.q)).1=2):=by
 constructor
 ·intro he;rw[Ky he]at hp;cases hp;rw[Ky he]
 ·intro he;obtain⟨h1,h2⟩:=hb he;unfold Uf;rw[h1,h2]at hp;cases hm:Em bq fq with
  |none =>
   rw[hm,Oj he]at hp;cases hp;show(C2 2 a _).1=2
   rw[Ky (by omega)]
  |some m =>
   rw[hm,Lg he]at hp;cases hp;rw[Gt];exact Qdm rfl
theorem Qj5 {e:Int} {b f:RR} (hg:∀z,Em b.q f.q=some z→B4 z) {e1:Int} {p:RR} (hp:C2 e b (Em b.q f.q)=(e1,p)) (h1:e1=0):e=0∧p.ok=true:=by
 by_cases he:e=0
 ·refine⟨he,?_⟩;cases hm:Em b.q f.q with
  |none=>rw[hm,Oj he]at hp;cases hp;omega
  |some m =>
   rw[hm,Lg he]at hp;cases hp;exact Ex (hg m hm)
 ·rw[Ky he]at hp;cases hp;exact absurd h1 he
theorem Ud {a f b c:Rat} (h:Uf a f b=some c):B4 c:=by
 unfold Uf at h;cases hm:Em b f with
 |none=>rw[hm]at h;cases h
 |some m=>rw[hm]at h;exact Xo h
theorem Uy {M:List (List Rat)} {j r i:Nat} (h:Qbv M j r=some i):i<M.length∧r≤i∧Ju M i j≠0:=by
 obtain⟨h1,h2,_⟩:=Qbd h;simp at h2;exact⟨h1,h2.1,h2.2⟩
theorem Vw (M0:Aa) (c B:Nat) (bs0:List Nat) (X0:List (List Rat)) (x0:AV) (w:Nat) (hR0:Dl M0 c B bs0 (Cs X0) x0 .nil [] []) (hx0:Ge x0 0) (hg0:D4 X0) (hd0:Jz X0 w) (hw:w=(Al X0 0).length) (hn:X0.length<2^40) (hw2:w<2^40) :
  Aj Tryz.prog 101 [.ptr c 1 0 0,.osl B 1 0 X0.length] M0 (Qge c B X0):=by
 have hwid:=Si (Cs X0);have e0:(Al (Cs X0) 0).length=w:=by rw[Ch,List.length_map,hw]
 have hv0:=hR0.mat.view;rw[Bi]at hv0;rw[e0]at hwid;have hq:Gd X0=Bd Da w (X0,[]):=by unfold Gd;rw[hw]
 generalize hN:X0.length=n at *;refine Ad Tryz.func101 rfl rfl 129 rfl (Nat.le_of_ble_eq_true rfl) ?_;(repeat refine AW.seq_k fun K hK=>?_);refine AW.rg ?_;simp[Ak];try (refine hK _ rfl ?_;clear hK K)
 refine AW.scope ?_;(repeat refine AW.seq_k fun K hK=>?_);refine AW.rg ?_;simp;try (refine hK _ rfl ?_;clear hK K)
 refine AW.seq (AW.label ?_);intro _;refine AW.seq_ex (ι:=Aa × AV) (fun z=>[(5,z.2)]) (fun z=>z.1) (fun z=>Qge c B X0 z.2 z.1) ?_ ?_
 ·(repeat refine AW.seq_k fun K hK=>?_);refine AW.rg ?_;simp;try (refine hK _ rfl ?_;clear hK K)
  refine Ac.borrow [A8 (Cs X0)] (by simpa using hv0) hwid ?_;rintro _ rfl;refine⟨rfl,?_⟩;simp;refine hK _ rfl ?_;clear hK K;refine AW.block (AW.loopS (ι:=Nat × Qn2) (fun z=>[(0,.ptr c 1 0 0),(1,.osl B 1 0 n),(5,z.2.pv),(16,.int .i64 w),(17,.int .i64 (z.1:Nat))]) (fun z=>z.2.M) (fun z=>z.1≤w∧Qum X0 c B w z.1 z.2) (fun z=>w-z.1) (0,⟨X0,[],M0,bs0,.nil,[],x0⟩) ⟨by simp,rfl,hg0,hd0,rfl,by simp,hR0,hx0⟩ rfl (by simp) ?_);rintro⟨j,X,ps,M,bs,pv,pb,x⟩ ⟨hjw,i1,i2,i3,i4,i5,i6,i7⟩;simp only at hjw i1 i2 i3 i4 i5 i6 i7;rw[hN]at i4;simp only
  (repeat refine AW.seq_k fun K hK=>?_);refine AW.rg ?_;simp;try (refine hK _ rfl ?_;clear hK K)
  (repeat refine AW.seq ?_);refine AW.cs (fun hj=>?_) (fun hj=>?_) rfl<;>(try simp at hj)
  ·refine AW.skip ?_;try simp
   have w1:=Aq (j+1) (by omega);have hlen:=i6.piv.len;refine AW.seq_ex (ι:=Qn2) (fun s=>[(0,.ptr c 1 0 0),(1,.osl B 1 0 n),(5,s.pv),(16,.int .i64 w),(17,.int .i64 (j:Nat))]) (fun s=>s.M) (fun s=>Qum X0 c B w (j+1) s) ?_ ?_
   ·(repeat refine AW.seq ?_);refine AW.block ?_;(repeat refine AW.seq_k fun K hK=>?_);refine AW.rg ?_;simp;try (refine hK _ rfl ?_;clear hK K)
    (repeat refine AW.seq_k fun K hK=>?_);refine AW.rg ?_;simp[hlen];try (refine hK _ rfl ?_;clear hK K)
    have hp:=Qbp _ B bs (Cs X) i6.matOnly.1 i6.matOnly.2 (Wo X) w j ps.length (Qdi i3) hj (by rw[Bi];omega) hw2 (by omega);rw[Bi,i4]at hp;(repeat refine AW.seq_k fun K hK=>?_);refine AW.rg ?_;simp;try (refine hK _ rfl ?_;clear hK K)
    refine Ac.hand (B::bs) (by simp) hp ?_;intro v g hv _;unfold Vm at hv;rw[Qhv i2 i3 hj]at hv;have hcol:Bd Da (j+1) (X0,[])=Da j (X,ps):=by rw[Ef,i1];rfl
    cases hpq:Qbv X j ps.length with
    |none =>
     rw[hpq]at hv;obtain⟨rfl,rfl⟩:=hv;rw[Qfr];simp;refine hK _ rfl ?_;clear hK K;(repeat refine AW.seq_k fun K hK=>?_);refine AW.rg ?_;simp;try (refine hK _ rfl ?_;clear hK K)
     refine AW.yes ?_ rfl;refine AW.exit ?_;try simp
     refine⟨⟨X,ps,M,bs,pv,pb,x⟩,⟨?_,i2,i3,by rw[hN];exact i4,by show ps.length≤j+1;omega,i6,i7⟩,by simp⟩;rw[hcol];unfold Da;simp only[hpq]
    |some i =>
     rw[hpq]at hv;obtain⟨rfl,hg1,hg2⟩:=hv;obtain⟨p1,p2,p3⟩:=Uy hpq;rw[i4]at p1;have hr:ps.length<n:=by omega
     have hR1:=i6.back hg1 hg2 (fun b=>K2 (bs:=bs) (i:=i) (r:=ps.length) (by rw[i6.mat.len,Bi,i4];exact p1) (by rw[i6.mat.len,Bi,i4];exact hr) b);rw[←Yn]at hR1;have hcol:Bd Da (j+1) (X0,[])=(Km (Di X i ps.length) j ps.length).map fun M=>(M,ps++[j]):=by rw[hcol];unfold Da;simp only[hpq]
     have hX1:D4 (Di X i ps.length):=i2.swap _ _;have hd1:Jz (Di X i ps.length) w:=i3.swap (by omega) (by omega);have hn1:(Di X i ps.length).length=n:=by rw[I9,i4]
     have hdq:Ju (Di X i ps.length) ps.length j≠0:=by
      unfold Ju;rw[K7 (by omega) (by omega),if_pos rfl];exact p3
     generalize Di X i ps.length=X1 at *;generalize M.back (B::bs) g=M1 at *;generalize Fe bs i ps.length=bs1 at *;generalize decide (i≠ps.length)=sw;simp;refine hK _ rfl ?_;clear hK K;(repeat refine AW.seq_k fun K hK=>?_);refine AW.rg ?_;simp;try (refine hK _ rfl ?_;clear hK K)
     refine AW.no ?_ rfl;refine AW.skip ?_;try simp
     refine hK _ rfl ?_;clear hK K;have hrl:(Al (Cs X1) ps.length).length=w:=by rw[Ch,List.length_map];exact hd1 _ (by omega)
     have hre:ps.length<(Cs X1).length:=by rw[Bi,hn1];exact hr
     have hde:rr (Al (Cs X1) ps.length) j=Be (Ju X1 ps.length j):=by rw[Ch,Jn (by rw[hd1 _ (by omega)];exact hj)];rfl
     have hd0:B4 (Ju X1 ps.length j):=hX1.at (by rw[hd1 _ (by omega)];exact hj);(repeat refine AW.seq_k fun K hK=>?_);refine AW.rg ?_;simp[hr,hR1.mat.top,↓hR1.mat.get hre,hR1.mat.row ps.length hre,hrl,hj];try (refine hK _ rfl ?_;clear hK K)
     refine Ag.intro fun b10 hb10=>?_;refine hK _ rfl ?_;clear hK K;have hdlb:(rr (Al (Cs X1) ps.length) j).Lb:=Ls ((Wo X1).row _) j;generalize hrr:ps.length=r at *;generalize hdr:rr (Al (Cs X1) r) j=dr at *;refine AW.turn [(0,.ptr c 1 0 0),(1,.osl B 1 0 n),(5,pv),(16,.int .i64 w),(17,.int .i64 (j:Nat)),(6,.int .i64 (j:Nat)),(7,.int .i64 r),(10,.rptr [.bool dr.n1,Am dr.l1,.bool dr.n2,Am dr.l2])] M1 (Bj.drop hb10 (hR1.ones i7)) ?_ ?_
     ·simp[K9 hb10]
     generalize hrow0:Al X1 r=row0 at *;generalize hd:Ju X1 r j=d at *;refine AW.seq_ex (ι:=Vr) (fun s=>[(0,.ptr c 1 0 0),(1,.osl B 1 0 n),(5,pv),(16,.int .i64 w),(17,.int .i64 (j:Nat)),(6,.int .i64 (j:Nat)),(7,.int .i64 r),(10,.rptr [.bool dr.n1,Am dr.l1,.bool dr.n2,Am dr.l2])]) (fun s=>s.M) (fun s=>Jw c B bs1 pv pb ps w n ((Bd (Cw d) w row0).map fun row=>X1.set r row) s) ?_ ?_
     ·(repeat refine AW.seq_k fun K hK=>?_);refine AW.rg ?_;simp[hr,hR1.mat.top,↓hR1.mat.get hre,hrl];try (refine hK _ rfl ?_;clear hK K)
      refine AW.block (AW.loopS (ι:=Nat × Vr) (fun z=>[(0,.ptr c 1 0 0),(1,.osl B 1 0 n),(5,pv),(16,.int .i64 w),(17,.int .i64 (j:Nat)),(6,.int .i64 (j:Nat)),(7,.int .i64 r),(10,.rptr [.bool dr.n1,Am dr.l1,.bool dr.n2,Am dr.l2]),(42,.int .i64 w),(43,.int .i64 (z.1:Nat))]) (fun z=>z.2.M) (fun z=>z.1≤w∧Jw c B bs1 pv pb ps w n ((Bd (Cw d) z.1 row0).map fun row=>X1.set r row) z.2) (fun z=>w-z.1) (0,⟨M1,Cs X1,x,0⟩) ⟨by simp,hR1,i7,Wo X1,Qdi hd1,by rw[Bi,hn1],?_⟩ rfl (by simp) ?_)
      ·show Ts 0 (Cs X1) (some (X1.set r row0))
       rw[←hrow0,Gf (by omega),List.set_getElem_self];exact⟨rfl,rfl,hX1⟩
      rintro⟨k,M,rows,x,e⟩ ⟨g1,g2,g3,g4,g5,g6,g7⟩;simp only at g1 g2 g3 g4 g5 g6 g7;(repeat refine AW.seq_k fun K hK=>?_);refine AW.rg ?_;simp;try (refine hK _ rfl ?_;clear hK K)
      (repeat refine AW.seq ?_);refine AW.cs (fun hk=>?_) (fun hk=>?_) rfl<;>(try simp at hk)
      ·refine AW.skip ?_;try simp
       (repeat refine AW.seq ?_);refine AW.block ?_;(repeat refine AW.seq_k fun K hK=>?_);refine AW.rg ?_;simp;try (refine hK _ rfl ?_;clear hK K)
       have hrr':r<rows.length:=by omega
       have hlr:=g5 r hrr';(repeat refine AW.seq_k fun K hK=>?_);refine AW.rdT [] [10] [] [B,nb bs1 r] [0,1,2,3,4,5,6,7,8,9,10,11,12,13,14,15,16] Ds (by simp[hr,hk,g2.mat.top,↓g2.mat.get hrr',g2.mat.row r hrr',hlr]) (by simp[hr,hk,g2.mat.top,↓g2.mat.get hrr',g2.mat.row r hrr',hlr]) (by simp[hr,hk,g2.mat.top,↓g2.mat.get hrr',g2.mat.row r hrr',hlr]) (by simp[hr,hk,g2.mat.top,↓g2.mat.get hrr',g2.mat.row r hrr',hlr]) (by simp[hr,hk,g2.mat.top,↓g2.mat.get hrr',g2.mat.row r hrr',hlr]) ?_;simp[hr,hk,g2.mat.top,↓g2.mat.get hrr',g2.mat.row r hrr',hlr]
       try (refine hK _ rfl ?_;clear hK K)
       have nB:=Ne.symm g2.cB;have nR:=g2.nc hrr';have n0:=g2.mat.ne hrr';refine Qo8 (a:=rr (Al rows r) k) (b:=dr) g2.cell (by simp[nB,Ne.symm nR,g2.cB]) g3 (Ls (g4.row r) k) hdlb (fun he=>⟨V1 g7 he (by rw[hlr];exact hk),by rw[hde];exact Ex hd0,by rw[hde,Gt];exact hdq⟩) ?_;intro x' hx';simp[hr,hk,nR,n0,g2.mat.row r hrr',hlr];have w2:=Aq (k+1) (by omega);(repeat refine AW.seq_k fun K hK=>?_);refine AW.rg ?_;simp[-Int.natCast_add,w2];try (refine hK _ rfl ?_;clear hK K)
       have hs:=Jw.row (op:=fun q _=>Gq q d) (y:=(C2 e (rr (Al rows r) k) (Gq (rr (Al rows r) k).q dr.q)).2) (fun q k x hx=>Yc hdq hx) (s:=⟨M,rows,x,e⟩) ⟨g2,g3,g4,g5,g6,g7⟩ hr hk (Z:=(Bd (Cw d) k row0).map fun row=>(X1,row)) (by cases Bd (Cw d) k row0<;>rfl) hx' (Vn (Ls (g4.row r) k)) (fun he=>by rw[Ky he]) (fun he=>by
        have:=Qdm (a:=rr (Al rows r) k) (q:=Gq (rr (Al rows r) k).q dr.q) he;rw[hde,Gt]at this ⊢;exact this)
       exact⟨k+1,_,⟨hk,hs.to (by rw[Ef];cases Bd (Cw d) k row0<;>rfl)⟩,by omega,rfl,rfl⟩
      ·refine AW.exit ?_;try simp
       have:k=w:=by omega
       subst this;exact⟨⟨M,rows,x,e⟩,⟨g2,g3,g4,g5,g6,g7⟩,rfl⟩
     rintro⟨M2,rows2,x2,e2⟩ hs2;simp only;refine AW.seq_ex (ι:=Vr) (fun s=>[(0,.ptr c 1 0 0),(1,.osl B 1 0 n),(5,pv),(16,.int .i64 w),(17,.int .i64 (j:Nat)),(6,.int .i64 (j:Nat)),(7,.int .i64 r),(10,.rptr [.bool dr.n1,Am dr.l1,.bool dr.n2,Am dr.l2])]) (fun s=>s.M) (fun s=>Jw c B bs1 pv pb ps w n ((Bd (Cw d) w row0).bind fun row=>Bd (Cj r j) n (X1.set r row)) s) ?_ ?_
     ·(repeat refine AW.seq_k fun K hK=>?_);refine AW.rg ?_;simp;try (refine hK _ rfl ?_;clear hK K)
      refine AW.block (AW.loopS (ι:=Nat × Vr) (fun z=>[(0,.ptr c 1 0 0),(1,.osl B 1 0 n),(5,pv),(16,.int .i64 w),(17,.int .i64 (j:Nat)),(6,.int .i64 (j:Nat)),(7,.int .i64 r),(10,.rptr [.bool dr.n1,Am dr.l1,.bool dr.n2,Am dr.l2]),(64,.int .i64 n),(65,.int .i64 (z.1:Nat))]) (fun z=>z.2.M) (fun z=>z.1≤n∧Jw c B bs1 pv pb ps w n ((Bd (Cw d) w row0).bind fun row=>Bd (Cj r j) z.1 (X1.set r row)) z.2) (fun z=>n-z.1) (0,⟨M2,rows2,x2,e2⟩) ⟨by simp,hs2.to (by cases Bd (Cw d) w row0<;>rfl)⟩ rfl (by simp) ?_)
      rintro⟨i,M,rows,x,e⟩ ⟨g1,g2,g3,g4,g5,g6,g7⟩;simp only at g1 g2 g3 g4 g5 g6 g7;generalize hZ:((Bd (Cw d) w row0).bind fun row=>Bd (Cj r j) i (X1.set r row))=Z at g7;have hZ1:((Bd (Cw d) w row0).bind fun row=>Bd (Cj r j) (i+1) (X1.set r row))=Z.bind (Cj r j i):=by
       rw[←hZ];cases Bd (Cw d) w row0<;>rfl
      (repeat refine AW.seq_k fun K hK=>?_);refine AW.rg ?_;simp;try (refine hK _ rfl ?_;clear hK K)
      (repeat refine AW.seq ?_);refine AW.cs (fun hi=>?_) (fun hi=>?_) rfl<;>(try simp at hi)
      ·refine AW.skip ?_;try simp
       have hi':i<rows.length:=by omega
       have hr':r<rows.length:=by omega
       have hli:=g5 i hi';have hlr:=g5 r hr';have w3:=Aq (i+1) (by omega);refine AW.seq_ex (ι:=Vr) (fun s=>[(0,.ptr c 1 0 0),(1,.osl B 1 0 n),(5,pv),(16,.int .i64 w),(17,.int .i64 (j:Nat)),(6,.int .i64 (j:Nat)),(7,.int .i64 r),(10,.rptr [.bool dr.n1,Am dr.l1,.bool dr.n2,Am dr.l2]),(64,.int .i64 n),(65,.int .i64 (i:Nat))]) (fun s=>s.M) (fun s=>Jw c B bs1 pv pb ps w n ((Bd (Cw d) w row0).bind fun row=>Bd (Cj r j) (i+1) (X1.set r row)) s) ?_ ?_
       ·(repeat refine AW.seq ?_);refine AW.block ?_;(repeat refine AW.seq_k fun K hK=>?_);refine AW.rg ?_;simp;try (refine hK _ rfl ?_;clear hK K)
        (repeat refine AW.seq_k fun K hK=>?_);refine AW.rg ?_;simp[hi,g2.mat.top,↓g2.mat.get hi',g2.mat.row i hi',hli,hj];try (refine hK _ rfl ?_;clear hK K)
        refine Ag.intro fun b13 hb13=>?_;refine hK _ rfl ?_;clear hK K;have hflb:(rr (Al rows i) j).Lb:=Ls (g4.row i) j;have hfq:∀X',Z=some X'→rr (Al rows i) j=Be (Ju X' i j)∧B4 (Ju X' i j):=by
         intro X' hX';subst hX';obtain⟨_,m2,m3⟩:e=0∧rows=Cs X'∧D4 X':=g7;subst m2;have hjl:j<(Al X' i).length:=by rw[Ch,List.length_map]at hli;omega
         exact⟨by rw[Ch,Jn hjl];rfl,m3.at hjl⟩
        have hsg:=Mn _ hflb;generalize hfr:rr (Al rows i) j=fr at *;refine AW.turn [(0,.ptr c 1 0 0),(1,.osl B 1 0 n),(5,pv),(16,.int .i64 w),(17,.int .i64 (j:Nat)),(6,.int .i64 (j:Nat)),(7,.int .i64 r),(10,.rptr [.bool dr.n1,Am dr.l1,.bool dr.n2,Am dr.l2]),(64,.int .i64 n),(65,.int .i64 (i:Nat)),(12,.int .i64 (i:Nat)),(13,.rptr [.bool fr.n1,Am fr.l1,.bool fr.n2,Am fr.l2])] M (Bj.drop hb13 (g2.ones g3)) ?_ ?_
        ·simp[K9 hb13]
        have hskip:i=r∨Db fr=0→((Bd (Cw d) w row0).bind fun row=>Bd (Cj r j) (i+1) (X1.set r row))=Z:=by
         intro h;rw[hZ1];cases Z with
         |none=>rfl
         |some X' =>
          obtain⟨q1,q2⟩:=hfq X' rfl;have:i=r∨Ju X' i j=0:=h.imp id fun h=>by rw[q1,Om q2]at h;exact Ml.1 h
          exact if_pos this
        refine AW.seq_ex (ι:=Unit) (fun _=>[(0,.ptr c 1 0 0),(1,.osl B 1 0 n),(5,pv),(16,.int .i64 w),(17,.int .i64 (j:Nat)),(6,.int .i64 (j:Nat)),(7,.int .i64 r),(10,.rptr [.bool dr.n1,Am dr.l1,.bool dr.n2,Am dr.l2]),(64,.int .i64 n),(65,.int .i64 (i:Nat)),(12,.int .i64 (i:Nat)),(13,.rptr [.bool fr.n1,Am fr.l1,.bool fr.n2,Am fr.l2])]) (fun _=>M) (fun _=>i≠r∧Db fr≠0) ?_ ?_
        ·by_cases hir:i=r
         ·(repeat refine AW.seq_k fun K hK=>?_);refine AW.rg ?_;simp[hir];try (refine hK _ rfl ?_;clear hK K)
          refine AW.yes ?_ rfl;refine AW.exit ?_;try simp
          exact⟨⟨M,rows,x,e⟩,Jw.to ⟨g2,g3,g4,g5,g6,g7⟩ (hskip (.inl hir)),by simp[hir]⟩
         ·(repeat refine AW.seq_k fun K hK=>?_);refine AW.rg ?_;simp[hir];try (refine hK _ rfl ?_;clear hK K)
          refine Ac.val hsg ?_;simp;refine hK _ rfl ?_;clear hK K;(repeat refine AW.seq ?_);refine AW.cs (fun h0=>?_) (fun h0=>?_) rfl<;>(try simp at h0)
          ·refine AW.exit ?_;try simp
           exact⟨⟨M,rows,x,e⟩,Jw.to ⟨g2,g3,g4,g5,g6,g7⟩ (hskip (.inr h0)),by simp⟩
          ·refine AW.skip ?_;try simp
           exact⟨hir,h0⟩
        rintro _ ⟨h1,h2⟩;have hgo:∀X',Z=some X'→Cj r j i X'=(Bd (Fp (Al X' r) (Ju X' i j)) (Al X' i).length (Al X' i)).map (X'.set i):=by
         intro X' hX';obtain⟨q1,q2⟩:=hfq X' hX';refine if_neg ?_;rintro(h | h)
         ·exact h1 h
         ·exact h2 (by rw[q1,Om q2];exact Ml.2 h)
        clear hskip;have hZl:∀X',Z=some X'→X'.length=n∧∀k,k<n→(Al X' k).length=w:=by
         intro X' hX';subst hX';obtain⟨_,m2,_⟩:e=0∧rows=Cs X'∧D4 X':=g7;subst m2;rw[Bi]at g6;exact⟨g6,fun k hk=>by have:=g5 k (by rw[Bi];omega);rwa [Ch,List.length_map]at this⟩
        have hend:((Bd (Cw d) w row0).bind fun row=>Bd (Cj r j) (i+1) (X1.set r row))=Z.bind fun X'=>(Bd (Fp (Al X' r) (Ju X' i j)) w (Al X' i)).map (X'.set i):=by
         rw[hZ1];cases hZ2:Z with
         |none=>rfl
         |some X' =>
          show Cj r j i X'=_
          rw[hgo X' hZ2,(hZl X' hZ2).2 i hi];rfl
        have hbeg:(Z.bind fun X'=>(Bd (Fp (Al X' r) (Ju X' i j)) 0 (Al X' i)).map (X'.set i))=Z:=by
         cases hZ2:Z with
         |none=>rfl
         |some X' =>
          have:=(hZl X' hZ2).1;show some (X'.set i (Al X' i))=some X'
          rw[Gf (by omega),List.set_getElem_self]
        (repeat refine AW.seq_k fun K hK=>?_);refine AW.rg ?_;simp[hi,g2.mat.top,↓g2.mat.get hi',hli];try (refine hK _ rfl ?_;clear hK K)
        refine AW.block (AW.loopS (ι:=Nat × Vr) (fun z=>[(0,.ptr c 1 0 0),(1,.osl B 1 0 n),(5,pv),(16,.int .i64 w),(17,.int .i64 (j:Nat)),(6,.int .i64 (j:Nat)),(7,.int .i64 r),(10,.rptr [.bool dr.n1,Am dr.l1,.bool dr.n2,Am dr.l2]),(64,.int .i64 n),(65,.int .i64 (i:Nat)),(12,.int .i64 (i:Nat)),(13,.rptr [.bool fr.n1,Am fr.l1,.bool fr.n2,Am fr.l2]),(87,.int .i64 w),(88,.int .i64 (z.1:Nat))]) (fun z=>z.2.M) (fun z=>z.1≤w∧Jw c B bs1 pv pb ps w n (Z.bind fun X'=>(Bd (Fp (Al X' r) (Ju X' i j)) z.1 (Al X' i)).map (X'.set i)) z.2) (fun z=>w-z.1) (0,⟨M,rows,x,e⟩) ⟨by simp,Jw.to ⟨g2,g3,g4,g5,g6,g7⟩ hbeg⟩ rfl (by simp) ?_)
        clear hbeg;clear g2 g3 g4 g5 g6 hi' hr' hli hlr;rintro⟨k,M,rows,x,e⟩ ⟨g1,g2,g3,g4,g5,g6,g8⟩;simp only at g1 g2 g3 g4 g5 g6 g8;(repeat refine AW.seq_k fun K hK=>?_);refine AW.rg ?_;simp;try (refine hK _ rfl ?_;clear hK K)
        (repeat refine AW.seq ?_);refine AW.cs (fun hk=>?_) (fun hk=>?_) rfl<;>(try simp at hk)
        ·refine AW.skip ?_;try simp
         (repeat refine AW.seq ?_);refine AW.block ?_;(repeat refine AW.seq_k fun K hK=>?_);refine AW.rg ?_;simp;try (refine hK _ rfl ?_;clear hK K)
         have hi':i<rows.length:=by omega
         have hr':r<rows.length:=by omega
         have hli:=g5 i hi';have hlr:=g5 r hr';have nB:=Ne.symm g2.cB;have nI:=g2.nc hi';have nR:=g2.nc hr';have n0:=g2.mat.ne hi';have hb:e=0→(rr (Al rows r) k).q=Dy (Al (Z.getD []) r) k∧fr.q=Ju (Z.getD []) i j:=by
          intro he;cases hZ2:Z with
          |none=>rw[hZ2]at g8;have:e=2:=g8;omega
          |some X' =>
           rw[hZ2]at g8;obtain⟨q1,q2⟩:=hfq X' hZ2;show _=Dy (Al X' r) k∧fr.q=Ju X' i j
           refine⟨?_,by rw[q1,Gt]⟩;replace g8:Ts e rows ((Bd (Fp (Al X' r) (Ju X' i j)) k (Al X' i)).map (X'.set i)):=g8;cases hit:Bd (Fp (Al X' r) (Ju X' i j)) k (Al X' i)with
           |none=>rw[hit]at g8;have:e=2:=g8;omega
           |some row =>
            rw[hit]at g8;obtain⟨_,m2,_⟩:e=0∧rows=Cs (X'.set i row)∧D4 (X'.set i row):=g8;rw[m2,Ch,Hr (by rw[(hZl X' hZ2).1];exact hi),if_neg (Ne.symm h1),Jn (by rw[(hZl X' hZ2).2 r hr];exact hk),Gt]
         (repeat refine AW.seq_k fun K hK=>?_);refine AW.rdT [] [13] [] [B,nb bs1 i,nb bs1 r] [0,1,2,3,4,5,6,7,8,9,10,11,12,13,14,15,16,17,18,19,20,21,22,23,24,25] Ds (by simp[hi,hr,hk,g2.mat.top,↓g2.mat.get hi',↓g2.mat.get hr',g2.mat.row i hi',g2.mat.row r hr',hli,hlr]) (by simp[hi,hr,hk,g2.mat.top,↓g2.mat.get hi',↓g2.mat.get hr',g2.mat.row i hi',g2.mat.row r hr',hli,hlr]) (by simp[hi,hr,hk,g2.mat.top,↓g2.mat.get hi',↓g2.mat.get hr',g2.mat.row i hi',g2.mat.row r hr',hli,hlr]) (by simp[hi,hr,hk,g2.mat.top,↓g2.mat.get hi',↓g2.mat.get hr',g2.mat.row i hi',g2.mat.row r hr',hli,hlr]) (by simp[hi,hr,hk,g2.mat.top,↓g2.mat.get hi',↓g2.mat.get hr',g2.mat.row i hi',g2.mat.row r hr',hli,hlr]) ?_
         simp[hi,hr,hk,g2.mat.top,↓g2.mat.get hi',↓g2.mat.get hr',g2.mat.row i hi',g2.mat.row r hr',hli,hlr];try (refine hK _ rfl ?_;clear hK K)
         have hfok:e=0→fr.ok=true:=by
          intro he;cases hZ2:Z with
          |none=>rw[hZ2]at g8;have:e=2:=g8;omega
          |some X'=>obtain⟨q1,q2⟩:=hfq X' hZ2;rw[q1];exact Ex q2
         refine Qof (a:=rr (Al rows r) k) (b:=fr) g2.cell (by simp[nB,Ne.symm nR,Ne.symm nI,g2.cB]) g3 (Ls (g4.row r) k) hflb (fun he=>⟨V1 g8 he (by rw[hlr];exact hk),hfok he⟩) ?_;intro x1 hx1;have hplb:(C2 e (rr (Al rows r) k) (Em (rr (Al rows r) k).q fr.q)).2.Lb:=Vn (Ls (g4.row r) k);have hlo:=Qhl (a:=rr (Al rows i) k) hb (e1:=(C2 e (rr (Al rows r) k) (Em (rr (Al rows r) k).q fr.q)).1) (p:=(C2 e (rr (Al rows r) k) (Em (rr (Al rows r) k).q fr.q)).2) rfl;have hlk:=Qj5 (b:=rr (Al rows r) k) (f:=fr) (e:=e) (fun z hz=>Qgi hz) (e1:=(C2 e (rr (Al rows r) k) (Em (rr (Al rows r) k).q fr.q)).1) (p:=(C2 e (rr (Al rows r) k) (Em (rr (Al rows r) k).q fr.q)).2) rfl
         generalize(C2 e (rr (Al rows r) k) (Em (rr (Al rows r) k).q fr.q))=ep at *;obtain⟨e1,p⟩:=ep;simp only at hx1 hplb hlo hlk;simp;refine Qhb (a:=rr (Al rows i) k) (b:=p) (Aa.set_same _ _ _) (by simp[nB,Ne.symm nR,Ne.symm nI,g2.cB]) hx1 (Ls (g4.row i) k) hplb (fun he=>⟨V1 g8 (hlk he).1 (by rw[hli];exact hk),(hlk he).2⟩) ?_;intro x2 hx2;simp[hi,hk,nI,nR,n0,g2.mat.row i hi',hli];have w2:=Aq (k+1) (by omega);(repeat refine AW.seq_k fun K hK=>?_);refine AW.rg ?_;simp[-Int.natCast_add,w2];try (refine hK _ rfl ?_;clear hK K)
         have hs:=Jw.row (op:=fun q k=>Uf q (Ju (Z.getD []) i j) (Dy (Al (Z.getD []) r) k)) (y:=(C2 e1 (rr (Al rows i) k) (Dj (rr (Al rows i) k).q p.q)).2) (fun q k x hx=>Ud hx) (s:=⟨M,rows,x,e⟩) ⟨g2,g3,g4,g5,g6,g8⟩ hi hk (Z:=Z.bind fun X'=>(Bd (Fp (Al X' r) (Ju X' i j)) k (Al X' i)).map fun row=>(X',row)) (by
          cases Z with
          |none=>rfl
          |some X' =>
           show(Bd _ k (Al X' i)).map _=_
           cases hit:Bd (Fp (Al X' r) (Ju X' i j)) k (Al X' i)<;>simp[hit]) hx2 (Vn (Ls (g4.row i) k)) hlo.1 hlo.2
         exact⟨k+1,_,⟨hk,hs.to (by
          cases Z with
          |none=>rfl
          |some X' =>
           show(Bd _ (k+1) (Al X' i)).map _=_
           rw[Ef];cases hit:Bd (Fp (Al X' r) (Ju X' i j)) k (Al X' i)with
           |none=>simp[hit]
           |some row=>simp[hit];rfl)⟩,by omega,rfl,rfl⟩
        ·refine AW.exit ?_;try simp
         have:k=w:=by omega
         subst this;exact⟨⟨M,rows,x,e⟩,Jw.to ⟨g2,g3,g4,g5,g6,g8⟩ hend,rfl⟩
       rintro⟨M3,rows3,x3,e3⟩ hs3;(repeat refine AW.seq_k fun K hK=>?_);refine AW.rg ?_;simp[-Int.natCast_add,w3];try (refine hK _ rfl ?_;clear hK K)
       exact⟨i+1,⟨M3,rows3,x3,e3⟩,⟨hi,hs3⟩,by omega,rfl,rfl⟩
      ·refine AW.exit ?_;try simp
       have:i=n:=by omega
       subst this;exact⟨⟨M,rows,x,e⟩,⟨g2,g3,g4,g5,g6,hZ ▸ g7⟩,rfl⟩
     rintro⟨M3,rows3,x3,e3⟩ ⟨g1,g2,g3,g4,g5,g6⟩;simp only at g1 g2 g3 g4 g5 g6;simp only;have hcl:Km X1 j r=(Bd (Cw d) w row0).bind fun row=>Bd (Cj r j) n (X1.set r row):=by
      unfold Km;rw[hd,hrow0,hn1,show row0.length=w by rw[←hrow0];exact hd1 r (by omega)]
     rw[hcl]at hcol;refine AW.seq_ex (ι:=Aa × Nat) (fun z=>[(0,.ptr c 1 0 0),(1,.osl B 1 0 n),(5,.osl z.2 1 0 (r+1)),(16,.int .i64 w),(17,.int .i64 (j:Nat))]) (fun z=>z.1) (fun z=>Dl z.1 c B bs1 rows3 x3 (.osl z.2 1 0 (r+1)) [z.2] (ps++[j])) ?_ ?_
     ·rcases g1.piv with⟨z1,z2,z3⟩|⟨b0,z2,z3,z4⟩
      ·subst z1 z2 z3;have hr0:r=0:=hrr.symm;subst hr0;(repeat refine AW.seq_k fun K hK=>?_);refine AW.rgR [120] ?_;simp;try (refine hK _ rfl ?_;clear hK K)
       exact⟨by unfold maxLen;omega,Ag.intro fun b hb=>g1.push0 hb j⟩
      ·subst z2 z3;have hps:ps.length<2^40:=by omega
       (repeat refine AW.seq_k fun K hK=>?_);refine AW.rgR [120] ?_;simp[z4];try (refine hK _ rfl ?_;clear hK K)
       refine⟨by omega,by unfold maxLen;omega,Ag.intro fun b hb=>⟨_,b,?_,rfl,rfl,hrr⟩⟩;have:=g1.push1 hb j
       rwa [hrr]at this
     rintro⟨M4,b4⟩ hR4;simp only at hR4;have hx3:x3.cells=[.int .i64 e3]:=g2;(repeat refine AW.seq_k fun K hK=>?_);refine AW.rg ?_;simp[hR4.cell,hx3];try (refine hK _ rfl ?_;clear hK K)
     (repeat refine AW.seq ?_);refine AW.cs (fun he=>?_) (fun he=>?_) rfl<;>(try simp at he)
     ·refine AW.exit ?_;try simp
      have hno:Bd Da (j+1) (X0,[])=none:=by
       rw[hcol];generalize((Bd (Cw d) w row0).bind fun row=>Bd (Cj r j) n (X1.set r row))=Z at g6;cases Z with
       |none=>rfl
       |some Y=>exact absurd g6.1 he
      have he2:e3=2:=by
       generalize((Bd (Cw d) w row0).bind fun row=>Bd (Cj r j) n (X1.set r row))=Z at g6;cases Z with
       |none=>exact g6
       |some Y=>exact absurd g6.1 he
      refine⟨x3,hR4.cell,hR4.ones g2,?_⟩;rw[hq,Xs hno (by omega)];rw[he2]at g2;exact g2
     ·refine AW.skip ?_;try simp
      generalize((Bd (Cw d) w row0).bind fun row=>Bd (Cj r j) n (X1.set r row))=Z at g6 hcol;cases Z with
      |none=>have:e3=2:=g6;omega
      |some Y =>
       obtain⟨_,m2,m3⟩:e3=0∧rows3=Cs Y∧D4 Y:=g6;subst m2;refine⟨⟨Y,ps++[j],M4,bs1,.osl b4 1 0 (r+1),[b4],x3⟩,⟨hcol,m3,?_,?_,by simp[hrr];omega,hR4,he ▸ g2⟩,rfl,rfl⟩
       ·intro i hi;have:=g4 i (by rw[Bi];exact hi)
        rwa [Ch,List.length_map]at this
       ·rw[Bi]at g5;rw[hN];exact g5
   rintro⟨X,ps,M,bs,pv,pb,x⟩ hs;(repeat refine AW.seq_k fun K hK=>?_);refine AW.rg ?_;simp[-Int.natCast_add,w1];try (refine hK _ rfl ?_;clear hK K)
   exact⟨j+1,⟨X,ps,M,bs,pv,pb,x⟩,⟨hj,hs⟩,by omega,by simp⟩
  ·refine AW.exit ?_;try simp
   have:j=w:=by omega
   subst this;refine⟨x,i6.cell,i6.ones i7,?_⟩;rw[hq,i1];exact⟨i7,bs,pb,i6⟩
 rintro⟨M,pv⟩ hs;(repeat refine AW.seq_k fun K hK=>?_);refine AW.rg ?_;simp;try (refine hK _ rfl ?_;clear hK K)
 obtain⟨x',h1,h2,h3⟩:=hs;exact AW.ret (B0 rfl h2 ⟨x',h1,h2,h3⟩)
end Go.Av
end
section
namespace Go.Av
open Go.Proofs
section
variable {P:Program} {av:Nat→Prop} {f:FuncId} {args:List AV} {m:Aa} {k:AV→Aa→Prop}
theorem Ac.news {R:AV→Aa→Prop} (h:Aj P f args Aa.emp R) (hk:∀v g,R v g→(∀b,g b≠none→m b=none∧¬av b)→k v (m.back [] g)):Ac P av f args m k:=by
 have e:m.only []=Aa.emp:=by funext b;rfl
 refine Ac.hand [] (by simp) (by rw[e];exact h) fun v g hr hf=>hk v g hr fun b hb=>?_;rcases hf b hb with h | h
 ·cases h
 ·exact h
theorem Ac.whole {R:AV→Aa→Prop} (hav:∀b,¬av b) (h:Aj P f args m R) (hk:∀v g,R v g→k v g):Ac P av f args m k:=by
 refine .inl ⟨m,R,fun c y hy=>⟨hy,hav c⟩,h,fun v g hr _=>?_⟩;have e:Eg m m g=g:=by
  funext c
  unfold Eg;cases g c with
  |some x=>rfl
  |none=>cases hm:m c<;>rfl
 rw[e];exact hk v g hr
end
def Wz (m:List (List RR)):List (List Rat):=m.map fun r=>r.map RR.q
theorem Ji (m:List (List RR)):(Wz m).length=m.length:=by simp[Wz]
theorem Lk (m:List (List RR)) (i:Nat):Al (Wz m) i=(Al m i).map RR.q:=by
 unfold Al Wz;rw[List.getD_eq_getElem?_getD,List.getD_eq_getElem?_getD,List.getElem?_map];cases m[i]?<;>rfl
theorem Qgm {m:List (List RR)} (h:chk m=0):¬(64<m.length∨J5 m)∧Oe m:=by
 by_cases h1:64<m.length∨J5 m
 ·rw[Wq h1]at h;omega
 ·refine⟨h1,?_⟩;by_cases h2:Oe m
  ·exact h2
  ·rw[Vx h1 h2]at h;omega
theorem Qco {m:List (List RR)} {r:List RR} (h:r∈m):∃i,i<m.length∧Al m i=r:=by
 obtain⟨i,hi,e⟩:=List.mem_iff_getElem.1 h;exact⟨i,hi,by rw[Gf hi,e]⟩
theorem Qp8 {r:List RR} {x:RR} (h:x∈r):∃j,j<r.length∧rr r j=x:=by
 obtain⟨j,hj,e⟩:=List.mem_iff_getElem.1 h;exact⟨j,hj,by rw[Lx hj,e]⟩
theorem Qc0 {m:List (List RR)} (hm:Z4 m) (h:chk m=0):m=Cs (Wz m)∧D4 (Wz m)∧Jz (Wz m) (Al (Wz m) 0).length∧m.length≤64∧(Al (Wz m) 0).length≤64:=by
 obtain⟨h1,h2⟩:=Qgm h;have hok:∀r∈m,∀x∈r,x.ok=true:=by
  intro r hr x hx;obtain⟨i,hi,rfl⟩:=Qco hr;obtain⟨j,hj,rfl⟩:=Qp8 hx;exact(h2 i hi).2 j hj
 refine⟨?_,?_,?_,?_,?_⟩
 ·unfold Cs Wz;rw[List.map_map]
  conv=>lhs;rw[←List.map_id m]
  refine List.map_congr_left fun r hr=>?_;show r=(r.map RR.q).map Be
  rw[List.map_map]
  conv=>lhs;rw[←List.map_id r]
  refine List.map_congr_left fun x hx=>?_;exact(Ek (hm r hr x hx) (hok r hr x hx)).2
 ·intro r hr q hq;obtain⟨s,hs,rfl⟩:=List.mem_map.1 hr;obtain⟨x,hx,rfl⟩:=List.mem_map.1 hq;exact(Ek (hm s hs x hx) (hok s hs x hx)).1
 ·intro i hi;rw[Lk,Lk,List.length_map,List.length_map];exact(h2 i (by rwa [Ji]at hi)).1
 ·rcases Nat.lt_or_ge 64 m.length with h|h
  ·exact absurd (.inl h) h1
  ·exact h
 ·rw[Lk,List.length_map];rcases Nat.lt_or_ge 64 (Al m 0).length with h | h
  ·rcases Nat.eq_zero_or_pos m.length with h0|h0
   ·have:m=[]:=List.eq_nil_of_length_eq_zero h0;subst this;simp[Al]at h
   ·exact absurd (.inr ⟨0,h0,h⟩) h1
  ·exact h
/-! ### What the steps keep -/
def Gc (r:List Rat):Prop:=∀q∈r,B4 q
theorem O6 {α:Type} {f:Nat→α→Option α} {p:α→Prop} (h:∀i s t,p s→f i s=some t→p t):∀{n:Nat} {s t:α},p s→Bd f n s=some t→p t
 |0,s,t,hs,he=>by cases he;exact hs
 |n+1,s,t,hs,he=>by
  rw[Ef]at he;cases hm:Bd f n s with
  |none=>rw[hm]at he;cases he
  |some u=>rw[hm]at he;exact h n u t (O6 h hs hm) he
theorem Ng {op:Rat→Nat→Option Rat} (hop:∀q k x,op q k=some x→B4 x) {w k:Nat} {row row':List Rat} (h:Gc row∧row.length=w) (he:H1 op k row=some row'):Gc row'∧row'.length=w:=by
 unfold H1 at he;cases ho:op (Dy row k) k with
 |none=>rw[ho]at he;cases he
 |some z=>rw[ho]at he;cases he;exact⟨Xt h.1 k (hop _ _ _ ho),by simpa using h.2⟩
def De (n w:Nat) (M:List (List Rat)):Prop:=D4 M∧Jz M w∧M.length=n
theorem De.set {n w:Nat} {M:List (List Rat)} (h:De n w M) (i:Nat) {r:List Rat} (hr:Gc r∧r.length=w):De n w (M.set i r) :=
 ⟨h.1.set i hr.1,h.2.1.set hr.2,by simpa using h.2.2⟩
theorem De.row {n w:Nat} {M:List (List Rat)} (h:De n w M) {i:Nat} (hi:i<n):Gc (Al M i)∧(Al M i).length=w:=⟨h.1.row i,h.2.1 i (by rw[h.2.2];exact hi)⟩
theorem De.swap {n w:Nat} {M:List (List Rat)} (h:De n w M) {i j:Nat} (hi:i<n) (hj:j<n):De n w (Di M i j):=(h.set i (h.row hj)).set j (h.row hi)
theorem Qfy {n w r j i:Nat} {M M':List (List Rat)} (hi:i<n) (h:De n w M) (he:Cj r j i M=some M'):De n w M':=by
 unfold Cj at he;split at he
 ·cases he;exact h
 ·cases hm:Bd (Fp (Al M r) (Ju M i j)) (Al M i).length (Al M i)with
  |none=>rw[hm]at he;cases he
  |some row =>
   rw[hm]at he;cases he;exact h.set i (O6 (p:=fun row=>Gc row∧row.length=w) (fun k s t hs hst=>Ng (fun q k x hx=>Ud hx) hs hst) (h.row hi) hm)
theorem Te {α:Type} {f:Nat→α→Option α} {p:α→Prop}:∀{n:Nat} (h:∀i s t,i<n→p s→f i s=some t→p t) {s t:α},p s→Bd f n s=some t→p t
 |0,_,s,t,hs,he=>by cases he;exact hs
 |n+1,h,s,t,hs,he=>by
  rw[Ef]at he;cases hm:Bd f n s with
  |none=>rw[hm]at he;cases he
  |some u=>rw[hm]at he;exact h n u t (by omega) (Te (fun i s t hi=>h i s t (by omega)) hs hm) he
theorem Qbn {n w r j:Nat} {M M':List (List Rat)} (hr:r<n) (h:De n w M) (hd:Ju M r j≠0) (he:Km M j r=some M'):De n w M':=by
 unfold Km at he;cases hm:Bd (Cw (Ju M r j)) (Al M r).length (Al M r)with
 |none=>rw[hm]at he;cases he
 |some row =>
  rw[hm]at he;have h1:=O6 (p:=fun row=>Gc row∧row.length=w) (fun k s t hs hst=>Ng (fun q k x hx=>Yc hd hx) hs hst) (h.row hr) hm;have he':Bd (Cj r j) n (M.set r row)=some M':=by rw[←h.2.2];exact he
  exact Te (p:=De n w) (fun i s t hi hs hst=>Qfy hi hs hst) (h.set r h1) he'
def Ja (n w j:Nat) (z:List (List Rat) × List Nat):Prop:=De n w z.1∧z.2.length≤n∧z.2.length≤j∧∀p∈z.2,p<j
theorem Qiu {n w j:Nat} {z z':List (List Rat) × List Nat} (h:Ja n w j z) (he:Da j z=some z'):Ja n w (j+1) z':=by
 obtain⟨h1,h2,h3,h4⟩:=h;unfold Da at he;cases hp:Qbv z.1 j z.2.length with
 |none=>simp only[hp]at he;cases he;exact⟨h1,h2,by omega,fun p hp=>by have:=h4 p hp;omega⟩
 |some i =>
  simp only[hp]at he;obtain⟨p1,p2,p3⟩:=Uy hp;rw[h1.2.2]at p1;have hr:z.2.length<n:=by omega
  cases hc:Km (Di z.1 i z.2.length) j z.2.length with
  |none=>rw[hc]at he;cases he
  |some M =>
   rw[hc]at he;cases he;refine⟨Qbn hr (h1.swap p1 hr) ?_ hc,by simp;omega,by simp;omega,fun p hp=>?_⟩
   ·unfold Ju;rw[K7 (by rw[h1.2.2];exact p1) (by rw[h1.2.2];exact hr),if_pos rfl];exact p3
   ·simp at hp;rcases hp with hp | rfl
    ·have:=h4 p hp;omega
    ·omega
theorem O5 {n w:Nat} {z0:List (List Rat) × List Nat} (h:Ja n w 0 z0):∀{j:Nat} {z:List (List Rat) × List Nat},Bd Da j z0=some z→Ja n w j z
 |0,z,he=>by cases he;exact h
 |j+1,z,he=>by
  rw[Ef]at he;cases hm:Bd Da j z0 with
  |none=>rw[hm]at he;cases he
  |some u=>rw[hm]at he;exact Qiu (O5 h hm) he
theorem Pe {n w:Nat} {M:List (List Rat)} (h:De n w M) {z:List (List Rat) × List Nat} (he:Gd M=some z):Ja n (w) ((Al M 0).length) z :=
 O5 (z0:=(M,[])) ⟨h,by simp,by simp,by simp⟩ he
/-! ### Reduce -/
theorem Qft {X:List (List Rat)} (h:D4 X):Qhg (Cs X):=by
 intro r hr x hx;obtain⟨s,hs,rfl⟩:=List.mem_map.1 hr;obtain⟨q,hq,rfl⟩:=List.mem_map.1 hx;have:=h s hs q hq;have key:∀n,n<Bf→(Ao n).length<2^40:=fun n hn=>by
  have:=Bc hn;omega
 exact⟨key _ this.1,key _ this.2⟩
noncomputable def H9 (m:List (List RR)):Int × List (List Rat) × List Nat :=
 if chk m≠0 then (chk m,[],[]) else match Gd (Wz m)with
  |none=>(2,[],[])
  |some z=>(0,z.1,z.2)
theorem Dl.start {X:List (List Rat)} {c:Nat} {x:AV} {g:Aa} {B:Nat} {bs:List Nat} (hg:Ea g B bs (Cs X)) (ho:Dr g (B::bs)) (hf:∀b,g b≠none→(Aa.emp.set c ⟨118,1,[x]⟩) b=none) :
  Dl ((Aa.emp.set c ⟨118,1,[x]⟩).back [] g) c B bs (Cs X) x .nil [] []:=by
 have hc:g c=none:=by
  cases h:g c with
  |none=>rfl
  |some y=>have:=hf c (by rw[h];simp);simp at this
 refine⟨hg.back _,by rw[Hd hc (by simp)];simp,.inl ⟨rfl,rfl,rfl⟩,fun b hb=>?_,?_,fun hm=>?_,by simp,by simp,by simp⟩
 ·cases h:g b with
  |some y=>have:=ho b (by rw[h];simp);simp at this ⊢;exact .inr this
  |none =>
   rw[Hd h (by simp)]at hb;by_cases e:b=c
   ·simp[e]
   ·simp[e]at hb
 ·rintro rfl;rw[hg.top]at hc;cases hc
 ·obtain⟨i,hi,e⟩:=List.mem_iff_getElem.1 hm;rw[←Ij hi]at e;have:=hg.row i (by rw[←hg.len];exact hi);rw[e,hc]at this;cases this
theorem Vv (m:List (List RR)) (hm:Z4 m):Aj Tryz.prog 66 [A8 m] Aa.emp fun v mm=>v=.tup [A8 (Cs (H9 m).2.1),.sl 1 (An (H9 m).2.2),.int .i64 (H9 m).1]∧mm=Aa.emp:=by
 have hck:=Qb9 m hm;by_cases h0:chk m=0
 ·obtain⟨h1,h2,h3,h4,h5⟩:=Qc0 hm h0;have hR:H9 m=match Gd (Wz m)with
   |none=>(2,[],[])
   |some z=>(0,z.1,z.2):=by unfold H9;rw[if_neg (by simp[h0])]
  have hlen:=Ji m;rw[h0]at hck;have hcl:=Qa8 m (by rw[h1];exact Qft h2) (by omega) (fun r hr=>by
   obtain⟨i,hi,rfl⟩:=Qco hr;have:=h3 i (by rw[hlen];exact hi);rw[Lk,List.length_map]at this;omega)
  rw[hR];clear hR;generalize Wz m=X at *;subst h1;rw[Bi]at *;have hrd:=fun(M0:Aa) (c B:Nat) (bs0:List Nat) (x0:AV) (hR0:Dl M0 c B bs0 (Cs X) x0 .nil [] []) (hx0:Ge x0 0)=>Vw M0 c B bs0 X x0 _ hR0 hx0 h2 h3 rfl (by omega) (by omega);refine Ad Tryz.func66 rfl rfl 32 rfl (Nat.le_of_ble_eq_true rfl) ?_;(repeat refine AW.seq_k fun K hK=>?_);refine AW.rg ?_;simp[Ak];try (refine hK _ rfl ?_;clear hK K)
  (repeat refine AW.seq_k fun K hK=>?_);refine AW.rg ?_;simp;try (refine hK _ rfl ?_;clear hK K)
  refine Ac.val hck ?_;simp;refine hK _ rfl ?_;clear hK K;(repeat refine AW.seq_k fun K hK=>?_);refine AW.rg ?_;simp;try (refine hK _ rfl ?_;clear hK K)
  refine AW.no ?_ rfl;refine AW.skip ?_;try simp
  refine hK _ rfl ?_;clear hK K;(repeat refine AW.seq_k fun K hK=>?_);refine AW.rg ?_;simp;try (refine hK _ rfl ?_;clear hK K)
  refine Ag.intro fun c hc=>?_;refine hK _ rfl ?_;clear hK K;(repeat refine AW.seq_k fun K hK=>?_);refine AW.rg ?_;simp;try (refine hK _ rfl ?_;clear hK K)
  refine Ac.news hcl ?_;rintro _ g ⟨B,bs,rfl,g1,g2⟩ hf;have hM:=Dl.start g1 g2 (c:=c) (x:=.agg [.int .i64 0]) (fun b hb=>(hf b hb).1);generalize(Aa.emp.set c ⟨118,1,[.agg [.int .i64 0]]⟩).back [] g=M at *;simp;refine hK _ rfl ?_;clear hK K;(repeat refine AW.seq_k fun K hK=>?_);refine AW.rg ?_;simp;try (refine hK _ rfl ?_;clear hK K)
  refine Ac.whole (by simp) (hrd M c B bs _ hM rfl) ?_;rintro v M' ⟨x',q1,q2,q3⟩;simp;refine hK _ rfl ?_;clear hK K;cases hq:Gd X with
  |none =>
   rw[hq]at q3;have hx':x'.cells=[.int .i64 2]:=q3;(repeat refine AW.seq_k fun K hK=>?_);refine AW.rg ?_;simp[q1,hx'];try (refine hK _ rfl ?_;clear hK K)
   refine AW.yes ?_ rfl;(repeat refine AW.seq_k fun K hK=>?_);refine AW.rdA c [0,1,2,3,4,5,6] Ds (by simp[q1,hx']) ?_;simp[q1,hx'];try (refine hK _ rfl ?_;clear hK K)
   exact AW.ret (Ai [A8 [],.sl 1 [],.int .i64 2] rfl ⟨.nilsl 1,.nilsl 1,.same _,trivial⟩ ⟨rfl,rfl⟩)
  |some z =>
   obtain⟨Y,ps⟩:=z;rw[hq]at q3;obtain⟨q3,bs',pb,q4⟩:=q3;have hx':x'.cells=[.int .i64 0]:=q3;(repeat refine AW.seq_k fun K hK=>?_);refine AW.rg ?_;simp[q1,hx'];try (refine hK _ rfl ?_;clear hK K)
   refine AW.no ?_ rfl;refine AW.skip ?_;try simp
   refine hK _ rfl ?_;clear hK K;(repeat refine AW.seq_k fun K hK=>?_);refine AW.rg ?_;simp;try (refine hK _ rfl ?_;clear hK K)
   have hk:=Pe ⟨h2,h3,rfl⟩ hq;have hv:=q4.mat.view;rw[Bi,hk.1.2.2]at hv;exact AW.ret (Ai [A8 (Cs Y),.sl 1 (An ps),.int .i64 0] rfl ⟨hv,q4.piv.view,.same _,trivial⟩ ⟨rfl,rfl⟩)
 ·have hR:H9 m=(chk m,[],[]):=by unfold H9;rw[if_pos h0]
  rw[hR];generalize chk m=e at *;refine Ad Tryz.func66 rfl rfl 32 rfl (Nat.le_of_ble_eq_true rfl) ?_;(repeat refine AW.seq_k fun K hK=>?_);refine AW.rg ?_;simp[Ak];try (refine hK _ rfl ?_;clear hK K)
  (repeat refine AW.seq_k fun K hK=>?_);refine AW.rg ?_;simp;try (refine hK _ rfl ?_;clear hK K)
  refine Ac.val hck ?_;simp;refine hK _ rfl ?_;clear hK K;(repeat refine AW.seq_k fun K hK=>?_);refine AW.rg ?_;simp[h0];try (refine hK _ rfl ?_;clear hK K)
  refine AW.yes ?_ rfl;(repeat refine AW.seq_k fun K hK=>?_);refine AW.rg ?_;simp;try (refine hK _ rfl ?_;clear hK K)
  exact AW.ret (Ai [A8 [],.sl 1 [],.int .i64 e] rfl ⟨.nilsl 1,.nilsl 1,.same _,trivial⟩ ⟨rfl,rfl⟩)
end Go.Av
end
section
namespace Go.Av
open Go.Proofs
@[simp high] theorem Qg4 (P:Program) (size bytes:Nat) (e:TypeId) (zero:AV) (fs:List (Nat × Nat × Option Bool)) (k:IntKind) (n:Int) (l:List Nat):Br P ⟨size,bytes,.slice e,zero,fs⟩ (.sl 1 (An l)) (.int k n)=(Ah P e).bind fun te=>if 1=te.size∧0≤n∧n<l.length then some (.rptr [.int .i64 ((l.getD n.toNat 0:Nat):Int)]) else none:=by
 rw[G4]
 congr 1
 funext te
 rw[J4];by_cases h:1=te.size∧0≤n∧n<l.length
 ·rw[if_pos h,if_pos h];have h1:n.toNat<l.length:=by omega
  unfold An;rw[List.getD_eq_getElem?_getD,List.getD_eq_getElem?_getD,List.getElem?_map,List.getElem?_eq_getElem h1];rfl
 ·rw[if_neg h,if_neg h]
theorem Yj {M M':Aa} {b n:Nat} {e:TypeId} {r:List RR} (hb:M b=some ⟨e,4,Ct r⟩) (hb':M' b=none) (hn:r.length=n):Bx M M' (.osl b 4 0 n) (A6 r):=by
 refine .osl b 4 0 n _ _ hb hb' rfl (by simp[hn]) (by simp[hn]) fun j u u' g1 g2=>?_;simp only[Nat.zero_add]at g1;rw[g1]at g2;cases g2;exact .same _
theorem Aa.set_self {m:Aa} {b:Nat} {x:Et} (h:m b=some x):m.set b x=m:=by
 funext k
 simp only[A3];split
 ·rename_i e;rw[e,h]
 ·rfl
theorem Rk {m:Aa} {b c:Nat} (h:c≠b) (x x' y y':Et):(((m.set c x).set b y).set c x').set b y'=(m.set c x').set b y':=by
 funext k
 simp only[A3];by_cases h1:k=b
 ·simp[h1]
 ·by_cases h2:k=c
  ·subst h2;simp[h]
  ·simp[h1,h2]
def Ny (M:Aa) (ty:TypeId) (z:Nat) (ov:AV) (ob:List Nat) (l:List AV):Prop :=
 (l=[]∧ob=[]∧ov=.nil)∨∃b,ob=[b]∧ov=.osl b z 0 l.length∧M b=some ⟨ty,z,l⟩
theorem Ny.keep {M M':Aa} {ty:TypeId} {z:Nat} {ov:AV} {ob:List Nat} {l:List AV} (h:Ny M ty z ov ob l) (hm:∀b∈ob,M' b=M b):Ny M' ty z ov ob l:=by
 rcases h with h|⟨b,h1,h2,h3⟩
 ·exact .inl h
 ·exact .inr ⟨b,h1,h2,by rw[hm b (by simp[h1])];exact h3⟩
theorem Ny.len {M:Aa} {ty:TypeId} {z:Nat} {ov:AV} {ob:List Nat} {l:List AV} (h:Ny M ty z ov ob l) (size bytes:Nat) (e:TypeId) (zero:AV) (fs:List (Nat × Nat × Option Bool)):Jv ⟨size,bytes,.slice e,zero,fs⟩ ov=some (.int .i64 l.length):=by
 rcases h with⟨rfl,_,rfl⟩|⟨b,_,rfl,_⟩
 ·simp
 ·simp
theorem Ny.view {M M':Aa} {ty:TypeId} {z:Nat} {ov:AV} {ob:List Nat} {l:List AV} (h:Ny M ty z ov ob l) (hm:∀b∈ob,M' b=none):Bx M M' ov (.sl z l):=by
 rcases h with⟨rfl,_,rfl⟩|⟨b,h1,rfl,h⟩
 ·exact .nilsl z
 ·refine .osl b z 0 l.length _ _ h (hm b (by simp[h1])) rfl rfl (by simp) fun j u u' g1 g2=>?_;simp only[Nat.zero_add]at g1;rw[g1]at g2;cases g2;exact .same _
structure Iw (M:Aa) (c:Nat) (x:AV) (ty:TypeId) (z:Nat) (ov:AV) (ob:List Nat) (l:List AV):Prop where
 cell:M c=some ⟨118,1,[x]⟩
 lst:Ny M ty z ov ob l
 only:Dr M (c::ob)
 pc:c ∉ ob
section
variable {M:Aa} {c:Nat} {x ov:AV} {ty:TypeId} {z:Nat} {ob:List Nat} {l:List AV}
theorem Iw.setE (h:Iw M c x ty z ov ob l) (x':AV):Iw (M.set c ⟨118,1,[x']⟩) c x' ty z ov ob l :=
 ⟨by simp,h.lst.keep fun b hb=>by simp only[A3];rw[if_neg (by rintro rfl;exact h.pc hb)],h.only.set (by simp) _,h.pc⟩
theorem Iw.fresh (h:Iw M c x ty z ov ob l) {b:Nat} (hb:M b=none):b≠c∧b ∉ ob:=by
 refine⟨(by rintro rfl;rw[h.cell]at hb;cases hb),fun hm=>?_⟩;rcases h.lst with⟨_,h1,_⟩ | ⟨b',h1,_,h3⟩
 ·rw[h1]at hm;cases hm
 ·rw[h1]at hm;simp at hm;subst hm;rw[h3]at hb;cases hb
theorem Iw.ones (h:Iw M c x ty z ov ob l) {e:Int} (hx:Ge x e) (hl:∀v∈l,v.cells.all AV.one=true):∀(b:Nat) (y:Et),M b=some y→∀v∈y.l,v.cells.all AV.one=true:=by
 intro b y hy;have:=h.only b (by rw[hy];simp);rcases List.mem_cons.1 this with rfl | hb
 ·rw[h.cell]at hy;cases hy;intro v hv;simp at hv;subst hv;exact Qc8 hx
 ·rcases h.lst with⟨_,h1,_⟩|⟨b',h1,_,h3⟩
  ·rw[h1]at hb;cases hb
  ·rw[h1]at hb;simp at hb;subst hb;rw[h3]at hy;cases hy;exact hl
theorem Iw.start (c:Nat) (x:AV) (ty:TypeId) (z:Nat):Iw (Aa.emp.set c ⟨118,1,[x]⟩) c x ty z .nil [] [] :=
 ⟨by simp,.inl ⟨rfl,rfl,rfl⟩,fun b hb=>by
  by_cases e:b=c
  ·simp[e]
  ·simp[e]at hb,by simp⟩
theorem Iw.push0 (h:Iw M c x ty z .nil [] []) {b:Nat} (hb:M b=none) (v:AV):Iw (M.set b ⟨ty,z,[v]⟩) c x ty z (.osl b z 0 1) [b] [v]:=by
 obtain⟨f1,_⟩:=h.fresh hb;refine⟨by simp only[A3];rw[if_neg (Ne.symm f1)];exact h.cell,.inr ⟨b,rfl,rfl,by simp⟩,?_,by simpa using Ne.symm f1⟩;exact(h.only.sub fun a ha=>by simp at ha ⊢;exact .inl ha).set (by simp) _
theorem Iw.push1 {b0:Nat} (h:Iw M c x ty z (.osl b0 z 0 l.length) [b0] l) {b:Nat} (hb:(M.del b0) b=none) (v:AV):Iw ((M.del b0).set b ⟨ty,z,l++[v]⟩) c x ty z (.osl b z 0 (l.length+1)) [b] (l++[v]):=by
 have hc:c≠b0:=by have:=h.pc;simpa using this
 have hh:Iw (M.del b0) c x ty z .nil [] []:=by
  have hdel:∀a,a≠b0→(M.del b0) a=M a:=fun a ha=>if_neg ha;refine⟨by rw[hdel c hc];exact h.cell,.inl ⟨rfl,rfl,rfl⟩,fun a ha=>?_,by simp⟩;have h1:a≠b0:=by
   rintro rfl;exact ha (if_pos rfl)
  rw[hdel a h1]at ha;have:=h.only a ha;simp at this ⊢;exact this.resolve_right h1
 obtain⟨f1,_⟩:=hh.fresh hb;refine⟨by simp only[A3];rw[if_neg (Ne.symm f1)];exact hh.cell,.inr ⟨b,rfl,by simp,by simp⟩,?_,by simpa using Ne.symm f1⟩;exact(hh.only.sub fun a ha=>by simp at ha ⊢;exact .inl ha).set (by simp) _
end
/-! ### The kernel -/
def Xr (Y:List (List Rat)) (ps:List Nat) (j:Nat):Nat→List Rat→List Rat
 |0,v=>v
 |k+1,v=>(Xr Y ps j k v).set (ps.getD k 0) (-(Ju Y k j))
def Xp (Y:List (List Rat)) (ps:List Nat) (w j:Nat):List Rat:=Xr Y ps j ps.length ((List.replicate w 0).set j 1)
def Lm (Y:List (List Rat)) (ps:List Nat) (w j:Nat):List (List Rat):=((List.range j).filter fun i=>decide (i ∉ ps)).map (Xp Y ps w)
theorem Uu (Y:List (List Rat)) (ps:List Nat) (w j:Nat):Lm Y ps w (j+1)=if j∈ps then Lm Y ps w j else Lm Y ps w j++[Xp Y ps w j]:=by
 unfold Lm;rw[List.range_succ,List.filter_append];by_cases h:j∈ps
 ·rw[if_pos h];simp[h]
 ·rw[if_neg h];simp[h]
theorem J3 (Y:List (List Rat)) (ps:List Nat) (j:Nat) (v:List Rat):∀k,(Xr Y ps j k v).length=v.length
 |0=>rfl
 |k+1=>by unfold Xr;rw[List.length_set,J3]
theorem Xd (Y:List (List Rat)) (ps:List Nat) (w j:Nat):(Xp Y ps w j).length=w:=by unfold Xp;rw[J3];simp
noncomputable def Wt (m:List (List RR)):Int × List (List Rat) :=
 if (H9 m).1≠0 then ((H9 m).1,[]) else (0,Lm (H9 m).2.1 (H9 m).2.2 (Al m 0).length (Al m 0).length)
theorem Ph {n w:Nat} {z0:List (List Rat) × List Nat} (h:Ja n w 0 z0) (hs:z0.2.Pairwise (·<·)):∀{j:Nat} {z:List (List Rat) × List Nat},Bd Da j z0=some z→z.2.Pairwise (·<·)
 |0,z,he=>by cases he;exact hs
 |j+1,z,he=>by
  rw[Ef]at he;cases hm:Bd Da j z0 with
  |none=>rw[hm]at he;cases he
  |some u =>
   rw[hm]at he;have h1:=Ph h hs hm;have h2:=O5 h hm;replace he:Da j u=some z:=he;unfold Da at he;cases hp:Qbv u.1 j u.2.length with
   |none=>simp only[hp]at he;cases he;exact h1
   |some i =>
    simp only[hp]at he;cases hc:Km (Di u.1 i u.2.length) j u.2.length with
    |none=>rw[hc]at he;cases he
    |some M =>
     rw[hc]at he;cases he;rw[List.pairwise_append];exact⟨h1,by simp,fun a ha b hb=>by simp at hb;subst hb;exact h2.2.2.2 a ha⟩
theorem Qha {q:Rat} (h:B4 q):Dj 0 q=some (-q)∧B4 (-q):=by
 have hg:B4 (-q):=by
  unfold B4 at h ⊢;rw[Rat.neg_num,Rat.neg_den,Int.natAbs_neg];exact h
 refine⟨?_,hg⟩;unfold Dj;rw[Rat.sub_eq_add_neg,Rat.zero_add];have n0:(0:Rat).num=0:=rfl;have d0:(0:Rat).den=1:=rfl;have hb:0<Bf:=by unfold Bf;exact Nat.pow_pos (by omega)
 have h1:=h.1;have h2:=h.2;rw[n0,d0,if_pos];unfold C6;generalize Bf=b at *;simp only[Bool.and_eq_true,decide_eq_true_eq,Int.zero_mul,Int.natAbs_zero];refine⟨⟨⟨hb,?_⟩,?_⟩,?_⟩<;>omega
theorem Uq:B4 0:=by rw[←It];exact Ur (by decide)
theorem Qg1:B4 1:=by rw[←Ir];exact Ur (by decide)
structure Qkh where
 next:Nat
 x:AV
 M:Aa
 ov:AV
 ob:List Nat
def Qqa (c:Nat) (Y:List (List Rat)) (ps:List Nat) (w j:Nat) (s:Qkh):Prop :=
 Iw s.M c s.x 51 1 s.ov s.ob ((Cs (Lm Y ps w j)).map A6)∧Ge s.x 0∧s.next≤ps.length∧(∀i,i<s.next→ps.getD i 0<j)∧∀i,s.next≤i→i<ps.length→j≤ps.getD i 0
theorem Qcs {ps:List Nat} (h:ps.Pairwise (·<·)) {i j:Nat} (hij:i<j) (hj:j<ps.length):ps.getD i 0<ps.getD j 0:=by
 rw[List.getD_eq_getElem?_getD,List.getD_eq_getElem?_getD,List.getElem?_eq_getElem hj,List.getElem?_eq_getElem (by omega)];exact List.pairwise_iff_getElem.1 h i j (by omega) hj hij
theorem Ws (m:List (List RR)) (hm:Z4 m):Aj Tryz.prog 106 [A8 m] Aa.emp fun v mm=>v=.tup [A8 (Cs (Wt m).2),.int .i64 (Wt m).1]∧mm=Aa.emp:=by
 have hr:=Vv m hm;have hwid:=Si m;by_cases h0:(H9 m).1=0
 ·have hck:chk m=0:=by
   by_cases h:chk m=0
   ·exact h
   ·unfold H9 at h0;rw[if_pos h]at h0;exact absurd h0 h
  have hK:Wt m=(0,Lm (H9 m).2.1 (H9 m).2.2 (Al m 0).length (Al m 0).length):=if_neg (by simp[h0]);obtain⟨h1,h2,h3,h4,h5⟩:=Qc0 hm hck;have hcol:∃Y ps,H9 m=(0,Y,ps)∧Ja m.length (Al m 0).length (Al m 0).length (Y,ps)∧ps.Pairwise (·<·):=by
   unfold H9 at h0 ⊢;rw[if_neg (by simp[hck])]at h0 ⊢;cases hq:Gd (Wz m)with
   |none=>rw[hq]at h0;exact absurd h0 (by simp)
   |some z =>
    have e0:(Al (Wz m) 0).length=(Al m 0).length:=by rw[Lk,List.length_map]
    have k1:=Pe (n:=m.length) (w:=(Al m 0).length) ⟨h2,e0 ▸ h3,Ji m⟩ hq;rw[e0]at k1;refine⟨z.1,z.2,rfl,k1,?_⟩;exact Ph (n:=m.length) (w:=(Al m 0).length) (z0:=(Wz m,[])) ⟨⟨h2,e0 ▸ h3,Ji m⟩,by simp,by simp,by simp⟩ (by simp) hq
  obtain⟨Y,ps,hred,⟨⟨y1,y2,y3⟩,y4,y5,y6⟩,y7⟩:=hcol;simp only at y1 y2 y3 y4 y5 y6;rw[hK];rw[hred]at hr ⊢;simp only at hr ⊢;have h5:(Al m 0).length≤64:=by rw[Lk,List.length_map]at h5;exact h5
  clear h1 h2 h3 hK;generalize hw:(Al m 0).length=w at *;have hvec:=Xb w (by omega);have hone:=Mb 1 (by omega) (by omega);have hzero:=Mb 0 (by omega) (by omega);rw[Ir]at hone;rw[It]at hzero;refine Ad Tryz.func106 rfl rfl 87 rfl (Nat.le_of_ble_eq_true rfl) ?_;(repeat refine AW.seq_k fun K hK=>?_);refine AW.rg ?_;simp[Ak];try (refine hK _ rfl ?_;clear hK K)
  (repeat refine AW.seq_k fun K hK=>?_);refine AW.rg ?_;simp;try (refine hK _ rfl ?_;clear hK K)
  refine Ac.val hr ?_;simp;refine hK _ rfl ?_;clear hK K;(repeat refine AW.seq_k fun K hK=>?_);refine AW.rg ?_;simp;try (refine hK _ rfl ?_;clear hK K)
  refine AW.no ?_ rfl;refine AW.skip ?_;try simp
  refine hK _ rfl ?_;clear hK K;(repeat refine AW.seq_k fun K hK=>?_);refine AW.rg ?_;simp;try (refine hK _ rfl ?_;clear hK K)
  refine Ag.intro fun c hc=>?_;refine hK _ rfl ?_;clear hK K;(repeat refine AW.seq_k fun K hK=>?_);refine AW.rg ?_;simp;try (refine hK _ rfl ?_;clear hK K)
  (repeat refine AW.seq_k fun K hK=>?_);refine AW.rg ?_;simp;try (refine hK _ rfl ?_;clear hK K)
  refine AW.seq_ex (ι:=Aa × AV × AV × List Nat) (fun z=>[(7,.ptr c 1 0 0),(8,z.2.2.1)]) (fun z=>z.1) (fun z=>Iw z.1 c z.2.1 51 1 z.2.2.1 z.2.2.2 ((Cs (Lm Y ps w w)).map A6)∧Ge z.2.1 0) ?_ ?_
  ·(repeat refine AW.seq_k fun K hK=>?_);refine AW.rg ?_;simp;try (refine hK _ rfl ?_;clear hK K)
   refine Ac.val hwid ?_;simp;refine hK _ rfl ?_;clear hK K;refine AW.block (AW.loopS (ι:=Nat × Qkh) (fun z=>[(0,A8 m),(4,A8 (Cs Y)),(5,.sl 1 (An ps)),(7,.ptr c 1 0 0),(8,z.2.ov),(9,.int .i64 (z.2.next:Nat)),(26,.int .i64 w),(27,.int .i64 (z.1:Nat))]) (fun z=>z.2.M) (fun z=>z.1≤w∧Qqa c Y ps w z.1 z.2) (fun z=>w-z.1) (0,⟨0,.agg [.int .i64 0],Aa.emp.set c ⟨118,1,[.agg [.int .i64 0]]⟩,.nil,[]⟩) ⟨by simp,Iw.start _ _ _ _,rfl,by simp,by simp,by simp⟩ rfl (by simp) ?_);rintro⟨j,next,x,M,ov,ob⟩ ⟨g1,g2,g3,g4,g5,g6⟩;simp only at g1 g2 g3 g4 g5 g6
   simp only;(repeat refine AW.seq_k fun K hK=>?_);refine AW.rg ?_;simp;try (refine hK _ rfl ?_;clear hK K)
   (repeat refine AW.seq ?_);refine AW.cs (fun hj=>?_) (fun hj=>?_) rfl<;>(try simp at hj)
   ·refine AW.skip ?_;try simp
    have w1:=Aq (j+1) (by omega);have w2:=Aq (next+1) (by omega);refine AW.seq_ex (ι:=Qkh) (fun s=>[(0,A8 m),(4,A8 (Cs Y)),(5,.sl 1 (An ps)),(7,.ptr c 1 0 0),(8,s.ov),(9,.int .i64 (s.next:Nat)),(26,.int .i64 w),(27,.int .i64 (j:Nat))]) (fun s=>s.M) (fun s=>Qqa c Y ps w (j+1) s) ?_ ?_
    ·(repeat refine AW.seq ?_);refine AW.block ?_;(repeat refine AW.seq_k fun K hK=>?_);refine AW.rg ?_;simp;try (refine hK _ rfl ?_;clear hK K)
     refine AW.seq_ex (ι:=Unit) (fun _=>[(0,A8 m),(4,A8 (Cs Y)),(5,.sl 1 (An ps)),(7,.ptr c 1 0 0),(8,ov),(9,.int .i64 (next:Nat)),(10,.int .i64 (j:Nat)),(26,.int .i64 w),(27,.int .i64 (j:Nat))]) (fun _=>M) (fun _=>j ∉ ps∧∀i,next≤i→i<ps.length→j+1≤ps.getD i 0) ?_ ?_
     ·by_cases hn:next<ps.length
      ·have hgn:ps.getD next 0=ps[next]:=by rw[List.getD_eq_getElem?_getD,List.getElem?_eq_getElem hn];rfl
       by_cases hp:ps[next]=j
       ·(repeat refine AW.seq_k fun K hK=>?_);refine AW.rg ?_;simp[hn,hp];try (refine hK _ rfl ?_;clear hK K)
        refine AW.yes ?_ rfl;(repeat refine AW.seq_k fun K hK=>?_);refine AW.rg ?_;simp[-Int.natCast_add,w2];try (refine hK _ rfl ?_;clear hK K)
        refine AW.exit ?_;try simp[-Int.natCast_add]
        have hmem:j∈ps:=by rw[←hp];exact List.getElem_mem hn
        rw[←hgn]at hp;refine⟨⟨next+1,x,M,ov,ob⟩,⟨?_,g3,hn,fun i hi=>?_,fun i hi hi2=>?_⟩,by simp⟩
        ·rw[Uu,if_pos hmem];exact g2
        ·rcases Nat.lt_succ_iff_lt_or_eq.1 hi with h|rfl
         ·have:=g5 i h;omega
         ·omega
        ·have hi:next+1≤i:=hi;have:=Qcs y7 (i:=next) (j:=i) (by omega) hi2;omega
       ·(repeat refine AW.seq_k fun K hK=>?_);refine AW.rg ?_;simp[hn,hp];try (refine hK _ rfl ?_;clear hK K)
        refine AW.no ?_ rfl;refine AW.skip ?_;try simp
        have hge:∀i,next≤i→i<ps.length→j+1≤ps.getD i 0:=fun i hi hi2=>by
         have h1:=g6 next (by omega) hn;rw[←hgn]at hp;rcases Nat.lt_or_eq_of_le hi with h | h
         ·have:=Qcs y7 (i:=next) (j:=i) h hi2;omega
         ·subst h;omega
        refine⟨fun hm=>?_,hge⟩;obtain⟨i,hi,e⟩:=List.mem_iff_getElem.1 hm;have e:ps.getD i 0=j:=by rw[List.getD_eq_getElem?_getD,List.getElem?_eq_getElem hi];exact e
        rcases Nat.lt_or_ge i next with h|h
        ·have:=g5 i h;omega
        ·have:=hge i h hi;omega
      ·(repeat refine AW.seq_k fun K hK=>?_);refine AW.rg ?_;simp[hn];try (refine hK _ rfl ?_;clear hK K)
       refine AW.no ?_ rfl;refine AW.skip ?_;try simp
       refine⟨fun hm=>?_,fun i hi hi2=>by omega⟩;obtain⟨i,hi,e⟩:=List.mem_iff_getElem.1 hm;have e:ps.getD i 0=j:=by rw[List.getD_eq_getElem?_getD,List.getElem?_eq_getElem hi];exact e
       have:=g5 i (by omega);omega
     rintro _ ⟨hnm,hge⟩;(repeat refine AW.seq_k fun K hK=>?_);refine AW.rg ?_;simp;try (refine hK _ rfl ?_;clear hK K)
     refine Ac.val hwid ?_;simp;refine Ac.make hvec ?_;rintro bv _ _ ⟨rfl,rfl⟩ hbv _;simp;refine hK _ rfl ?_;clear hK K;obtain⟨nbc,nbo⟩:=g2.fresh hbv;(repeat refine AW.seq_k fun K hK=>?_);refine AW.rg ?_;simp;try (refine hK _ rfl ?_;clear hK K)
     refine Ac.val hone ?_;simp[hj];refine hK _ rfl ?_;clear hK K;generalize hv0:(List.replicate w (0:Rat)).set j 1=v0 at *;have hv0l:v0.length=w:=by rw[←hv0];simp
     have hv0e:(Ct (List.replicate w (Be 0))).set j (Be 1).av=Ct (v0.map Be):=by
      rw[Le,←hv0,List.map_set,List.map_replicate]
     refine AW.seq_ex (ι:=AV) (fun x=>[(0,A8 m),(4,A8 (Cs Y)),(5,.sl 1 (An ps)),(7,.ptr c 1 0 0),(8,ov),(9,.int .i64 (next:Nat)),(10,.int .i64 (j:Nat)),(11,.osl bv 4 0 w),(26,.int .i64 w),(27,.int .i64 (j:Nat))]) (fun x=>(M.set c ⟨118,1,[x]⟩).set bv ⟨44,4,Ct ((Xp Y ps w j).map Be)⟩) (fun x=>Ge x 0) ?_ ?_
     ·(repeat refine AW.seq_k fun K hK=>?_);refine AW.rg ?_;simp;try (refine hK _ rfl ?_;clear hK K)
      refine AW.block (AW.loopS (ι:=Nat × AV) (fun z=>[(0,A8 m),(4,A8 (Cs Y)),(5,.sl 1 (An ps)),(7,.ptr c 1 0 0),(8,ov),(9,.int .i64 (next:Nat)),(10,.int .i64 (j:Nat)),(11,.osl bv 4 0 w),(26,.int .i64 w),(27,.int .i64 (j:Nat)),(51,.sl 1 (An ps)),(52,.int .i64 ps.length),(53,.int .i64 (z.1:Nat))]) (fun z=>(M.set c ⟨118,1,[z.2]⟩).set bv ⟨44,4,Ct ((Xr Y ps j z.1 v0).map Be)⟩) (fun z=>z.1≤ps.length∧Ge z.2 0) (fun z=>ps.length-z.1) (0,x) ⟨by simp,g3⟩ ?_ (by simp) ?_)
      ·show M.set bv _=(M.set c _).set bv _
       rw[Aa.set_self g2.cell];rw[Le]at hv0e;rw[hv0e];rfl
      rintro⟨k,x⟩ ⟨q1,q2⟩;simp only at q1 q2;(repeat refine AW.seq_k fun K hK=>?_);refine AW.rg ?_;simp;try (refine hK _ rfl ?_;clear hK K)
      (repeat refine AW.seq ?_);refine AW.cs (fun hk=>?_) (fun hk=>?_) rfl<;>(try simp at hk)
      ·refine AW.skip ?_;try simp
       (repeat refine AW.seq ?_);refine AW.block ?_;(repeat refine AW.seq_k fun K hK=>?_);refine AW.rg ?_;simp[hk];try (refine hK _ rfl ?_;clear hK K)
       have hkY:k<Y.length:=by omega
       have hkE:k<(Cs Y).length:=by rw[Bi];exact hkY
       have hlk:(Al (Cs Y) k).length=w:=by rw[Ch,List.length_map];exact y2 k hkY
       have hjl:j<(Al Y k).length:=by rw[y2 k hkY];exact hj
       have hel:rr (Al (Cs Y) k) j=Be (Ju Y k j):=by rw[Ch,Jn hjl];rfl
       have hgd:B4 (Ju Y k j):=y1.at hjl;obtain⟨n1,n2⟩:=Qha hgd;have hpk:ps.getD k 0=ps[k]:=by rw[List.getD_eq_getElem?_getD,List.getElem?_eq_getElem hk];rfl
       have hpw:ps[k]<w:=y6 _ (List.getElem_mem hk);have hlf:(Xr Y ps j k v0).length=w:=by rw[J3,hv0l]
       have w3:=Aq (k+1) (by omega);(repeat refine AW.seq_k fun K hK=>?_);refine AW.rd [0,1,2,4,5,6,7,8,9,10,3,11,12,13] Ds ?_;simp[hkE,hlk,hj,hel];try (refine hK _ rfl ?_;clear hK K)
       refine Ac.val hzero ?_;simp;refine Qhb (c:=c) (x:=x) (e:=0) (a:=Be 0) (b:=Be (Ju Y k j)) (by simp[Ne.symm nbc]) (by simp) q2 (F2 _) (F2 _) (fun _=>⟨Ex Uq,Ex hgd⟩) ?_;rw[Gt,Gt,n1,Lg rfl];intro x' hx';simp[hpw,hlf,nbc];(repeat refine AW.seq_k fun K hK=>?_);refine AW.rg ?_;simp[-Int.natCast_add,w3];try (refine hK _ rfl ?_;clear hK K)
       refine⟨k+1,x',⟨hk,hx'⟩,by omega,?_,rfl⟩;rw[Rk (Ne.symm nbc)];rw[show Xr Y ps j (k+1) v0=(Xr Y ps j k v0).set (ps.getD k 0) (-(Ju Y k j)) from rfl,hpk,List.map_set]
      ·refine AW.exit ?_;try simp
       have:k=ps.length:=by omega
       subst this;exact⟨x,q2,by unfold Xp;rw[hv0]⟩
     rintro x' hx';have g2':=g2.setE x';have hM':(M.set c ⟨118,1,[x']⟩) bv=none:=by simp only[A3];rw[if_neg nbc];exact hbv
     refine AW.turn [(0,A8 m),(4,A8 (Cs Y)),(5,.sl 1 (An ps)),(7,.ptr c 1 0 0),(8,ov),(9,.int .i64 (next:Nat)),(10,.int .i64 (j:Nat)),(11,A6 ((Xp Y ps w j).map Be)),(26,.int .i64 w),(27,.int .i64 (j:Nat))] (M.set c ⟨118,1,[x']⟩) (Bj.drop hM' (g2'.ones hx' ?_)) ?_ ?_
     ·intro v hv;obtain⟨r,_,rfl⟩:=List.mem_map.1 hv;rfl
     ·simp;exact Yj (Aa.set_same _ _ _) hM' (by rw[List.length_map,Xd])
     have hfin:∀s:Qkh,s.next=next→Ge s.x 0→Iw s.M c s.x 51 1 s.ov s.ob ((Cs (Lm Y ps w j)).map A6++[A6 ((Xp Y ps w j).map Be)])→Qqa c Y ps w (j+1) s:=by
      intro s h1 h2 h3;refine⟨?_,h2,by rw[h1];exact g4,fun i hi=>?_,by rw[h1];exact hge⟩
      ·rw[Uu,if_neg hnm];simpa[Cs]using h3
      ·rw[h1]at hi;have:=g5 i hi;omega
     have hll:((Cs (Lm Y ps w j)).map A6).length≤j:=by
      rw[List.length_map,Bi];unfold Lm;rw[List.length_map];exact Nat.le_trans (List.length_filter_le _ _) (by simp)
     generalize(Cs (Lm Y ps w j)).map A6=l at *;generalize M.set c ⟨118,1,[x']⟩=M' at *;rcases g2'.lst with⟨z1,z2,z3⟩ | ⟨b0,z2,z3,z4⟩
     ·subst z1 z2 z3;(repeat refine AW.seq_k fun K hK=>?_);refine AW.rgR [74] ?_;simp;try (refine hK _ rfl ?_;clear hK K)
      exact⟨by unfold maxLen;omega,Ag.intro fun b hb=>⟨⟨next,x',_,_,[b]⟩,hfin _ rfl hx' (g2'.push0 hb _),rfl,rfl,rfl⟩⟩
     ·subst z2 z3;have hl2:l.length<2^40:=by omega
      (repeat refine AW.seq_k fun K hK=>?_);refine AW.rgR [74] ?_;simp[z4];try (refine hK _ rfl ?_;clear hK K)
      exact⟨by omega,by unfold maxLen;omega,Ag.intro fun b hb=>⟨⟨next,x',_,_,[b]⟩,hfin _ rfl hx' (g2'.push1 hb _),rfl,rfl,rfl⟩⟩
    rintro⟨next,x,M,ov,ob⟩ hs;(repeat refine AW.seq_k fun K hK=>?_);refine AW.rg ?_;simp[-Int.natCast_add,w1];try (refine hK _ rfl ?_;clear hK K)
    exact⟨j+1,⟨next,x,M,ov,ob⟩,⟨hj,hs⟩,by omega,by simp⟩
   ·refine AW.exit ?_;try simp
    have:j=w:=by omega
    subst this;exact⟨x,⟨ob,g2⟩,g3⟩
  rintro⟨M,x,ov,ob⟩ ⟨g1,g2⟩;simp only at g1 g2;have hx:x.cells=[.int .i64 0]:=g2;(repeat refine AW.seq_k fun K hK=>?_);refine AW.rg ?_;simp[g1.cell,hx];try (refine hK _ rfl ?_;clear hK K)
  refine AW.no ?_ rfl;refine AW.skip ?_;try simp
  refine hK _ rfl ?_;clear hK K;(repeat refine AW.seq_k fun K hK=>?_);refine AW.rg ?_;simp;try (refine hK _ rfl ?_;clear hK K)
  have hv:=g1.lst.view (M':=Aa.emp) (fun _ _=>rfl);exact AW.ret (Ai [A8 (Cs (Lm Y ps w w)),.int .i64 0] rfl ⟨hv,.same _,trivial⟩ ⟨rfl,rfl⟩)
 ·have hK:Wt m=((H9 m).1,[]):=if_pos h0;rw[hK];generalize H9 m=z at *;obtain⟨e,Y,ps⟩:=z;simp only at h0 hr ⊢;refine Ad Tryz.func106 rfl rfl 87 rfl (Nat.le_of_ble_eq_true rfl) ?_;(repeat refine AW.seq_k fun K hK=>?_);refine AW.rg ?_;simp[Ak];try (refine hK _ rfl ?_;clear hK K)
  (repeat refine AW.seq_k fun K hK=>?_);refine AW.rg ?_;simp;try (refine hK _ rfl ?_;clear hK K)
  refine Ac.val hr ?_;simp;refine hK _ rfl ?_;clear hK K;(repeat refine AW.seq_k fun K hK=>?_);refine AW.rg ?_;simp[h0];try (refine hK _ rfl ?_;clear hK K)
  refine AW.yes ?_ rfl;(repeat refine AW.seq_k fun K hK=>?_);refine AW.rg ?_;simp;try (refine hK _ rfl ?_;clear hK K)
  exact AW.ret (Ai [A8 [],.int .i64 e] rfl ⟨.nilsl 1,.same _,trivial⟩ ⟨rfl,rfl⟩)
end Go.Av
end
section
namespace Go.Av
section
variable {P:Program} {cf:Dq} {ops:Array Oper}
def Zs (ro:Nat→Bool) (o:Oper):Bool:=match o.op,o.dst with
 |.buildSlice _ _ _,some d=>ro d
 |_,_=>false
theorem Qf8 {o:Oper} (h:Zs cf.ro o=true) (s:St):∃(C:Prop) (v:AV),∀(m:Aa) (k:AV→Aa→Prop),Ec P cf o {s with m:=m} k↔C∧k v m:=by
 unfold Zs at h;split at h
 ·rename_i t len parts d ho hd
  have hev:∀(m:Aa) (x:Operand),({s with m:=m}:St).ev x=s.ev x:=fun m x=>by cases x<;>rfl
  by_cases hc:∃ti e te,Ah P t=some ti∧ti.cls=.slice e∧Ah P e=some te∧0<te.size∧len*te.size≤16777216 ∧
   parts.toList.map (·.1)=List.range len∧((parts.toList.map fun(p:Nat × Operand)=>s.ev p.2).all fun v=>v.cells.length==te.size&&v.cells.all AV.one)=true
  ·obtain⟨ti,e,te,c1,c2,c3,c4,c5,c6,c7⟩:=hc;refine⟨True,.sl te.size (parts.toList.map fun(p:Nat × Operand)=>s.ev p.2),fun m k=>?_⟩;unfold Ec;simp only[ho,hd,h,if_true,hev,true_and];constructor
   ·rintro⟨ti',e',te',d1,d2,d3,d4,d5,d6,d7,d8⟩;rw[c1]at d1;cases d1;rw[c2]at d2;cases d2;rw[c3]at d3;cases d3;exact d8
   ·intro hk;exact⟨ti,e,te,c1,c2,c3,c4,c5,c6,c7,hk⟩
  ·refine⟨False,.any,fun m k=>⟨fun hk=>?_,fun hk=>hk.1.elim⟩⟩;unfold Ec at hk;simp only[ho,hd,h,if_true,hev]at hk;obtain⟨ti,e,te,d1,d2,d3,d4,d5,d6,d7,d8⟩:=hk;exact absurd ⟨ti,e,te,d1,d2,d3,d4,d5,d6,d7⟩ hc
 ·cases h
theorem Qfa {o:Oper} (h:Zs cf.ro o=true) (s:St):∃(C:Prop) (v:AV),∀(m:Aa) (k:AV→Aa→Prop),Cr P cf ops o {s with m:=m} k↔C∧k v m:=by
 rcases Ho (P:=P) (cf:=cf) (ops:=ops) o s with c|c|c
 ·obtain⟨C,v,e⟩:=Qf8 (P:=P) h s;exact⟨C,v,fun m k=>(c m k).trans (e m k)⟩
 ·exact⟨True,.tup [],fun m k=>by rw[c];simp⟩
 ·exact⟨False,.any,fun m k=>⟨fun hk=>(c m k hk).elim,fun hk=>hk.1.elim⟩⟩
theorem Qen {o1 o2:Oper} (h1:Zs cf.ro o1=true) (s:St) (m0:Aa) (k:AV→AV→Aa→Prop)
  (h:Cr P cf ops o1 {s with m:=m0} fun v1 m1=>Cr P cf ops o2 {s with m:=m1} fun v2 m2=>k v1 v2 m2) :
  Cr P cf ops o2 {s with m:=m0} fun v2 m2=>Cr P cf ops o1 {s with m:=m2} fun v1 m1=>k v1 v2 m1:=by
 obtain⟨C,v,e⟩:=Qfa (P:=P) (ops:=ops) h1 s;rw[e]at h;exact Bl (fun v2 m2 hk=>(e m2 _).2 ⟨h.1,hk⟩) h.2
def N3 (P:Program) (ro:Nat→Bool) (q:G8) (ops:Array Oper) (j i:Nat):Bool :=
 match ops[j]?,ops[i]? with
 |some oj,some oi=>oj.apart ops oi&&((Bg oj).comm (Bg oi)&&(Bg oj != .z || zOk P ro oj)&&(Bg oi != .z || zOk P ro oi) || Sw q oj oi || Zs ro oj)
 |_,_=>false
theorem Qgq (hdm:cf.dm=true) {q:G8} {blk:Nat→Nat} (hdst:∀(i:Nat) (o:Oper),ops[i]?=some o→Jr q o=true) {i:Nat} {K:St→Prop}:∀(R1 R2:List Nat) (s:St),Iv q blk cf.av s→(∀j∈R1,N3 P cf.ro q ops j i=true)→Bz P cf ops (R1++i::R2) K s→Bz P cf ops (i::(R1++R2)) K s
 |[],R2,s,_,_,h=>h
 |j::R1,R2,s,hsep,hp,h=>by
  have hj:=hp j (by simp);unfold N3 at hj;simp only[List.cons_append]at h ⊢;unfold Bz at h;split at h
  ·rename_i oj hoj
   simp only[hoj]at hj;cases hoi:ops[i]? with
   |none=>simp[hoi]at hj
   |some oi =>
    simp only[hoi,Bool.and_eq_true,Bool.or_eq_true,bne_iff_ne]at hj;obtain⟨p1,p2⟩:=hj;have h2:B5 P cf ops oj (B5 P cf ops oi (Bz P cf ops (R1++R2) K)) s:=by
     refine Bl (fun v m hk=>?_) (hsep.step (hdst j oj hoj) h);have:=Qgq hdm hdst R1 R2 _ hk.1 (fun j' hj'=>hp j' (by simp[hj'])) hk.2;unfold Bz at this;simpa only[hoi]using this
    have h3:B5 P cf ops oi (B5 P cf ops oj (Bz P cf ops (R1++R2) K)) s:=by
     rcases p2 with(⟨⟨p2,p3⟩,p4⟩|p2)|p2
     ·exact U8 hdm p1 p2 (fun e=>p3.resolve_left (fun h=>h e)) (fun e=>p4.resolve_left (fun h=>h e)) h2
     ·exact Kh p1 (fun k hk=>X4 hdm p2 hsep s.m k hk) h2
     ·exact Kh p1 (fun k hk=>Qen p2 s s.m k hk) h2
    unfold Bz;simp only[hoi];refine Bl (fun v m hk=>?_) h3;unfold Bz;simpa only[hoj]using hk
  ·exact h.elim
def Lc (P:Program) (ro:Nat→Bool) (q:G8) (ops:Array Oper) (plan:List Nat):Bool :=
 ops.toList.all (Jr q)&&(
 (List.range ops.size).all (fun i=>plan.contains i)&&plan.all (fun i=>Nat.blt i ops.size)&&decide (plan.Nodup∧plan.length≤ops.size) &&
 (plan.zipIdx.all fun(i,k)=>(plan.take k).all fun j=>!Hc ops ops.size j i&&(Hc ops ops.size i j || N3 P ro q ops j i)) &&
 ops.toList.zipIdx.all fun(o,i)=>o.after.toList.all fun e=>!Region.binds .any e || (Nat.blt e.on ops.size&&e.on != i))
theorem Vz (hdm:cf.dm=true) {q:G8} {blk:Nat→Nat} {plan:List Nat} (hp:Lc P cf.ro q ops plan=true) {K:St→Prop}:∀(fuel:Nat) (listed:Array Bool) (s:St),Iv q blk cf.av s→listed.size=ops.size→Lf ops listed →
  (plan.filter fun i=>!listed.getD i true).length≤fuel→Bz P cf ops (plan.filter fun i=>!listed.getD i true) K s→Lo P cf ops K fuel listed s:=by
 unfold Lc at hp;simp only[Bool.and_eq_true]at hp;obtain⟨p0,⟨⟨⟨p1,p2⟩,p3⟩,p4⟩,p5⟩:=hp;have hdst:∀(i:Nat) (o:Oper),ops[i]?=some o→Jr q o=true:=fun i o ho=>List.all_eq_true.1 p0 o (List.mem_of_getElem? (by rw[Array.getElem?_toList];exact ho));have hnd:plan.Nodup:=(of_decide_eq_true p3).1;have hall:∀i,i<ops.size→i∈plan:=fun i hi=>by
  have:=List.all_eq_true.1 p1 i (List.mem_range.2 hi);simpa using this
 have hlt:∀i∈plan,i<ops.size:=fun i hi=>by
  have:=List.all_eq_true.1 p2 i hi;simpa[Nat.blt_eq]using this
 have hpair:∀R1 R2 i,plan=R1++i::R2→∀j∈R1,Hc ops ops.size j i=false∧(Hc ops ops.size i j=true∨N3 P cf.ro q ops j i=true):=by
  intro R1 R2 i hpl j hj;have h1:=List.all_eq_true.1 p4 (i,R1.length) (by
   rw[List.mem_iff_getElem?];refine⟨R1.length,?_⟩;rw[List.getElem?_zipIdx,hpl];simp)
  have h2:=List.all_eq_true.1 h1 j (by simp[hpl,hj]);simpa using h2
 have hedge:∀i o,ops[i]?=some o→∀e∈o.after.toList,Region.binds .any e=true→e.on<ops.size∧e.on≠i:=by
  intro i o ho e he hb;have h1:=List.all_eq_true.1 p5 (o,i) (by
   rw[List.mem_iff_getElem?];refine⟨i,?_⟩;rw[List.getElem?_zipIdx,Array.getElem?_toList,ho];simp)
  have h2:=List.all_eq_true.1 h1 e he;simpa[hb,Nat.blt_eq]using h2
 -- with nothing ready all has been done
 have hdone:∀(listed:Array Bool),listed.size=ops.size→Region.ready .any ops listed=[]→(plan.filter fun i=>!listed.getD i true)=[]:=by
  intro listed hsz hr;cases hf:plan.filter fun i=>!listed.getD i true with
  |nil=>rfl
  |cons h rest =>
   exfalso
   have hmem:h∈plan.filter fun i=>!listed.getD i true:=by rw[hf];simp
   have hh:=List.mem_filter.1 hmem;have hready:h∈Region.ready .any ops listed:=by
    rw[Dm];refine⟨hlt h hh.1,by simpa using hh.2,fun o ho e he hb=>?_⟩;obtain⟨e1,e2⟩:=hedge h o ho e he hb
    -- what is needed stands ahead in the plan
    cases hl:listed.getD e.on false with
    |true=>rfl
    |false =>
     exfalso
     have hl':listed.getD e.on true=false:=by
      rw[Array.getD_eq_getD_getElem?,Array.getElem?_eq_getElem (by rw[hsz];exact e1)]at hl ⊢;exact hl
     have hin:e.on∈plan.filter fun i=>!listed.getD i true:=List.mem_filter.2 ⟨hall _ e1,by simp[hl']⟩;rw[hf]at hin;have hin2:e.on∈rest:=by
      rcases List.mem_cons.1 hin with q|q
      ·exact absurd q e2
      ·exact q
     -- h stands ahead of e.on in the plan,yet needs it
     obtain⟨A,B,hAB⟩:=List.append_of_mem hin2;have hsub:List.Sublist (h::e.on::[]) plan:=by
      have s1:List.Sublist (h::e.on::[]) (h::rest):=by
       rw[hAB];exact List.Sublist.cons_cons h ((List.Sublist.cons_cons e.on (List.nil_sublist B)).trans (List.sublist_append_right A _))
      rw[←hf]at s1;exact s1.trans List.filter_sublist
     obtain⟨R1,R2,q1⟩:=List.append_of_mem (hall _ e1);have hin1:h∈R1:=by
      rw[q1]at hsub hnd;have:=hnd;rw[List.nodup_append]at this;obtain⟨n1,n2,n3⟩:=this;rcases List.sublist_append_iff.1 hsub with⟨l1,l2,hl12,s1,s2⟩
      cases l1 with
      |cons x xs =>
       have:x=h:=by simp at hl12;exact hl12.1.symm
       subst this;exact s1.subset (by simp)
      |nil =>
       simp at hl12;subst hl12;have hn2:=List.nodup_cons.1 n2;rcases List.sublist_cons_iff.1 s2 with s3 | ⟨r,hr',s3⟩
       ·exact absurd (s3.subset (by simp)) hn2.1
       ·simp at hr';obtain⟨hh1,hh2⟩:=hr';exact absurd hh1.symm (by intro q;exact e2 q)
     have:=(hpair R1 R2 e.on q1 h hin1).1;have hreach:Hc ops ops.size h e.on=true:=by
      have hpos:0<ops.size:=by omega
      obtain⟨f,hf'⟩:∃f,ops.size=f+1:=⟨ops.size-1,by omega⟩;rw[hf'];unfold Hc;rw[ho];simp only[Bool.or_eq_true,List.any_eq_true];exact .inl ⟨e,he,by simp[hb]⟩
     rw[hreach]at this;cases this
   rw[hr]at hready;cases hready
 intro fuel
 induction fuel with
 |zero =>
  intro listed s hsep hsz hc hle hk;have hnil:(plan.filter fun i=>!listed.getD i true)=[]:=List.eq_nil_of_length_eq_zero (by omega);refine⟨?_,by rw[hnil]at hk;exact hk⟩;cases hr:Region.ready .any ops listed with
  |nil=>rfl
  |cons i rest =>
   exfalso
   have hi:i∈Region.ready .any ops listed:=by rw[hr];simp
   rw[Dm]at hi;have:i∈plan.filter fun i=>!listed.getD i true:=List.mem_filter.2 ⟨hall i hi.1,by simp[hi.2.1]⟩;rw[hnil]at this;cases this
 |succ fuel ih =>
  intro listed s hsep hsz hc hle hk;refine⟨fun hr=>by rw[hdone listed hsz hr]at hk;exact hk,fun i hi=>?_⟩;have hi':=Dm.1 hi;have hin:i∈plan.filter fun i=>!listed.getD i true:=List.mem_filter.2 ⟨hall i hi'.1,by simp[hi'.2.1]⟩;obtain⟨R1,R2,hR⟩:=List.append_of_mem hin;have hpass:∀j∈R1,N3 P cf.ro q ops j i=true:=by
   intro j hj;have hjf:j∈plan.filter fun i=>!listed.getD i true:=by rw[hR];simp[hj]
   have hjl:=List.mem_filter.1 hjf
   -- j stands ahead of i in the plan
   have hsub:List.Sublist (j::i::[]) plan:=by
    have s1:List.Sublist (j::i::[]) (R1++i::R2):=by
     obtain⟨A,B,hAB⟩:=List.append_of_mem hj;rw[hAB,List.append_assoc];refine List.Sublist.trans ?_ (List.sublist_append_right A _);exact List.Sublist.cons_cons j ((List.Sublist.cons_cons i (List.nil_sublist R2)).trans (List.sublist_append_right B _))
    rw[←hR]at s1;exact s1.trans List.filter_sublist
   have hij:j≠i:=by
    have hndf:(plan.filter fun i=>!listed.getD i true).Nodup:=List.Nodup.sublist List.filter_sublist hnd;rw[hR,List.nodup_append]at hndf;exact fun e=>hndf.2.2 j hj i (by simp) e
   obtain⟨Q1,Q2,q1⟩:=List.append_of_mem (hall i hi'.1);have hin1:j∈Q1:=by
    have hnd':=hnd;rw[q1]at hsub hnd';rw[List.nodup_append]at hnd';obtain⟨n1,n2,n3⟩:=hnd';rcases List.sublist_append_iff.1 hsub with⟨l1,l2,hl12,s1,s2⟩
    cases l1 with
    |cons x xs =>
     have:x=j:=by simp at hl12;exact hl12.1.symm
     subst this;exact s1.subset (by simp)
    |nil =>
     simp at hl12;subst hl12;have hn2:=List.nodup_cons.1 n2;rcases List.sublist_cons_iff.1 s2 with s3 | ⟨r,hr',s3⟩
     ·exact absurd (s3.subset (by simp)) hn2.1
     ·simp at hr';exact absurd hr'.1 hij
   rcases(hpair Q1 Q2 i q1 j hin1).2 with hreach|hp
   ·have:=Jf hsz hc ops.size i j hi'.2.2 hreach;have hjs:j<listed.size:=by rw[hsz];exact hlt j hjl.1
    rw[Array.getD_eq_getD_getElem?,Array.getElem?_eq_getElem hjs]at this;have h2:=hjl.2;rw[Array.getD_eq_getD_getElem?,Array.getElem?_eq_getElem hjs]at h2;simp at this h2;rw[this]at h2;cases h2
   ·exact hp
  rw[hR]at hk;have hfront:=Qgq hdm hdst R1 R2 s hsep hpass hk;unfold Bz at hfront;cases hoi:ops[i]? with
  |none=>simp[hoi]at hfront
  |some o =>
   simp only[hoi]at hfront ⊢;refine Bl (fun v m hk3=>?_) (hsep.step (hdst i o hoi) hfront);have hk2:=hk3.2;have hil:i<listed.size:=by rw[hsz];exact hi'.1
   have hfil:(plan.filter fun j=>!(listed.setIfInBounds i true).getD j true)=R1++R2:=by
    have e1:(plan.filter fun j=>!(listed.setIfInBounds i true).getD j true)=(plan.filter fun j=>!listed.getD j true).filter fun j=>j != i:=by
     rw[List.filter_filter];refine List.filter_congr fun j _=>?_;rw[E7 hil];by_cases h:j=i<;>simp[h]
    have hndf:(plan.filter fun i=>!listed.getD i true).Nodup:=List.Nodup.sublist List.filter_sublist hnd;rw[e1,hR];rw[hR,List.nodup_append]at hndf;obtain⟨n1,n2,n3⟩:=hndf;rw[List.filter_append,List.filter_cons];have f1:R1.filter (fun j=>j != i)=R1:=List.filter_eq_self.2 fun j hj=>by
     have:=n3 j hj i (by simp);simpa using this
    have f2:R2.filter (fun j=>j != i)=R2:=List.filter_eq_self.2 fun j hj=>by
     have:=(List.nodup_cons.1 n2).1;have hne:j≠i:=fun e=>this (e ▸ hj);simpa using hne
    rw[f1,f2];simp
   refine ih _ _ hk3.1 (by simpa using hsz) (fun i' o' ho' hl' e he hb=>?_) (by rw[hfil];rw[hR]at hle;simp at hle ⊢;omega) (by rw[hfil];exact hk2);rw[E7 hil]at hl' ⊢;by_cases h1:e.on=i
   ·rw[if_pos h1]
   ·rw[if_neg h1];by_cases h2:i'=i
    ·subst h2;rw[hoi]at ho';cases ho';exact hi'.2.2 o hoi e he hb
    ·rw[if_neg h2]at hl';exact hc i' o' ho' hl' e he hb
theorem AW.drawV {Q:Exit→St→Prop} {s:St} {id:Nat} {ops:Array Oper} (ro:Nat→Bool) (q:G8) (blk:Nat→Nat) (av:Nat→Prop) (hsep:Iv q blk av s) (plan:List Nat) (hm:P.follows .mixedOrders=true) (hok:Bp s.n ops=true) (hp:Lc P ro q ops plan=true)
  (hav:∀b,av b→s.m b≠none) (h:Bz P ⟨ro,av,true⟩ ops plan (Q .normal) s):AW P (.region id ops true) Q s:=by
 intro F G w0 a w hr;refine wp_region_any hm ?_;have hok':∀i o,ops[i]?=some o→(Fy s.n o&&H0 ops s.n o)=true:=fun i o ho=>by
  unfold Bp at hok;exact List.all_eq_true.1 hok o (List.mem_of_getElem? (by rw[Array.getElem?_toList];exact ho))
 have hfil:(plan.filter fun i=>!(Array.replicate ops.size false).getD i true)=plan:=by
  refine List.filter_eq_self.2 fun i hi=>?_;have hlt:i<ops.size:=by
   unfold Lc at hp;simp only[Bool.and_eq_true]at hp;have:=List.all_eq_true.1 hp.2.1.1.1.2 i hi;simpa[Nat.blt_eq]using this
  simp[hlt]
 have hlen:plan.length≤ops.size:=by
  unfold Lc at hp;simp only[Bool.and_eq_true]at hp;exact(of_decide_eq_true hp.2.1.1.2).2
 have hany:Lo P ⟨ro,av,true⟩ ops (Q .normal) ops.size (Array.replicate ops.size false) s:=by
  have hcl:Lf ops (Array.replicate ops.size false):=fun i o ho hl e he hb=>by
   have hi:i<ops.size:=(Array.getElem?_eq_some_iff.1 ho).1;rw[Array.getD_eq_getD_getElem?,Array.getElem?_replicate,if_pos hi]at hl;cases hl
  refine Vz (cf:=⟨ro,av,true⟩) rfl hp ops.size _ s hsep Array.size_replicate hcl ?_ ?_
  ·rw[hfil];exact hlen
  ·rw[hfil];exact h
 have hav':∀b,av b→b<w.heap.size:=fun b hb=>hr.lt (hav b hb);have hd:Dw F G w0 s a {w with drawn:=w.drawn+1}:=hr.drew;exact Jk (F:=F) (G:=G) (w0:=w0) (cf:=⟨ro,av,true⟩) s.n w.heap.size hav' (fun a w h=>h) hok' ops.size _ s a {w with drawn:=w.drawn+1} (Nat.le_refl _) rfl hd hany
theorem AW.rdV {Q:Exit→St→Prop} {s:St} {id:Nat} {ops:Array Oper} (ro:List Nat) (plan:List Nat) (hm:P.follows .mixedOrders=true) (h:Bz P ⟨roL ro,fun _=>False,true⟩ ops plan (Q .normal) s)
  (hok:Bp s.n ops=true:=by kernel_rfl) (hp:Lc P (roL ro) G8.no ops plan=true:=by kernel_rfl):AW P (.region id ops true) Q s :=
 AW.drawV (roL ro) G8.no (fun r=>r) (fun _=>False) ⟨fun _ h=>(by cases h),fun _ _ h=>(by cases h),fun _ h=>(by cases h),fun _ h=>(by cases h)⟩ plan hm hok hp (fun _ h=>h.elim) h
end
end Go.Av
end
section
namespace Go.Av
section
variable {P:Program}
def Qp2 (o:Oper):Bool:=match o.op with
 |.call c=>match c.callee,c.args.toList with
  |.builtin .min,[_,_,_]=>true
  |_,_=>false
 |_=>false
def Quk (a b d:Int):Int:=if d<(if b<a then b else a) then d else (if b<a then b else a)
def Qvl (o:Oper) (s:St):Option AV:=match o.op with
 |.call c=>match c.callee,c.args.toList with
  |.builtin .min,[x,y,z]=>match s.ev x,s.ev y,s.ev z with
   |.int k a,.int _ b,.int _ d=>some (.int k (Quk a b d))
   |_,_,_=>none
  |_,_=>none
 |_=>none
def Qu1 (P:Program) (cf:Dq) (o:Oper) (K:St→Prop) (s:St):Prop:=if Qp2 o=true then ∃v,Qvl o s=some v∧K ({s with m:=s.m}.put o.dst v) else Er P cf o K s
def Qc6 (P:Program) (cf:Dq):List Oper→(St→Prop)→St→Prop
 |[],K,s=>K s
 |o::rest,K,s=>o.guard=none∧Qu1 P cf o (Qc6 P cf rest K) s
@[simp] theorem Qr6 (cf:Dq) (K:St→Prop) (s:St):Qc6 P cf [] K s=K s:=(rfl)
@[simp] theorem Qqq (cf:Dq) (d:Option Tmp) (op:Op) (t:TypeId) (p:String) (a:Array Edge) (l:List Oper) (K:St→Prop) (s:St) :
  Qc6 P cf ({dst:=d,op:=op,type:=t,pos:=p,after:=a,guard:=none}::l) K s↔Qu1 P cf {dst:=d,op:=op,type:=t,pos:=p,after:=a,guard:=none} (Qc6 P cf l K) s:=by
 show(_∧_)↔_
 simp
end
end Go.Av
end
section
namespace Go.Av
section
variable {P:Program}
def isY (o:Oper):Bool:=match o.op with
 |.slice _ _ (some _) (some _) none=>true
 |.call c=>match c.callee with | .builtin .clear=>true | _=>false
 |_=>false
def Qkw (P:Program) (o:Oper) (s:St) (k:AV→Aa→Prop):Prop:=match o.op with
 |.slice t x (some lo) (some hi) none=>∃ti e te b i n blk k1 k2,∃l h:Nat,Ah P t=some ti∧ti.cls=.slice e∧Ah P e=some te∧s.ev x=.osl b te.size i n∧s.m b=some blk∧blk.z=te.size ∧
   s.ev lo=.int k1 l∧s.ev hi=.int k2 h∧l<h∧i+h≤blk.l.length∧k (.osl b te.size (i+l) (h-l)) s.m
 |.call c=>match c.callee with
  |.builtin .clear=>∃x t ti e te b i n l,c.args.toList=[x]∧c.argTypes.toList=[t]∧Ah P t=some ti∧ti.cls=.slice e∧Ah P e=some te∧te.size=1∧te.zero.one=true ∧
    s.ev x=.osl b 1 i n∧s.m b=some ⟨e,1,l⟩∧0<n∧i+n≤l.length∧k .any (s.m.set b ⟨e,1,l.take i++List.replicate n te.zero++l.drop (i+n)⟩)
  |_=>False
 |_=>False
theorem T4 (z:Value) (hz:z.cells=#[z]) (n:Nat):(Builtin.zeroCells z.cells n).toList=List.replicate n z:=by
 rw[hz];refine List.ext_getElem? fun k=>?_;rw[Array.getElem?_toList,List.getElem?_replicate];simp only[Builtin.zeroCells,List.size_toArray,List.length_cons,List.length_nil,Nat.mul_one,Nat.zero_add,Array.getElem?_map];by_cases h:k<n
 ·rw[if_pos h,Array.getElem?_range,if_pos h];simp[Nat.mod_one]
 ·rw[if_neg h,Array.getElem?_range,if_neg h];rfl
theorem Qby {F G:Nat→Prop} {w0 w:World} {s:St} {a:Act} (hrel:Dw F G w0 s a w) {o:Oper} (hok:Fy s.n o=true) {K:St→Prop} (h:Qkw P o s fun v m'=>K ({s with m:=m'}.put o.dst v)) (Q:Exit→Act→World→Prop):o.wp P a w (Ez F G w0 s.n K) Q:=by
 have hd:L1 s.n o.dst=true:=by unfold Fy at hok;rw[Bool.and_eq_true]at hok;exact hok.1
 have hall:∀x∈o.op.operands.toList,Fz s.n x=true:=by unfold Fy at hok;rw[Bool.and_eq_true]at hok;exact List.all_eq_true.1 hok.2
 unfold Qkw at h;split at h
 ·rename_i t x lo hi ho
  rw[ho]at hall;obtain⟨ti,e,te,b,i,n,blk,k1,k2,l,hh,ht,hc,hte,hx,hb,hbz,hlo,hhi,hlh,hin,hk⟩:=h;obtain⟨inf,d,z,hinf,hdd,hz,g1,g2,g3,g4,g5⟩:=(Eb ht).get;obtain⟨ie,de,ze,hie,hde,hze,q1,q2,q3,q4,q5⟩:=(Eb hte).get;rw[←g3]at hc;cases d<;>simp only[C7,reduceCtorEq,J6.slice.injEq]at hc
  subst hc;have hxv:=hrel.ev (hall x (by simp[Op.operands]));have hlv:=hrel.ev (hall lo (by simp[Op.operands]));have hhv:=hrel.ev (hall hi (by simp[Op.operands]));rw[hx]at hxv;rw[hlo]at hlv;rw[hhi]at hhv;obtain⟨cx,e1⟩:∃c,a.eval x=c:=⟨_,rfl⟩;obtain⟨cl,e2⟩:∃c,a.eval lo=c:=⟨_,rfl⟩;obtain⟨ch,e3⟩:∃c,a.eval hi=c:=⟨_,rfl⟩;rw[e1]at hxv;rw[e2]at hlv;rw[e3]at hhv;obtain⟨z0,zs,ones,cells,cap,h1,h2,h3,h4,h5⟩:=hrel.heap b blk hb;cases hlv;cases hhv;cases hxv with
  |osl _ _ _ _ c hcn hm =>
   obtain⟨cells',e',m1,m2⟩:=hm;rw[h1]at m1;cases m1;have hcap:i+c=cap:=Nat.eq_of_mul_eq_mul_right (m:=te.size) (by rw[←hbz];exact z0) (by rw[m2,h2,hbz]);have hlc:(l:Int)≤((hh:Nat):Int):=by omega
   have b1:=run_sliceBound (P:=P) w k2 (hh:Int) c BoundsCode.sliceAcap (by omega) (by omega);have b2:=run_sliceBound (P:=P) w k1 (l:Int) ((hh:Int).toNat) BoundsCode.sliceB (by omega) (by omega);refine Df (cv:=.slice (some ⟨b,(i+l)*te.size,none⟩) (hh-l) (c-l)) ?_ ⟨_,hk,H2 _ _ _,hrel.put hd (.osl _ _ _ _ _ (by omega) ⟨_,_,h1,by rw[←m2];congr 1;omega⟩)⟩;unfold execOp;rw[ho];have hne:¬c=l:=by omega
   simp only[Int.toNat_natCast]at b1 b2;simp[e1,e2,e3,Instr.sliceAt,Instr.slice,run_underlying hdd,Instr.sliceBounds,b1,b2,E2 hie,q1,hne,Dz,Nat.add_mul]
 ·rename_i c ho
  rw[ho]at hall;split at h
  ·rename_i hcal
   obtain⟨x,t,ti,e,te,b,i,n,l,hxs,hts,ht,hc,hte,hz1,hone,hx,hb,hn0,hin,hk⟩:=h;obtain⟨callee,args,argTypes⟩:=c;simp only at hcal hxs hts;subst hcal;have ha:args=#[x]:=Array.toList_inj.1 hxs;have hat:argTypes=#[t]:=Array.toList_inj.1 hts;subst ha;subst hat;obtain⟨inf,d,z,hinf,hdd,hz,g1,g2,g3,g4,g5⟩:=(Eb ht).get;obtain⟨ie,de,ze,hie,hde,hze,q1,q2,q3,q4,q5⟩:=(Eb hte).get;rw[←g3]at hc;cases d<;>simp only[C7,reduceCtorEq,J6.slice.injEq]at hc
   subst hc
   rename_i e
   have hxv:=hrel.ev (hall x (by simp[Op.operands,Call.operands]));rw[hx]at hxv;obtain⟨cx,e1⟩:∃c,a.eval x=c:=⟨_,rfl⟩;rw[e1]at hxv;obtain⟨z0,zs,ones,cells,cap,h1,h2,h3,h4,h5⟩:=hrel.heap b _ hb;simp only[Nat.mul_one]at z0 zs ones h1 h2 h4 h5;have hzv:VR w (Cq F s.m) te.zero ze:=by rw[←q4];exact Hv w _ ze
   have hzo:=hzv.oneCell hone;have hzc:ze.cells=#[ze]:=by cases ze<;>first | rfl | (simp[Value.oneCell']at hzo)
   cases hxv with
   |osl _ _ _ _ cc hcn hm =>
    have hlen:(List.replicate n ze).length=n:=List.length_replicate;have hfit:i*1+(List.replicate n ze).length≤cells.size:=by rw[hlen];omega
    have hst:=run_storeCells_at P b (i*1) e (List.replicate n ze) 0 cells w h1 (by simpa using hfit) (fun v hv=>by rw[(List.mem_replicate.1 hv).2];exact hzo);simp only[Nat.add_zero]at hst;have hsz:=Ks cells (List.replicate n ze) (i*1) hfit;refine Df (cv:=.tuple #[]) (w':=w.setRow b (cells.toList.take (i*1)++List.replicate n ze++cells.toList.drop (i*1+(List.replicate n ze).length)).toArray) ?_ ⟨_,hk,by rw[H2],(hrel.setRow hb (⟨e,1,l.take i++List.replicate n te.zero++l.drop (i+n)⟩:Et) rfl rfl h1 _ hsz ?_ (fun v hv=>?_) (fun i' j u hu=>?_) (fun i' j u hu=>?_)).put hd (.any _)⟩
    ·unfold execOp;rw[ho];have hn:n≠0:=by omega
     obtain⟨n',rfl⟩:∃n',n=n'+1:=⟨n-1,by omega⟩;have hzv':(zeroValue e).run P w=.ok ze w:=by simp[zeroValue,typeInfo,hie,hze]
     have hzl:=T4 ze hzc (n'+1);simp only[Nat.mul_one,List.length_replicate,List.append_assoc]at hst;simp[resolve,invoke,builtin,e1,Builtin.clear_,run_underlying hdd,hzv',hzl];rw[hst];simp
    ·simp;omega
    ·rcases List.mem_append.1 hv with hv|hv
     ·rcases List.mem_append.1 hv with hv|hv
      ·exact zs v (List.mem_of_mem_take hv)
      ·rw[(List.mem_replicate.1 hv).2];cases hz0:te.zero<;>rw[hz0]at hone<;>first | rfl | cases hone
     ·exact zs v (List.mem_of_mem_drop hv)
    ·have hget:∀k,(l.take i++List.replicate n te.zero++l.drop (i+n))[k]?=if i≤k∧k<i+n then some te.zero else l[k]?:=by
      intro k;by_cases p1:k<i
      ·rw[if_neg (by omega),List.append_assoc,List.getElem?_append_left (by simp;omega),List.getElem?_take,if_pos p1]
      ·by_cases p2:k<i+n
       ·rw[if_pos (by omega),List.append_assoc,List.getElem?_append_right (by simp;omega),List.getElem?_append_left (by simp;omega),List.getElem?_replicate,if_pos (by simp;omega)]
       ·rw[if_neg (by omega),List.getElem?_append_right (by simp;omega),List.getElem?_drop];congr 1;simp;omega
     unfold Ax at hu;rw[hget]at hu;split at hu
     ·have:te.zero.cells=[te.zero]:=by cases hz0:te.zero<;>rw[hz0]at hone<;>first | rfl | cases hone
      simp only[Option.bind_some,this]at hu;rcases j with _ | j
      ·simp at hu;rw[←hu];exact hone
      ·simp at hu
     ·exact ones i' j u hu
    ·have hget:∀k,(l.take i++List.replicate n te.zero++l.drop (i+n))[k]?=if i≤k∧k<i+n then some te.zero else l[k]?:=by
      intro k;by_cases p1:k<i
      ·rw[if_neg (by omega),List.append_assoc,List.getElem?_append_left (by simp;omega),List.getElem?_take,if_pos p1]
      ·by_cases p2:k<i+n
       ·rw[if_pos (by omega),List.append_assoc,List.getElem?_append_right (by simp;omega),List.getElem?_append_left (by simp;omega),List.getElem?_replicate,if_pos (by simp;omega)]
       ·rw[if_neg (by omega),List.getElem?_append_right (by simp;omega),List.getElem?_drop];congr 1;simp;omega
     have hseg:=K4 cells (List.replicate n ze) (i*1) (i'*1+j) hfit;simp only[hlen,Nat.mul_one]at hseg ⊢;have htz:te.zero.cells=[te.zero]:=by cases hz0:te.zero<;>rw[hz0]at hone<;>first | rfl | cases hone
     unfold Ax at hu;rw[hget]at hu;split at hu
     ·rename_i hb'
      simp only[Option.bind_some,htz]at hu;rcases j with _ | j
      ·simp at hu;refine⟨ze,?_,by rw[←hu];exact hzv⟩;rw[hseg,if_pos (by omega),List.getElem?_replicate,if_pos (by omega)]
      ·simp at hu
     ·rename_i hb'
      have hj0:j=0:=by
       obtain⟨v,hv1,hv2⟩:=Option.bind_eq_some_iff.1 hu;have:=zs v (List.mem_of_getElem? hv1);have:=(List.getElem?_eq_some_iff.1 hv2).1;omega
      subst hj0;obtain⟨v,p1,p2⟩:=h5 i' 0 u hu;refine⟨v,?_,p2⟩;rw[hseg,if_neg (by omega)];exact p1
  ·exact h.elim
 ·exact h.elim
def Qer (P:Program) (cf:Dq) (o:Oper) (K:St→Prop) (s:St):Prop:=if isY o=true then Qkw P o s fun v m'=>K ({s with m:=m'}.put o.dst v) else Er P cf o K s
def Lu (P:Program) (cf:Dq):List Oper→(St→Prop)→St→Prop
 |[],K,s=>K s
 |o::rest,K,s=>o.guard=none∧Qer P cf o (Lu P cf rest K) s
theorem Qav {F G:Nat→Prop} {w0 w:World} {s:St} {a:Act} (hrel:Dw F G w0 s a w) {cf:Dq} (hav:∀b,cf.av b→b<w.heap.size) {o:Oper} (hok:Fy s.n o=true) {K:St→Prop} (h:Qer P cf o K s) (Q:Exit→Act→World→Prop):o.wp P a w (Ez F G w0 s.n K) Q:=by
 unfold Qer at h;split at h
 ·exact Qby hrel hok h Q
 ·exact La hrel hav hok h Q
theorem Pb {F G:Nat→Prop} {w0:World} {cf:Dq} (hcf:∀b,¬cf.av b) {ops:Array Oper} {K:St→Prop} {QQ:Exit→Act→World→Prop} (n:Nat) (hQ:∀a w,Ez F G w0 n K a w→QQ .normal a w) :
  ∀(l:List Oper) (s:St) (a:Act) (w:World),s.n=n→(∀o∈l,(Fy n o&&H0 ops n o)=true)→Dw F G w0 s a w→Lu P cf l K s→wpList P ops QQ l a w
 |[],s,a,w,hn,_,hr,hk=>hQ a w ⟨s,hk,hn,hr⟩
 |o::rest,s,a,w,hn,hok,hr,hk=>by
  have ho:=hok o (by simp);rw[Bool.and_eq_true]at ho;have hrest:∀o∈rest,(Fy n o&&H0 ops n o)=true:=fun x hx=>hok x (by simp[hx]);have hmono:∀{s:St} {a:Act} {w:World},s.n=n→Ez F G w0 s.n (Lu P cf rest K) a w→wpList P ops QQ rest a w:=by
   rintro s a w hn ⟨s',h1,h2,h3⟩;exact Pb hcf n hQ rest s' a w (h2.trans hn) hrest h3 h1
  have hop:Dw F G w0 s a w→Qer P cf o (Lu P cf rest K) s→o.wp P a w (wpList P ops QQ rest) QQ:=by
   intro hr hk;have:=Qav hr (fun b hb=>(hcf b hb).elim) (by rw[hn];exact ho.1) hk QQ;unfold Oper.wp at this ⊢
   revert this
   generalize(execOp a.eval o).run P w=res;intro this;have hm:∀a w,Ez F G w0 s.n (Lu P cf rest K) a w→wpList P ops QQ rest a w:=fun a w h=>hmono hn h;unfold Oper.upon at this ⊢;split at this<;>first
    |exact hm _ _ this
    |(refine Calls.mono this ?_;intro e w' h;cases e<;>first | exact hm _ _ h | exact h)
    |(refine Rows.mono this ?_;intro e w' h;exact hm _ _ h)
    |exact this
    |exact this.elim
  unfold wpList;unfold Lu at hk;rw[if_pos (by simp[Region.wanted,hk.1])];exact .inl (hop hr hk.2)
theorem AW.rgY {Q:Exit→St→Prop} {s:St} {id:Nat} {ops:Array Oper} (h:Lu P (Dq.txt fun _=>false) ops.toList (Q .normal) s) (hok:Bp s.n ops=true:=by kernel_rfl):AW P (.region id ops false) Q s:=by
 intro F G w0 a w hr;refine wp_region_list (Pb (F:=F) (G:=G) (w0:=w0) (cf:=Dq.txt fun _=>false) (fun _ h=>h) s.n (K:=Q .normal) (fun a w h=>h) ops.toList s a w rfl (fun o ho=>?_) hr h);unfold Bp at hok;exact List.all_eq_true.1 hok o ho
@[simp] theorem Qrs (cf:Dq) (K:St→Prop) (s:St):Lu P cf [] K s=K s:=(rfl)
@[simp] theorem Qn3 (cf:Dq) (d:Option Tmp) (op:Op) (t:TypeId) (p:String) (a:Array Edge) (l:List Oper) (K:St→Prop) (s:St) :
  Lu P cf ({dst:=d,op:=op,type:=t,pos:=p,after:=a,guard:=none}::l) K s↔Qer P cf {dst:=d,op:=op,type:=t,pos:=p,after:=a,guard:=none} (Lu P cf l K) s:=by
 show(_∧_)↔_
 simp
theorem AW.rdL {Q:Exit→St→Prop} {s:St} {id:Nat} {ops:Array Oper} (bl:List Nat) (plan:List Nat) (hm:P.follows .mixedOrders=true) (hb:∀c∈bl,s.m c≠none) (h:Bz P ⟨fun _=>false,fun c=>c∈bl,true⟩ ops plan (Q .normal) s)
  (hok:Bp s.n ops=true:=by kernel_rfl) (hp:Hh P (fun _=>false) ops plan=true:=by kernel_rfl):AW P (.region id ops true) Q s :=
 AW.draw (fun _=>false) (fun c=>c∈bl) plan hm hok hp hb h
theorem AW.rdLR {Q:Exit→St→Prop} {s:St} {id:Nat} {ops:Array Oper} (ro bl:List Nat) (plan:List Nat) (hm:P.follows .mixedOrders=true) (hb:∀c∈bl,s.m c≠none) (h:Bz P ⟨roL ro,fun c=>c∈bl,true⟩ ops plan (Q .normal) s)
  (hok:Bp s.n ops=true:=by kernel_rfl) (hp:Hh P (roL ro) ops plan=true:=by kernel_rfl):AW P (.region id ops true) Q s :=
 AW.draw (roL ro) (fun c=>c∈bl) plan hm hok hp hb h
theorem Dw.shrink {F G:Nat→Prop} {w0 w:World} {s:St} {a:Act} (h:Dw F G w0 s a w) {b:Nat} {e:TypeId} {z:Nat} {l:List AV} (hb:s.m b=some ⟨e,z,l⟩) (k:Nat):Dw F G w0 {s with m:=s.m.set b ⟨e,z,l.take k⟩} a w:=by
 have hO:∀c,s.m.set b ⟨e,z,l.take k⟩ c≠none→s.m c≠none:=fun c hc=>by
  by_cases hcb:c=b
  ·subst hcb;rw[hb];simp
  ·rwa [Aa.set_other _ _ hcb]at hc
 have hF:∀c,c<w.heap.size→Cq F (s.m.set b ⟨e,z,l.take k⟩) c→Cq F s.m c:=fun c _ hc=>hc.elim .inl fun x=>.inr (hO c x);refine h.world _ (D7.refl _ w) (fun c x hx=>?_) (fun c hc=>.inl (hO c hc));by_cases hcb:c=b
 ·subst hcb;rw[Aa.set_same]at hx;cases hx;obtain⟨z0,zs,ones,cells,cap,h1,h2,h3,h4,h5⟩:=h.heap c _ hb;have hcell:∀i j u,Ax (l.take k) i j=some u→Ax l i j=some u:=fun i j u hu=>by
   unfold Ax at hu ⊢;rw[List.getElem?_take]at hu;split at hu
   ·exact hu
   ·simp at hu
  exact⟨z0,fun v hv=>zs v (List.mem_of_mem_take hv),fun i j u hu=>ones i j u (hcell i j u hu),cells,cap,h1,h2,h3,Nat.le_trans (by simp only[List.length_take];exact Nat.min_le_right _ _) h4,fun i j u hu=>by
   obtain⟨v,p1,p2⟩:=h5 i j u (hcell i j u hu);exact⟨v,p1,p2.mono (D7.refl (fun _=>False) w) (fun _ _ x=>x.elim) hF⟩⟩
 ·rw[Aa.set_other _ _ hcb]at hx;exact(h.heap c x hx).mono (D7.refl (fun _=>False) w) (fun x=>x) (fun _ _ x=>x.elim) hF
theorem AW.shrink {Q:Exit→St→Prop} {c:Code} {n:Nat} {L:List (Nat × AV)} {m:Aa} {b:Nat} {e:TypeId} {z:Nat} {l:List AV} (hb:m b=some ⟨e,z,l⟩) (k:Nat) (h:AW P c Q (Av.S n L (m.set b ⟨e,z,l.take k⟩))):AW P c Q (Av.S n L m):=by
 intro F G w0 a w hr;exact h F G w0 a w (hr.shrink hb k)
@[simp] theorem Qjk (P:Program) (size bytes m e:Nat) (zero:AV) (fs:List (Nat × Nat × Option Bool)) (b z i j:Nat) (k:IntKind) (n:Int):Br P ⟨size,bytes,.array m e,zero,fs⟩ (.ptr b z i j) (.int k n)=(Ah P e).bind fun te=>if 0≤n∧n<m then some (.ptr b z i (j+n.toNat*te.size)) else none:=by
 unfold Br
 dsimp only
 cases Ah P e<;>rfl
@[simp] theorem Qh7 (P:Program) (size bytes m e:Nat) (zero:AV) (fs:List (Nat × Nat × Option Bool)) (cs:List AV) (k:IntKind) (n:Int):Br P ⟨size,bytes,.array m e,zero,fs⟩ (.rptr cs) (.int k n)=(Ah P e).bind fun te=>if 0≤n∧n<m then some (.rptr (cs.drop (n.toNat*te.size))) else none:=by
 unfold Br
 dsimp only
 cases Ah P e<;>rfl
section
variable {cf:Dq} {K:St→Prop} {s:St} {d:Option Tmp} {ty:TypeId} {p:String} {a:Array Edge} {g:Option (Nat × Bool)}
@[simp] theorem Qn8 (t:TypeId) (x m:Operand) (lo hi:Option Operand):Er P cf ⟨d,.slice t x lo hi (some m),ty,p,a,g⟩ K s↔Dh ((Ah P t).bind fun ti=>J2 P ti (s.ev x) (lo.map s.ev) (hi.map s.ev) (s.ev m)) (E0 K s d):=Iff.rfl
end
@[simp] theorem Qo4 (P:Program) (size bytes e:Nat) (zero:AV) (fs:List (Nat × Nat × Option Bool)) (b z i n:Nat) (k k' k'':IntKind) (l h m:Int):J2 P ⟨size,bytes,.slice e,zero,fs⟩ (.osl b z i n) (some (.int k l)) (some (.int k' h)) (.int k'' m) =
  (Ah P e).bind fun _=>if 0≤m∧m≤n then (D9 m.toNat (some (.int k l)) (some (.int k' h))).map (fun(q:Nat × Nat)=>if m.toNat=q.1 then .zc else .any) else none:=(rfl)
theorem T6 (P:Program) (size bytes e:Nat) (zero:AV) (fs:List (Nat × Nat × Option Bool)) (b z i n:Nat) (lo hi:Option AV):G5 P ⟨size,bytes,.slice e,zero,fs⟩ (.osl b z i n) lo hi=(Ah P e).bind fun te=>if z=te.size then (D9 n lo hi).map fun(q:Nat × Nat)=>if q.1=0 then .osl b z i q.2 else if q.2=q.1 then .sl z [] else .osl b z (i+q.1) (q.2-q.1) else none:=by
 unfold G5
 dsimp only
 cases Ah P e<;>rfl
end
end Go.Av
end
section
namespace Go.Lam
abbrev Ed:=Nat × Nat
def ins (X:Nat→Bool) (e:Ed):Bool:=X e.1&&X e.2
def spn (L:List Ed) (X:Nat→Bool):Nat:=L.countP (ins X)
def sz (n:Nat) (X:Nat→Bool):Nat:=(List.range n).countP X
def A0 (n:Nat) (L:List Ed):Prop:=∀X,2≤sz n X→spn L X+3≤2*sz n X
def C9 (n:Nat) (L:List Ed) (X:Nat→Bool):Prop:=2≤sz n X∧spn L X+3=2*sz n X
def Cm (n:Nat) (e:Ed):Prop:=e.1<n∧e.2<n∧e.1≠e.2
def uni (X Y:Nat→Bool):Nat→Bool:=fun v=>X v || Y v
def cap (X Y:Nat→Bool):Nat→Bool:=fun v=>X v&&Y v
def Eh (a b:Nat):Nat→Bool:=fun v=>v==a || v==b
theorem Vc {α:Type} (l:List α) (p q:α→Bool):l.countP (fun a=>p a || q a)+l.countP (fun a=>p a&&q a)=l.countP p+l.countP q:=by
 induction l with
 |nil=>rfl
 |cons a l ih=>simp only[List.countP_cons];cases p a<;>cases q a<;>simp<;>omega
theorem Qdj (n:Nat) (X Y:Nat→Bool):sz n (uni X Y)+sz n (cap X Y)=sz n X+sz n Y:=Vc _ X Y
theorem countP_le {α:Type} {l:List α} {p q:α→Bool} (h:∀a∈l,p a=true→q a=true):l.countP p≤l.countP q:=List.countP_mono_left h
theorem Qqu (L:List Ed) (X Y:Nat→Bool):spn L X+spn L Y≤spn L (uni X Y)+spn L (cap X Y):=by
 have h:=Vc L (ins X) (ins Y);have h1:L.countP (fun a=>ins X a || ins Y a)≤spn L (uni X Y):=countP_le (fun e _=>by simp only[ins,uni];cases X e.1<;>cases X e.2<;>cases Y e.1<;>cases Y e.2<;>simp)
 have h2:L.countP (fun a=>ins X a&&ins Y a)≤spn L (cap X Y):=countP_le (fun e _=>by simp only[ins,cap];cases X e.1<;>cases X e.2<;>cases Y e.1<;>cases Y e.2<;>simp)
 unfold spn at *;omega
theorem Qis {n:Nat} {L:List Ed} (hs:A0 n L) {X Y:Nat→Bool} (hx:C9 n L X) (hy:C9 n L Y) (hc:2≤sz n (cap X Y)):C9 n L (uni X Y)∧C9 n L (cap X Y):=by
 have h1:=Qdj n X Y;have h2:=Qqu L X Y;have h3:=hs _ hc;obtain⟨a1,a2⟩:=hx;obtain⟨b1,b2⟩:=hy;have hu:2≤sz n (uni X Y):=by
  have:sz n X≤sz n (uni X Y):=countP_le (fun v _ h=>by simp[uni,h]);omega
 have h4:=hs _ hu;exact⟨⟨hu,by omega⟩,⟨hc,by omega⟩⟩
theorem Qnm (n:Nat) (X:Nat→Bool):sz n X≤n:=by
 have:=List.countP_le_length (p:=X) (l:=List.range n);simpa[sz]using this
theorem Wh {n:Nat} {X Y:Nat→Bool} (h:∀v,v<n→X v=true→Y v=true):sz n X≤sz n Y:=countP_le (fun v hv=>h v (List.mem_range.1 hv))
theorem Yd {n:Nat} {X Y:Nat→Bool} (h:∀v,v<n→X v=Y v):sz n X=sz n Y:=List.countP_congr (fun v hv=>by rw[h v (List.mem_range.1 hv)])
theorem Uk {n:Nat} {L:List Ed} (hL:∀e∈L,Cm n e) {X Y:Nat→Bool} (h:∀v,v<n→X v=Y v):spn L X=spn L Y:=List.countP_congr (fun e he=>by
 obtain⟨h1,h2,_⟩:=hL e he;simp only[ins];rw[h _ h1,h _ h2])
theorem Qgh {n v:Nat} {X:Nat→Bool} (hv:v<n) (h:X v=true):1≤sz n X:=List.countP_pos_iff.2 ⟨v,List.mem_range.2 hv,h⟩
theorem Zv (n v:Nat):(List.range n).count v=if v<n then 1 else 0:=by
 split
 ·rename_i h
  exact List.nodup_range.count (a:=v) |>.trans (by simp[h])
 ·rename_i h
  exact List.count_eq_zero.2 (by simpa using h)
theorem K5 (n a:Nat) (ha:a<n):sz n (fun v=>v==a)=1:=by
 have:=Zv n a;rw[if_pos ha]at this;exact this
theorem Qc2 {n a b:Nat} (ha:a<n) (hb:b<n) (h:a≠b):sz n (Eh a b)=2:=by
 have h1:=Qdj n (fun v=>v==a) (fun v=>v==b);rw[K5 n a ha,K5 n b hb]at h1;have:sz n (cap (fun v=>v==a) (fun v=>v==b))=0:=by
  refine List.countP_eq_zero.2 fun v _=>?_;simp only[cap,Bool.and_eq_true,beq_iff_eq];rintro⟨rfl,h'⟩;exact h h'
 rw[this]at h1;exact h1
theorem Ww {n a b:Nat} {X:Nat→Bool} (ha:a<n) (hb:b<n) (h:a≠b) (h1:X a=true) (h2:X b=true):2≤sz n X:=by
 rw[←Qc2 ha hb h];refine Wh fun v _ hv=>?_;simp only[Eh,Bool.or_eq_true,beq_iff_eq]at hv;rcases hv with rfl | rfl<;>assumption
theorem Qd4 {n a b:Nat} {X:Nat→Bool} (h:sz n X≤1) (ha:a<n) (hb:b<n) (h1:X a=true) (h2:X b=true):a=b:=by
 rcases Nat.decEq a b with h'|h'
 ·have:=Ww ha hb h' h1 h2;omega
 ·exact h'
theorem Q6 {n:Nat} {L:List Ed} (hL:∀e∈L,Cm n e) {X:Nat→Bool} (h:sz n X≤1):spn L X=0:=by
 refine List.countP_eq_zero.2 fun e he hx=>?_;obtain⟨h1,h2,h3⟩:=hL e he;simp only[ins,Bool.and_eq_true]at hx;exact h3 (Qd4 h h1 h2 hx.1 hx.2)
theorem Sx (e:Ed) (L:List Ed) (X:Nat→Bool):spn (e::L) X=spn L X+if ins X e=true then 1 else 0:=List.countP_cons
theorem Hp (L M:List Ed) (X:Nat→Bool):spn (L++M) X=spn L X+spn M X:=List.countP_append
theorem Qgp {L M:List Ed} (h:L.Perm M) (X:Nat→Bool):spn L X=spn M X:=h.countP_eq _
theorem A0.perm {n:Nat} {L M:List Ed} (h:L.Perm M) (hs:A0 n L):A0 n M:=fun X hX=>by rw[←Qgp h];exact hs X hX
theorem A0.sub {n:Nat} {L M:List Ed} (h:∀X,spn L X≤spn M X) (hs:A0 n M):A0 n L:=fun X hX=>by
 have:=h X;have:=hs X hX;omega
theorem Mm {n:Nat} {L:List Ed} (hs:A0 n L) (e:Ed):A0 n (L++[e])↔∀X,C9 n L X→ins X e=false:=by
 constructor
 ·intro h X hX;cases hi:ins X e with
  |false=>rfl
  |true =>
   have h1:=h X hX.1;rw[Hp,Sx,hi]at h1;simp[spn]at h1;have:=hX.2;unfold spn at this;omega
 ·intro h X hX;rw[Hp,Sx];have h1:=hs X hX;cases hi:ins X e with
  |false=>simp[spn]at *;omega
  |true =>
   have:spn L X+3≠2*sz n X:=fun e'=>by rw[h X ⟨hX,e'⟩]at hi;cases hi
   simp[spn]at *;omega
theorem Qix {a b:Nat}:ins (Eh a b) (a,b)=true:=by simp[ins,Eh]
end Go.Lam
end
section
namespace Go.Lam
def sm (n:Nat) (f:Nat→Nat):Nat:=((List.range n).map f).sum
theorem K6 (n:Nat) (f:Nat→Nat):sm (n+1) f=sm n f+f n:=by simp[sm,List.range_succ]
theorem Vd {n:Nat} {f g:Nat→Nat} (h:∀v,v<n→f v≤g v):sm n f≤sm n g:=by
 induction n with
 |zero=>simp[sm]
 |succ n ih=>rw[K6,K6];have:=ih (fun v hv=>h v (by omega));have:=h n (by omega);omega
theorem Hj {n:Nat} {f g:Nat→Nat} (h:∀v,v<n→f v=g v):sm n f=sm n g :=
 Nat.le_antisymm (Vd fun v hv=>Nat.le_of_eq (h v hv)) (Vd fun v hv=>Nat.le_of_eq (h v hv).symm)
theorem Jd (n:Nat) (f g:Nat→Nat):sm n (fun v=>f v+g v)=sm n f+sm n g:=by
 induction n with
 |zero=>rfl
 |succ n ih=>simp only[K6];omega
theorem Qbu (n:Nat) (X:Nat→Bool):sm n (fun v=>if X v=true then 2 else 0)=2*sz n X:=by
 induction n with
 |zero=>rfl
 |succ n ih=>rw[K6,ih];simp only[sz,List.range_succ,List.countP_append,List.countP_cons,List.countP_nil];split<;>omega
theorem L8 {n a:Nat} (ha:a<n) (c:Nat):sm n (fun v=>if v=a then c else 0)=c:=by
 induction n with
 |zero=>omega
 |succ n ih =>
  rw[K6];by_cases h:n=a
  ·subst h;have:sm n (fun v=>if v=n then c else 0)=0:=by
    have:=Hj (n:=n) (f:=fun v=>if v=n then c else 0) (g:=fun _=>0) (fun v hv=>by simp;omega);rw[this];clear this;clear ha ih;induction n with
    |zero=>rfl
    |succ n ih=>rw[K6,ih]
   simp[this]
  ·rw[ih (by omega)];simp[h]
structure Inv (n:Nat) (E:Nat→Ed) (A:List Nat) (fr:Nat→Nat) (cv:Nat→List Nat):Prop where
 two:∀v,v<n→fr v+(cv v).length=2
 perm:((List.range n).flatMap cv).Perm A
 ends:∀v,v<n→∀e∈cv v,(E e).1=v∨(E e).2=v
 ok:∀e∈A,Cm n (E e)
def Tk (n:Nat) (fr:Nat→Nat) (X:Nat→Bool):Nat:=sm n fun v=>if X v=true then fr v else 0
section
variable {n:Nat} {E:Nat→Ed} {A:List Nat} {fr:Nat→Nat} {cv:Nat→List Nat}
theorem Inv.mem (h:Inv n E A fr cv) {v e:Nat} (hv:v<n) (he:e∈cv v):e∈A:=h.perm.mem_iff.1 (List.mem_flatMap.2 ⟨v,List.mem_range.2 hv,he⟩)
theorem Inv.okAt (h:Inv n E A fr cv) {v e:Nat} (hv:v<n) (he:e∈cv v):Cm n (E e):=h.ok e (h.mem hv he)
def Fw (E:Nat→Ed) (e j:Nat):Nat:=(E e).1+(E e).2-j
theorem Inv.oth_lt (h:Inv n E A fr cv) {v e:Nat} (hv:v<n) (he:e∈cv v):Fw E e v<n∧Fw E e v≠v:=by
 obtain⟨h1,h2,h3⟩:=h.okAt hv he;unfold Fw;rcases h.ends v hv e he with h4|h4<;>omega
theorem Inv.ins_iff (h:Inv n E A fr cv) {v e:Nat} (hv:v<n) (he:e∈cv v) (X:Nat→Bool):ins X (E e)=(X v&&X (Fw E e v)):=by
 obtain⟨h1,h2,h3⟩:=h.okAt hv he;unfold Fw ins;rcases h.ends v hv e he with h4|h4
 ·rw[show(E e).1+(E e).2-v=(E e).2 by omega,h4]
 ·rw[show(E e).1+(E e).2-v=(E e).1 by omega,h4,Bool.and_comm]
theorem Inv.spn (h:Inv n E A fr cv) (X:Nat→Bool):spn (A.map E) X=sm n fun v=>(cv v).countP fun e=>ins X (E e):=by
 have e1:Lam.spn (A.map E) X=A.countP fun e=>ins X (E e):=by simp[Lam.spn,List.countP_map,Function.comp_def]
 rw[e1,←h.perm.countP_eq,List.countP_flatMap];rfl
theorem Inv.le (h:Inv n E A fr cv) (X:Nat→Bool):Lam.spn (A.map E) X+Tk n fr X≤2*sz n X:=by
 rw[h.spn,Tk,←Jd,←Qbu];refine Vd fun v hv=>?_;have h2:=h.two v hv;have hl:=List.countP_le_length (p:=fun e=>ins X (E e)) (l:=cv v);cases hx:X v with
 |true=>simp;omega
 |false =>
  have:(cv v).countP (fun e=>ins X (E e))=0:=List.countP_eq_zero.2 fun e he=>by rw[h.ins_iff hv he,hx];simp
  simp[this]
def Qd9 (n:Nat) (E:Nat→Ed) (cv:Nat→List Nat) (X:Nat→Bool):Prop:=∀v,v<n→X v=true→∀e∈cv v,X (Fw E e v)=true
theorem Inv.eq (h:Inv n E A fr cv) {X:Nat→Bool} (hs:Qd9 n E cv X):Lam.spn (A.map E) X+Tk n fr X=2*sz n X:=by
 rw[h.spn,Tk,←Jd,←Qbu];refine Hj fun v hv=>?_;have h2:=h.two v hv;cases hx:X v with
 |true =>
  have:(cv v).countP (fun e=>ins X (E e))=(cv v).length:=List.countP_eq_length.2 fun e he=>by rw[h.ins_iff hv he,hx,hs v hv hx e he];rfl
  simp[this];omega
 |false =>
  have:(cv v).countP (fun e=>ins X (E e))=0:=List.countP_eq_zero.2 fun e he=>by rw[h.ins_iff hv he,hx];simp
  simp[this]
theorem Inv.shut (h:Inv n E A fr cv) {X:Nat→Bool} (he:2*sz n X≤Lam.spn (A.map E) X+Tk n fr X):Qd9 n E cv X:=by
 intro v hv hx e hm;rcases Bool.eq_false_or_eq_true (X (Fw E e v))with h1 | h1
 ·exact h1
 ·exfalso
  have key:∀w,w<n→((cv w).countP fun e=>ins X (E e))+(if X w=true then fr w else 0)≤if X w=true then 2 else 0:=by
   intro w hw;have h2:=h.two w hw;have hl:=List.countP_le_length (p:=fun e=>ins X (E e)) (l:=cv w);cases hx:X w with
   |true=>simp;omega
   |false =>
    have:(cv w).countP (fun e=>ins X (E e))=0:=List.countP_eq_zero.2 fun e he=>by rw[h.ins_iff hw he,hx];simp
    simp[this]
  have strict:sm n (fun w=>((cv w).countP fun e=>ins X (E e))+(if X w=true then fr w else 0))+1≤sm n fun w=>if X w=true then 2 else 0:=by
   rw[←L8 hv 1,←Jd];refine Vd fun w hw=>?_;by_cases hwv:w=v
   ·subst hwv;have h2:=h.two w hw;have:(cv w).countP (fun e=>ins X (E e))<(cv w).length:=by
     rcases Nat.lt_or_ge ((cv w).countP fun e=>ins X (E e)) (cv w).length with h3 | h3
     ·exact h3
     ·have:=List.countP_eq_length.1 (Nat.le_antisymm List.countP_le_length h3) e hm;rw[h.ins_iff hw hm,h1]at this;simp at this
    simp[hx];omega
   ·simp only[hwv,if_false];exact key w hw
  rw[Qbu,Jd,←h.spn]at strict;unfold Tk at he;omega
theorem Qih {X Y:Nat→Bool} (h:∀v,v<n→X v=true→Y v=true):Tk n fr X≤Tk n fr Y:=Vd fun v hv=>by
 cases hx:X v with
 |true=>simp[h v hv hx]
 |false=>simp
theorem Nc {a b:Nat} (ha:a<n) (hb:b<n) (hab:a≠b):Tk n fr (Eh a b)=fr a+fr b:=by
 rw[←L8 ha (fr a),←L8 hb (fr b),←Jd];refine Hj fun v _=>?_;simp only[Eh,Bool.or_eq_true,beq_iff_eq];by_cases h1:v=a
 ·subst h1;simp[hab]
 ·by_cases h2:v=b
  ·subst h2;simp[h1]
  ·simp[h1,h2]
theorem Ro {a:Nat} (ha:a<n):Tk n fr (fun v=>v==a)=fr a:=by
 rw[←L8 ha (fr a)];exact Hj fun v _=>by by_cases h:v=a<;>simp[h]
theorem W6 {X Y:Nat→Bool} (h:∀v,v<n→X v=true→Y v=false→fr v=0) (hy:∀v,v<n→Y v=true→X v=true):Tk n fr X=Tk n fr Y:=Hj fun v hv=>by
 cases hx:X v with
 |true=>cases hyv:Y v with
  |true=>rfl
  |false=>simp[h v hv hx hyv]
 |false=>cases hyv:Y v with
  |true=>rw[hy v hv hyv]at hx;cases hx
  |false=>rfl
theorem Inv.first (h:Inv n E A fr cv) (hs:A0 n (A.map E)) {a:Nat} (ha:a<n) {X:Nat→Bool} (hX:Qd9 n E cv X) (hXa:X a=true) (hz:∀v,v<n→X v=true→v≠a→fr v=0):2≤fr a:=by
 have e1:=h.eq hX;have e2:Tk n fr X=fr a:=by
  rw[←Ro (n:=n) (fr:=fr) ha];exact W6 (fun v hv hx hy=>hz v hv hx (by simpa using hy)) (fun v _ hv=>by simp at hv;rw[hv];exact hXa)
 rcases Nat.lt_or_ge (sz n X) 2 with h1|h1
 ·have h0:Lam.spn (A.map E) X=0:=Q6 (n:=n) (fun e he=>by
   obtain⟨k,hk,rfl⟩:=List.mem_map.1 he;exact h.ok k hk) (by omega)
  have:=Qgh ha hXa;omega
 ·have:=hs X h1;omega
theorem Inv.second (h:Inv n E A fr cv) (hs:A0 n (A.map E)) {a b:Nat} (ha:a<n) (hb:b<n) (hab:a≠b) (h2:fr a=2) {X:Nat→Bool} (hX:Qd9 n E cv X) (hXa:X a=true) (hXb:X b=true)
  (hz:∀v,v<n→X v=true→v≠a→v≠b→fr v=0) (hlt:fr b<2):fr b=1∧C9 n (A.map E) X:=by
 have e1:=h.eq hX;have e2:Tk n fr X=fr a+fr b:=by
  rw[←Nc (n:=n) (fr:=fr) ha hb hab];refine W6 (fun v hv hx hy=>?_) (fun v _ hv=>?_)
  ·simp only[Eh,Bool.or_eq_false_iff,beq_eq_false_iff_ne]at hy;exact hz v hv hx hy.1 hy.2
  ·simp only[Eh,Bool.or_eq_true,beq_iff_eq]at hv;rcases hv with rfl | rfl<;>assumption
 have h3:=Ww ha hb hab hXa hXb;have:=hs X h3;exact⟨by omega,h3,by omega⟩
theorem Inv.four (h:Inv n E A fr cv) {a b:Nat} (ha:a<n) (hb:b<n) (hab:a≠b) (h4:fr a+fr b=4) (X:Nat→Bool) (hXa:X a=true) (hXb:X b=true):¬C9 n (A.map E) X:=by
 intro ht;have e1:=h.le X;have e2:Tk n fr (Eh a b)≤Tk n fr X:=Qih fun v _ hv=>by
  simp only[Eh,Bool.or_eq_true,beq_iff_eq]at hv;rcases hv with rfl | rfl<;>assumption
 rw[Nc ha hb hab]at e2;have:=ht.2;omega
end
end Go.Lam
end
section
namespace Go.Lam
def B8 (m:Nat):Nat→Bool:=fun v=>m.testBit v
theorem Kc (n:Nat) (X:Nat→Bool):∃m,m<2^n∧∀v,v<n→B8 m v=X v:=by
 induction n with
 |zero=>exact⟨0,by simp,fun v hv=>by omega⟩
 |succ n ih =>
  obtain⟨m,h1,h2⟩:=ih;cases hx:X n with
  |false =>
   refine⟨m,by rw[Nat.pow_succ];omega,fun v hv=>?_⟩;by_cases hvn:v=n
   ·subst hvn;rw[hx];exact Nat.testBit_lt_two_pow h1
   ·exact h2 v (by omega)
  |true =>
   refine⟨2^n+m,by rw[Nat.pow_succ];omega,fun v hv=>?_⟩;unfold B8;by_cases hvn:v=n
   ·subst hvn;rw[hx,Nat.testBit_two_pow_add_eq,Nat.testBit_lt_two_pow h1];rfl
   ·rw[Nat.testBit_two_pow_add_gt (by omega)];exact h2 v (by omega)
def Lq (n:Nat) (L:List Ed):Bool:=(List.range (2^n)).all fun m=>!(decide (2≤sz n (B8 m))&&decide (2*sz n (B8 m)<spn L (B8 m)+3))
theorem Fc {n:Nat} {L:List Ed} (hL:∀e∈L,Cm n e):Lq n L=true↔A0 n L:=by
 unfold Lq;rw[List.all_eq_true];constructor
 ·intro h X hX;obtain⟨m,h1,h2⟩:=Kc n X;have h3:=h m (List.mem_range.2 h1);rw[Yd h2,Uk hL h2]at h3;simp only[Bool.not_eq_true',Bool.and_eq_false_iff,decide_eq_false_iff_not]at h3;omega
 ·intro h m _;simp only[Bool.not_eq_true',Bool.and_eq_false_iff,decide_eq_false_iff_not];have:=h (B8 m);omega
def Ft (n:Nat) (E:Nat→Ed) (out:List Nat) (e:Nat):List Nat:=if Lq n ((out++[e]).map E)=true then out++[e] else out
def A9 (n:Nat) (E:Nat→Ed) (out s:List Nat):List Nat:=s.foldl (Ft n E) out
theorem A0.nil (n:Nat):A0 n []:=fun X hX=>by simp[spn];omega
theorem A0.append_left {n:Nat} {L M:List Ed} (h:A0 n (L++M)):A0 n L:=h.sub fun X=>by rw[Hp];omega
theorem A0.sublist {n:Nat} {L M:List Ed} (h:L.Sublist M) (hs:A0 n M):A0 n L:=hs.sub fun _=>h.countP_le
section
variable {n:Nat} {E:Nat→Ed}
theorem Pw {out:List Nat} {e:Nat} (ho:∀k∈out,Cm n (E k)) (he:Cm n (E e)) (hs:A0 n (out.map E)):A0 n ((Ft n E out e).map E):=by
 unfold Ft;split
 ·rename_i h
  exact(Fc (by simp only[List.mem_map,List.mem_append,List.mem_singleton];rintro _ ⟨k,hk | rfl,rfl⟩;exact ho k hk;exact he)).1 h
 ·exact hs
theorem Nk {out:List Nat} {e k:Nat} (h:k∈Ft n E out e):k∈out∨k=e:=by
 unfold Ft at h;split at h
 ·simpa using h
 ·exact .inl h
theorem Dt (out:List Nat) (e:Nat) (s:List Nat):A9 n E out (e::s)=A9 n E (Ft n E out e) s:=rfl
theorem Tt (out s t:List Nat):A9 n E out (s++t)=A9 n E (A9 n E out s) t:=by simp[A9]
theorem He {k:Nat}:∀{s out:List Nat},k∈A9 n E out s→k∈out∨k∈s
 |[],_,h=>.inl h
 |e::s,out,h=>by
  rcases He (s:=s) h with h1|h1
  ·rcases Nk h1 with h2|h2
   ·exact .inl h2
   ·exact .inr (by simp[h2])
  ·exact .inr (by simp[h1])
theorem N8 {s out:List Nat} (ho:∀k∈out,Cm n (E k)) (hs:∀k∈s,Cm n (E k)):∀k∈A9 n E out s,Cm n (E k):=fun k hk=>by
 rcases He hk with h|h
 ·exact ho k h
 ·exact hs k h
theorem Co:∀{s out:List Nat},(∀k∈out,Cm n (E k))→(∀k∈s,Cm n (E k))→A0 n (out.map E)→A0 n ((A9 n E out s).map E)
 |[],_,_,_,h=>h
 |e::s,out,ho,hs,h=>Co (s:=s) (fun k hk=>by
   rcases Nk hk with h2|h2
   ·exact ho k h2
   ·rw[h2];exact hs e (by simp)) (fun k hk=>hs k (by simp[hk])) (Pw ho (hs e (by simp)) h)
theorem Hf:∀(s out:List Nat),∃t,t.Sublist s∧A9 n E out s=out++t
 |[],out=>⟨[],.slnil,by simp[A9]⟩
 |e::s,out=>by
  obtain⟨t,h1,h2⟩:=Hf s (Ft n E out e);rw[Dt,h2];unfold Ft;split
  ·exact⟨e::t,h1.cons₂ e,by simp⟩
  ·exact⟨t,h1.cons e,rfl⟩
theorem Mi:∀{s out:List Nat},(∀k∈out,Cm n (E k))→(∀k∈s,Cm n (E k))→A0 n ((out++s).map E)→A9 n E out s=out++s
 |[],out,_,_,_=>by simp[A9]
 |e::s,out,ho,hs,h=>by
  have h1:Ft n E out e=out++[e]:=by
   unfold Ft;rw[if_pos];refine(Fc ?_).2 ?_
   ·simp only[List.mem_map,List.mem_append,List.mem_singleton];rintro _ ⟨k,hk | rfl,rfl⟩;exact ho k hk;exact hs _ (by simp)
   ·have:(out++e::s).map E=(out++[e]).map E++s.map E:=by simp
    rw[this]at h;exact h.append_left
  rw[Dt,h1,Mi (s:=s)]
  ·simp
  ·intro k hk;simp only[List.mem_append,List.mem_singleton]at hk;rcases hk with hk | rfl
   ·exact ho k hk
   ·exact hs _ (by simp)
  ·exact fun k hk=>hs k (by simp[hk])
  ·simpa using h
theorem F6 (s out:List Nat):(A9 n E out s).length≤out.length+s.length:=by
 obtain⟨t,h1,h2⟩:=Hf (n:=n) (E:=E) s out;rw[h2,List.length_append];have:=h1.length_le;omega
theorem Y7 {s:List Nat} (hs:∀k∈s,Cm n (E k)):(A9 n E [] s).length=s.length↔Lq n (s.map E)=true:=by
 have hL:∀e∈s.map E,Cm n e:=by simp only[List.mem_map];rintro _ ⟨k,hk,rfl⟩;exact hs k hk
 constructor
 ·intro h;obtain⟨t,h1,h2⟩:=Hf (n:=n) (E:=E) s [];rw[h2]at h;have h3:t=s:=h1.eq_of_length (by simpa using h);have h4:=Co (n:=n) (E:=E) (s:=s) (out:=[]) (by simp) hs (A0.nil n);rw[h2,h3]at h4;exact(Fc hL).2 (by simpa using h4)
 ·intro h;rw[Mi (by simp) hs (by simpa using(Fc hL).1 h)];simp
theorem Ru:∀{s out:List Nat},(∀k∈out,Cm n (E k))→(∀k∈s,Cm n (E k))→A0 n (out.map E)→∀e∈s,e ∉ A9 n E out s→∃X,C9 n ((A9 n E out s).map E) X∧ins X (E e)=true
 |[],_,_,_,_,e,he,_=>by simp at he
 |f::s,out,ho,hs,h,e,he,hn=>by
  have hk:∀k∈Ft n E out f,Cm n (E k):=fun k hk=>by
   rcases Nk hk with h2|h2
   ·exact ho k h2
   ·rw[h2];exact hs f (by simp)
  have hks:∀k∈s,Cm n (E k):=fun k hk=>hs k (by simp[hk]);have hsp:=Pw ho (hs f (by simp)) h;rcases List.mem_cons.1 he with rfl | he'
  ·-- the edge itself
   rw[Dt]at hn ⊢;obtain⟨t,_,h2⟩:=Hf (n:=n) (E:=E) s (Ft n E out e);have hfin:=Co hk hks hsp;rw[h2]at hn hfin ⊢;unfold Ft at hn hfin ⊢;split at hn
   ·simp at hn
   ·rename_i hb
    rw[if_neg hb]at hfin ⊢;have hL:∀x∈(out++[e]).map E,Cm n x:=by
     simp only[List.mem_map,List.mem_append,List.mem_singleton];rintro _ ⟨k,hk | rfl,rfl⟩;exact ho k hk;exact hs _ (by simp)
    have hns:¬A0 n (out.map E++[E e]):=fun hc=>hb ((Fc hL).2 (by simpa using hc));rw[Mm h]at hns;have ⟨X,hX⟩:=Classical.not_forall.1 hns;have ⟨hT,hi⟩:=Classical.not_imp.1 hX;refine⟨X,⟨hT.1,?_⟩,by simpa using hi⟩;have h5:=hfin X hT.1;have h6:=hT.2;rw[List.map_append,Hp]at h5 ⊢;omega
  ·rw[Dt]at hn ⊢;exact Ru hk hks hsp e he' hn
end
end Go.Lam
end
section
namespace Go.Lam
def Qce (n:Nat) (L:List Ed) (m:Nat):Bool:=decide (2≤sz n (B8 m))&&decide (spn L (B8 m)+3=2*sz n (B8 m))
theorem Qb7 {n:Nat} {L:List Ed} {m:Nat}:Qce n L m=true↔C9 n L (B8 m):=by simp[Qce,C9]
def J8 (n:Nat) (L:List Ed):List Nat:=(List.range (2^n)).filter (Qce n L)
def blocks (n:Nat) (L:List Ed):List Nat:=(J8 n L).filter fun m=>(J8 n L).all fun k=>k==m || k &&& m != m
theorem C9.congr {n:Nat} {L:List Ed} (hL:∀e∈L,Cm n e) {X Y:Nat→Bool} (h:∀v,v<n→X v=Y v) (ht:C9 n L X):C9 n L Y:=by
 unfold C9 at *;rw[←Yd h,←Uk hL h];exact ht
theorem Qf9 {m k:Nat}:k &&& m=m↔∀v,B8 m v=true→B8 k v=true:=by
 constructor
 ·intro h v hv;rw[←h]at hv;unfold B8 at *;rw[Nat.testBit_and]at hv;simp at hv;exact hv.1
 ·intro h;refine Nat.eq_of_testBit_eq fun v=>?_;rw[Nat.testBit_and];have:=h v;unfold B8 at this;cases h1:m.testBit v<;>cases h2:k.testBit v<;>simp_all
theorem Qjo {n m:Nat} (h:m<2^n) {v:Nat} (hv:B8 m v=true):v<n:=by
 rcases Nat.lt_or_ge v n with h1|h1
 ·exact h1
 ·unfold B8 at hv;rw[Nat.testBit_lt_two_pow (Nat.lt_of_lt_of_le h (Nat.pow_le_pow_right (by omega) h1))]at hv;cases hv
theorem Rz {n m k:Nat} (hm:m<2^n) (hk:k<2^n) (h:∀v,v<n→B8 m v=B8 k v):m=k:=Nat.eq_of_testBit_eq fun v=>by
 rcases Nat.lt_or_ge v n with h1|h1
 ·exact h v h1
 ·rw[Nat.testBit_lt_two_pow (Nat.lt_of_lt_of_le hm (Nat.pow_le_pow_right (by omega) h1)),Nat.testBit_lt_two_pow (Nat.lt_of_lt_of_le hk (Nat.pow_le_pow_right (by omega) h1))]
theorem Qbx (m k:Nat):B8 (m ||| k)=uni (B8 m) (B8 k):=by funext v;simp[B8,uni,Nat.testBit_or]
section
variable {n:Nat} {L:List Ed}
theorem B2 {m:Nat}:m∈J8 n L↔m<2^n∧C9 n L (B8 m):=by simp[J8,Qb7]
theorem C1 {m:Nat}:m∈blocks n L↔m∈J8 n L∧∀k∈J8 n L,(∀v,B8 m v=true→B8 k v=true)→k=m:=by
 unfold blocks;rw[List.mem_filter,List.all_eq_true];refine and_congr_right fun _=>forall_congr' fun k=>forall_congr' fun _=>?_;rw[←Qf9];by_cases h1:k=m
 ·simp[h1]
 ·by_cases h2:k &&& m=m<;>simp[h1,h2]
theorem Ig (hL:∀e∈L,Cm n e) {X:Nat→Bool} (h:C9 n L X):∃m∈blocks n L,∀v,v<n→X v=true→B8 m v=true:=by
 suffices H:∀d,∀X,n≤sz n X+d→C9 n L X→∃m∈blocks n L,∀v,v<n→X v=true→B8 m v=true from H n X (by omega) h
 intro d
 induction d with
 |zero =>
  intro X hd hX;obtain⟨m,h1,h2⟩:=Kc n X;have ht:C9 n L (B8 m):=hX.congr hL fun v hv=>(h2 v hv).symm;refine⟨m,C1.2 ⟨B2.2 ⟨h1,ht⟩,fun k hk hs=>?_⟩,fun v hv hx=>by rw[h2 v hv];exact hx⟩;have full:∀v,v<n→X v=true:=fun v hv=>by
   rcases Bool.eq_false_or_eq_true (X v)with h3|h3
   ·exact h3
   ·have a1:=Qdj n X (fun w=>w==v);rw[K5 n v hv]at a1;have a2:sz n (cap X fun w=>w==v)=0:=List.countP_eq_zero.2 fun w _=>by
     simp only[cap,Bool.and_eq_true,beq_iff_eq];rintro⟨h4,rfl⟩;rw[h3]at h4;cases h4
    have:=Qnm n (uni X fun w=>w==v);omega
  exact Rz (B2.1 hk).1 h1 fun v hv=>by
   have:=hs v (by rw[h2 v hv];exact full v hv);rw[this,h2 v hv,full v hv]
 |succ d ih =>
  intro X hd hX;obtain⟨m,h1,h2⟩:=Kc n X;have ht:C9 n L (B8 m):=hX.congr hL fun v hv=>(h2 v hv).symm;by_cases hm:m∈blocks n L
  ·exact⟨m,hm,fun v hv hx=>by rw[h2 v hv];exact hx⟩
  ·rw[C1]at hm;have hm':¬∀k∈J8 n L,(∀v,B8 m v=true→B8 k v=true)→k=m:=fun hc=>hm ⟨B2.2 ⟨h1,ht⟩,hc⟩;have ⟨k,hk⟩:=Classical.not_forall.1 hm';have ⟨hk1,hk2⟩:=Classical.not_imp.1 hk;have ⟨hk3,hk4⟩:=Classical.not_imp.1 hk2;obtain⟨hk5,hk6⟩:=B2.1 hk1;have hlt:sz n X<sz n (B8 k):=by
    have a1:sz n X≤sz n (B8 k):=Wh fun v hv hx=>hk3 v (by rw[h2 v hv];exact hx);rcases Nat.lt_or_ge (sz n X) (sz n (B8 k))with h3 | h3
    ·exact h3
    ·exfalso
     refine hk4 (Rz hk5 h1 fun v hv=>?_);rw[h2 v hv];cases hb:B8 k v with
     |false =>
      cases hx:X v with
      |false=>rfl
      |true=>rw[hk3 v (by rw[h2 v hv];exact hx)]at hb;cases hb
     |true =>
      cases hx:X v with
      |true=>rfl
      |false =>
       have b1:=Qdj n X (fun w=>w==v);rw[K5 n v hv]at b1;have b2:sz n (cap X fun w=>w==v)=0:=List.countP_eq_zero.2 fun w _=>by
        simp only[cap,Bool.and_eq_true,beq_iff_eq];rintro⟨h4,rfl⟩;rw[hx]at h4;cases h4
       have b3:sz n (uni X fun w=>w==v)≤sz n (B8 k):=Wh fun w hw h5=>by
        simp only[uni,Bool.or_eq_true,beq_iff_eq]at h5;rcases h5 with h5 | rfl
        ·exact hk3 w (by rw[h2 w hw];exact h5)
        ·exact hb
       omega
   obtain⟨m',h3,h4⟩:=ih (B8 k) (by omega) hk6;exact⟨m',h3,fun v hv hx=>h4 v hv (hk3 v (by rw[h2 v hv];exact hx))⟩
theorem Na (hs:A0 n L) {m k:Nat} (hm:m∈blocks n L) (hk:k∈blocks n L) (h:2≤sz n (cap (B8 m) (B8 k))):m=k:=by
 obtain⟨hm1,hm2⟩:=C1.1 hm;obtain⟨hk1,hk2⟩:=C1.1 hk;have hu:=(Qis hs (B2.1 hm1).2 (B2.1 hk1).2 h).1;rw[←Qbx]at hu;have hlt:m ||| k<2^n:=Nat.or_lt_two_pow (B2.1 hm1).1 (B2.1 hk1).1;have e1:=hm2 _ (B2.2 ⟨hlt,hu⟩) (fun v hv=>by rw[Qbx];simp[uni,hv]);have e2:=hk2 _ (B2.2 ⟨hlt,hu⟩) (fun v hv=>by rw[Qbx];simp[uni,hv]);exact e1.symm.trans e2
theorem Gx:(blocks n L).Nodup:=(List.nodup_range.filter _).filter _
theorem Hn (hL:∀e∈L,Cm n e) (hs:A0 n L) {e:Ed} (he:e∈L):C9 n L (Eh e.1 e.2):=by
 obtain⟨h1,h2,h3⟩:=hL e he;have h4:sz n (Eh e.1 e.2)=2:=Qc2 h1 h2 h3;refine⟨by omega,?_⟩;have:=hs _ (Nat.le_of_eq h4.symm);have h5:0<spn L (Eh e.1 e.2):=List.countP_pos_iff.2 ⟨e,he,by simp[ins,Eh]⟩;omega
theorem S3 {α β:Type} (p:α→β→Bool) (J:List β):∀l:List α,(l.map fun m=>J.countP (p m)).sum=(J.map fun e=>l.countP fun m=>p m e).sum
 |[]=>by
  simp only[List.map_nil,List.sum_nil,List.countP_nil]
  induction J with
  |nil=>rfl
  |cons a J ih=>rw[List.map_cons,List.sum_cons,←ih];rfl
 |a::l=>by
  rw[List.map_cons,List.sum_cons,S3 p J l]
  induction J with
  |nil=>rfl
  |cons b J ih=>simp only[List.countP_cons,List.map_cons,List.sum_cons]at *;omega
theorem L4 {α:Type} {p:α→Bool}:∀{l:List α},l.Nodup→(∀a∈l,∀b∈l,p a=true→p b=true→a=b)→l.countP p≤1
 |[],_,_=>by simp
 |a::l,hn,h=>by
  rw[List.nodup_cons]at hn;rw[List.countP_cons];cases hp:p a with
  |false=>simp;exact L4 hn.2 fun x hx y hy=>h x (by simp[hx]) y (by simp[hy])
  |true =>
   have:l.countP p=0:=List.countP_eq_zero.2 fun b hb hpb=>hn.1 (by rw[h a (by simp) b (by simp[hb]) hp hpb];exact hb);simp[this]
theorem Jt {α:Type} {f g:α→Nat}:∀{l:List α},(∀a∈l,f a≤g a)→(l.map f).sum≤(l.map g).sum
 |[],_=>by simp
 |a::l,h=>by
  have:=h a (by simp);have:=Jt (l:=l) fun b hb=>h b (by simp[hb]);simp;omega
theorem Qv {α:Type}:∀l:List α,(l.map fun _=>1).sum=l.length
 |[]=>rfl
 |a::l=>by rw[List.map_cons,List.sum_cons,Qv l,List.length_cons];omega
theorem Qfw (hs:A0 n L) {e:Ed} (he:Cm n e):(blocks n L).countP (fun m=>ins (B8 m) e)≤1 :=
 L4 Gx fun m hm k hk h1 h2=>by
  simp only[ins,Bool.and_eq_true]at h1 h2;exact Na hs hm hk (Ww he.1 he.2.1 he.2.2 (by simp only[cap];rw[h1.1,h2.1];rfl) (by simp only[cap];rw[h1.2,h2.2];rfl))
theorem Ri (hL:∀e∈L,Cm n e) (hs:A0 n L):((blocks n L).map fun m=>2*sz n (B8 m)-3).sum=L.length:=by
 have e1:((blocks n L).map fun m=>2*sz n (B8 m)-3)=(blocks n L).map fun m=>L.countP (ins (B8 m)):=List.map_congr_left fun m hm=>by
  have:=(B2.1 (C1.1 hm).1).2.2;unfold spn at this;omega
 rw[e1,S3 (fun m e=>ins (B8 m) e) L,←Qv L]
 congr 1
 refine List.map_congr_left fun e he=>Nat.le_antisymm (Qfw hs (hL e he)) ?_;obtain⟨m,h1,h2⟩:=Ig hL (Hn hL hs he);refine List.countP_pos_iff.2 ⟨m,h1,?_⟩;obtain⟨h3,h4,_⟩:=hL e he;simp only[ins,Bool.and_eq_true];exact⟨h2 _ h3 (by simp[Eh]),h2 _ h4 (by simp[Eh])⟩
theorem Qg9 (hL:∀e∈L,Cm n e) (hs:A0 n L) {J:List Ed} (hJ:∀e∈J,Cm n e) (hj:A0 n J) (h:∀e∈J,∃X,C9 n L X∧ins X e=true):J.length≤L.length:=by
 rw[←Ri hL hs,←Qv J];refine Nat.le_trans (Jt (g:=fun e=>(blocks n L).countP fun m=>ins (B8 m) e) fun e he=>?_) ?_
 ·obtain⟨X,hX,hi⟩:=h e he;obtain⟨m,h1,h2⟩:=Ig hL hX;obtain⟨h3,h4,_⟩:=hJ e he;simp only[ins,Bool.and_eq_true]at hi;exact List.countP_pos_iff.2 ⟨m,h1,by simp only[ins,Bool.and_eq_true];exact⟨h2 _ h3 hi.1,h2 _ h4 hi.2⟩⟩
 ·rw[←S3 (fun m e=>ins (B8 m) e) J];refine Jt fun m hm=>?_;have:=hj _ (B2.1 (C1.1 hm).1).2.1;unfold spn at this;show J.countP (ins (B8 m))≤_
  omega
end
end Go.Lam
end
section
namespace Go.Lam
def Eu {α:Type} (f:Nat→α) (i:Nat) (x:α):Nat→α:=fun v=>if v=i then x else f v
@[simp] theorem D2 {α:Type} (f:Nat→α) (i:Nat) (x:α):Eu f i x i=x:=by simp[Eu]
theorem Bm {α:Type} (f:Nat→α) {i v:Nat} (x:α) (h:v≠i):Eu f i x v=f v:=by simp[Eu,h]
theorem Me (n:Nat) (cv:Nat→List Nat) (x:Nat):((List.range n).flatMap cv).count x=sm n fun v=>(cv v).count x:=by
 rw[List.count_flatMap];rfl
theorem Rp {l:List Nat} {k e:Nat} (h:l[k]?=some e) (x:Nat):(l.eraseIdx k).count x+(if x=e then 1 else 0)=l.count x:=by
 induction l generalizing k with
 |nil=>simp at h
 |cons a l ih =>
  cases k with
  |zero =>
   simp at h;subst h;simp only[List.eraseIdx_zero,List.tail_cons,List.count_cons];by_cases hx:x=a
   ·simp[hx]
   ·simp[hx,Ne.symm hx]
  |succ k=>simp only[List.eraseIdx_cons_succ,List.count_cons]at *;have:=ih (by simpa using h);omega
section
variable {n:Nat} {E:Nat→Ed} {A:List Nat} {fr:Nat→Nat} {cv:Nat→List Nat}
theorem Inv.move (h:Inv n E A fr cv) {j k e:Nat} (hj:j<n) (hk:(cv j)[k]?=some e) (hf:0<fr (Fw E e j)) :
  Inv n E A (Eu (Eu fr (Fw E e j) (fr (Fw E e j)-1)) j (fr j+1)) (Eu (Eu cv (Fw E e j) (cv (Fw E e j)++[e])) j ((cv j).eraseIdx k)):=by
 have hm:e∈cv j:=List.mem_of_getElem? hk;obtain⟨hl,hne⟩:=h.oth_lt hj hm;refine⟨fun v hv=>?_,?_,fun v hv x hx=>?_,h.ok⟩
 ·by_cases h1:v=j
  ·subst h1;have:=h.two v hv;have hlt:=(List.getElem?_eq_some_iff.1 hk).1;simp only[D2,List.length_eraseIdx,hlt,if_true];omega
  ·rw[Bm _ _ h1,Bm _ _ h1];by_cases h2:v=Fw E e j
   ·subst h2;have:=h.two _ hv;simp only[D2,List.length_append,List.length_cons,List.length_nil];omega
   ·rw[Bm _ _ h2,Bm _ _ h2];exact h.two v hv
 ·refine List.Perm.trans (List.perm_iff_count.2 fun x=>?_) h.perm;rw[Me,Me];have key:sm n (fun v=>(Eu (Eu cv (Fw E e j) (cv (Fw E e j)++[e])) j ((cv j).eraseIdx k) v).count x+if v=j then (if x=e then 1 else 0) else 0)=sm n (fun v=>(cv v).count x+if v=Fw E e j then (if x=e then 1 else 0) else 0):=Hj fun v hv=>by
   by_cases h1:v=j
   ·subst h1;rw[D2,if_pos rfl,if_neg (Ne.symm hne),Rp hk x];rfl
   ·rw[Bm _ _ h1,if_neg h1];by_cases h2:v=Fw E e j
    ·subst h2;rw[D2,if_pos rfl,List.count_append,List.count_singleton];by_cases hx:x=e
     ·simp[hx]
     ·simp[hx,Ne.symm hx]
    ·rw[Bm _ _ h2,if_neg h2]
  rw[Jd,Jd,L8 hj,L8 hl]at key;omega
 ·by_cases h1:v=j
  ·subst h1;rw[D2]at hx;exact h.ends v hv x (List.mem_of_mem_eraseIdx hx)
  ·rw[Bm _ _ h1]at hx;by_cases h2:v=Fw E e j
   ·subst h2;rw[D2,List.mem_append,List.mem_singleton]at hx;rcases hx with hx | rfl
    ·exact h.ends _ hv x hx
    ·unfold Fw;rcases h.ends j hj x hm with h3 | h3
     ·right;omega
     ·left;omega
   ·rw[Bm _ _ h2]at hx;exact h.ends v hv x hx
theorem Inv.lay (h:Inv n E A fr cv) {a e:Nat} (ha:(E e).1=a) (he:Cm n (E e)) (hf:0<fr a):Inv n E (A++[e]) (Eu fr a (fr a-1)) (Eu cv a (cv a++[e])):=by
 have hl:a<n:=ha ▸ he.1;refine⟨fun v hv=>?_,?_,fun v hv x hx=>?_,fun x hx=>?_⟩
 ·by_cases h1:v=a
  ·subst h1;have:=h.two v hv;simp only[D2,List.length_append,List.length_cons,List.length_nil];omega
  ·rw[Bm _ _ h1,Bm _ _ h1];exact h.two v hv
 ·refine List.perm_iff_count.2 fun x=>?_;have h1:=List.perm_iff_count.1 h.perm x;rw[Me]at h1 ⊢;rw[List.count_append,←h1];have key:sm n (fun v=>(Eu cv a (cv a++[e]) v).count x)=sm n (fun v=>(cv v).count x+if v=a then [e].count x else 0):=Hj fun v _=>by
   by_cases h2:v=a
   ·subst h2;rw[D2,if_pos rfl,List.count_append]
   ·rw[Bm _ _ h2,if_neg h2];rfl
  rw[key,Jd,L8 hl]
 ·by_cases h1:v=a
  ·subst h1;rw[D2,List.mem_append,List.mem_singleton]at hx;rcases hx with hx | rfl
   ·exact h.ends _ hv x hx
   ·exact .inl ha
  ·rw[Bm _ _ h1]at hx;exact h.ends v hv x hx
 ·rw[List.mem_append,List.mem_singleton]at hx;rcases hx with hx | rfl
  ·exact h.ok x hx
  ·exact he
theorem Inv.start (n:Nat) (E:Nat→Ed):Inv n E [] (fun _=>2) (fun _=>[]):=⟨fun _ _=>rfl,by simp,fun _ _ _ h=>by simp at h,fun _ h=>by simp at h⟩
structure Jy (n:Nat) (E:Nat→Ed) (fr:Nat→Nat) (cv:Nat→List Nat) (S T:Nat→Bool):Prop where
 sub:∀v,S v=true→T v=true
 zero:∀v,v<n→S v=false→T v=true→fr v=0
 shut:∀v,v<n→S v=false→T v=true→∀e∈cv v,T (Fw E e v)=true
theorem Jy.refl (S:Nat→Bool):Jy n E fr cv S S:=⟨fun _ h=>h,fun v _ h h'=>(by rw[h]at h';cases h'),fun v _ h h'=>(by rw[h]at h';cases h')⟩
theorem Jy.step {S T T':Nat→Bool} {m:Nat} (h:Jy n E fr cv S T) (hm:fr m=0) (h':Jy n E fr cv (Eu T m true) T') (hs:∀e∈cv m,T' (Fw E e m)=true):Jy n E fr cv S T' where
 sub:=fun v hv=>h'.sub v (by unfold Eu;split;rfl;exact h.sub v hv)
 zero:=fun v hv h1 h2=>by
  by_cases hvm:v=m
  ·subst hvm;exact hm
  ·cases hT:T v with
   |true=>exact h.zero v hv h1 hT
   |false=>exact h'.zero v hv (by rw[Bm _ _ hvm];exact hT) h2
 shut:=fun v hv h1 h2 e he=>by
  by_cases hvm:v=m
  ·subst hvm;exact hs e he
  ·cases hT:T v with
   |true =>
    have h3:=h.shut v hv h1 hT e he;exact h'.sub _ (by unfold Eu;split;rfl;exact h3)
   |false=>exact h'.shut v hv (by rw[Bm _ _ hvm];exact hT) h2 e he
structure Got (n:Nat) (E:Nat→Ed) (A:List Nat) (S:Nat→Bool) (j:Nat) (fr:Nat→Nat) (cv:Nat→List Nat) (fr':Nat→Nat) (cv':Nat→List Nat):Prop where
 inv:Inv n E A fr' cv'
 plus:fr' j=fr j+1
 free:∀v,v<n→S v=true→v≠j→fr' v=fr v
 cover:∀v,v<n→S v=true→v≠j→cv' v=cv v
theorem Got.direct (h:Inv n E A fr cv) {S:Nat→Bool} {j k e:Nat} (hj:j<n) (hk:(cv j)[k]?=some e) (hS:S (Fw E e j)=false) (hf:0<fr (Fw E e j)) :
  Got n E A S j fr cv (Eu (Eu fr (Fw E e j) (fr (Fw E e j)-1)) j (fr j+1)) (Eu (Eu cv (Fw E e j) (cv (Fw E e j)++[e])) j ((cv j).eraseIdx k)) where
 inv:=h.move hj hk hf
 plus:=by simp
 free:=fun v _ hv hvj=>by rw[Bm _ _ hvj,Bm _ _ (fun e'=>by rw[e',hS]at hv;cases hv)]
 cover:=fun v _ hv hvj=>by rw[Bm _ _ hvj,Bm _ _ (fun e'=>by rw[e',hS]at hv;cases hv)]
theorem Got.through {S T:Nat→Bool} {fr':Nat→Nat} {cv':Nat→List Nat} {j k e:Nat} (hsub:∀v,S v=true→T v=true) (hj:j<n) (hSj:S j=true) (hk:(cv j)[k]?=some e) (hS:T (Fw E e j)=false)
  (hne:Fw E e j≠j) (g:Got n E A (Eu T (Fw E e j) true) (Fw E e j) fr cv fr' cv') :
  Got n E A S j fr cv (Eu (Eu fr' (Fw E e j) (fr' (Fw E e j)-1)) j (fr' j+1)) (Eu (Eu cv' (Fw E e j) (cv' (Fw E e j)++[e])) j ((cv' j).eraseIdx k)):=by
 have hin:∀v,S v=true→Eu T (Fw E e j) true v=true:=fun v hv=>by unfold Eu;split;rfl;exact hsub v hv
 have hcj:cv' j=cv j:=g.cover j hj (hin j hSj) (Ne.symm hne);have hfj:fr' j=fr j:=g.free j hj (hin j hSj) (Ne.symm hne);have hno:∀v,S v=true→v≠Fw E e j:=fun v hv e'=>by rw[e']at hv;rw[hsub _ hv]at hS;cases hS
 refine⟨g.inv.move hj (by rw[hcj];exact hk) (by rw[g.plus];omega),by simp[hfj],fun v hv h1 h2=>?_,fun v hv h1 h2=>?_⟩
 ·rw[Bm _ _ h2,Bm _ _ (hno v h1)];exact g.free v hv (hin v h1) (hno v h1)
 ·rw[Bm _ _ h2,Bm _ _ (hno v h1)];exact g.cover v hv (hin v h1) (hno v h1)
end
end Go.Lam
end
section
namespace Go.Lam
def Im (n m:Nat):List Nat:=(List.range n).filter (B8 m)
def Bq:List Nat→List Nat→Bool
 |[],[]=>false
 |[],_::_=>true
 |_::_,[]=>false
 |a::l,b::m=>if a=b then Bq l m else decide (a<b)
theorem Hq:∀l:List Nat,Bq l l=false
 |[]=>rfl
 |a::l=>by simp[Bq,Hq l]
theorem Fm:∀{a b c:List Nat},Bq a b=true→Bq b c=true→Bq a c=true
 |[],[],_,h,_=>by simp[Bq]at h
 |[],_::_,[],_,h=>by simp[Bq]at h
 |[],_::_,_::_,_,_=>rfl
 |_::_,[],_,h,_=>by simp[Bq]at h
 |_::_,_::_,[],_,h=>by simp[Bq]at h
 |x::a,y::b,z::c,h1,h2=>by
  unfold Bq at *;by_cases e1:x=y
  ·subst e1;rw[if_pos rfl]at h1;by_cases e2:x=z
   ·subst e2;rw[if_pos rfl]at h2 ⊢;exact Fm h1 h2
   ·rw[if_neg e2]at h2 ⊢;exact h2
  ·rw[if_neg e1]at h1;by_cases e2:y=z
   ·subst e2;rw[if_neg e1];exact h1
   ·rw[if_neg e2]at h2;simp only[decide_eq_true_eq]at h1 h2;rw[if_neg (by omega)];simp only[decide_eq_true_eq];omega
theorem Gz:∀(a b:List Nat),a=b∨Bq a b=true∨Bq b a=true
 |[],[]=>.inl rfl
 |[],_::_=>.inr (.inl rfl)
 |_::_,[]=>.inr (.inr rfl)
 |x::a,y::b=>by
  unfold Bq;by_cases e:x=y
  ·subst e;rcases Gz a b with h | h | h
   ·exact .inl (by rw[h])
   ·exact .inr (.inl (by rw[if_pos rfl];exact h))
   ·exact .inr (.inr (by rw[if_pos rfl];exact h))
  ·rw[if_neg e,if_neg (Ne.symm e)];simp only[decide_eq_true_eq];omega
def Asc (l:List (List Nat)):Prop:=l.Pairwise fun x y=>Bq x y=true
theorem Asc.eq:∀{l m:List (List Nat)},Asc l→Asc m→(∀x,x∈l↔x∈m)→l=m
 |[],[],_,_,_=>rfl
 |[],y::m,_,_,h=>by have:=(h y).2 (by simp);simp at this
 |x::l,[],_,_,h=>by have:=(h x).1 (by simp);simp at this
 |x::l,y::m,hl,hm,h=>by
  obtain⟨hl1,hl2⟩:=List.pairwise_cons.1 hl;obtain⟨hm1,hm2⟩:=List.pairwise_cons.1 hm;have hxy:x=y:=by
   rcases List.mem_cons.1 ((h x).1 (by simp))with h1|h1
   ·exact h1
   ·rcases List.mem_cons.1 ((h y).2 (by simp))with h2|h2
    ·exact h2.symm
    ·have:=Fm (hl1 y h2) (hm1 x h1);rw[Hq]at this;cases this
  subst hxy;rw[Asc.eq hl2 hm2 fun z=>?_];constructor
  ·intro hz;rcases List.mem_cons.1 ((h z).1 (by simp[hz]))with rfl | h1
   ·have:=hl1 z hz;rw[Hq]at this;cases this
   ·exact h1
  ·intro hz;rcases List.mem_cons.1 ((h z).2 (by simp[hz]))with rfl | h1
   ·have:=hm1 z hz;rw[Hq]at this;cases this
   ·exact h1
theorem Asc.of_sorted {l:List (List Nat)} (hn:l.Nodup) (h:l.Pairwise fun x y=>Bq y x=false):Asc l:=by
 have:=hn.and h;exact this.imp fun {a b} ⟨h1,h2⟩=>by
  rcases Gz a b with h3|h3|h3
  ·exact absurd h3 h1
  ·exact h3
  ·rw[h2]at h3;cases h3
def Ma:List (List Nat)→List Nat→List (List Nat)
 |[],x=>[x]
 |y::l,x=>if Bq x y=true then x::y::l else y::Ma l x
theorem Ke {x z:List Nat}:∀{l:List (List Nat)},z∈Ma l x↔z=x∨z∈l
 |[]=>by simp[Ma]
 |y::l=>by
  unfold Ma;split
  ·simp
  ·simp only[List.mem_cons,Ke (l:=l)];constructor
   ·rintro(h|h|h)<;>simp[h]
   ·rintro(h|h|h)<;>simp[h]
theorem Xj {x:List Nat}:∀{l:List (List Nat)},Asc l→x ∉ l→Asc (Ma l x)
 |[],_,_=>by simp[Ma,Asc]
 |y::l,h,hx=>by
  obtain⟨h1,h2⟩:=List.pairwise_cons.1 h;unfold Ma;split
  ·rename_i hb
   refine List.pairwise_cons.2 ⟨fun z hz=>?_,h⟩;rcases List.mem_cons.1 hz with rfl | hz
   ·exact hb
   ·exact Fm hb (h1 z hz)
  ·rename_i hb
   simp only[List.mem_cons,not_or]at hx;refine List.pairwise_cons.2 ⟨fun z hz=>?_,Xj h2 hx.2⟩;rcases Ke.1 hz with rfl | hz
   ·rcases Gz z y with h3|h3|h3
    ·exact absurd h3 hx.1
    ·exact absurd h3 hb
    ·exact h3
   ·exact h1 z hz
theorem Mt {α:Type} (f:α→List Nat):∀(s:List α) (o:List (List Nat)),Asc o→(s.map f).Nodup→(∀a∈s,f a ∉ o)→Asc (s.foldl (fun o a=>Ma o (f a)) o)∧∀z,z∈s.foldl (fun o a=>Ma o (f a)) o↔z∈o∨z∈s.map f
 |[],o,h,_,_=>⟨h,by simp⟩
 |a::s,o,h,hn,hx=>by
  rw[List.map_cons,List.nodup_cons]at hn;have:=Mt f s (Ma o (f a)) (Xj h (hx a (by simp))) hn.2 fun b hb hc=>by
   rcases Ke.1 hc with h1|h1
   ·exact hn.1 (by rw[←h1];exact List.mem_map.2 ⟨b,hb,rfl⟩)
   ·exact hx b (by simp[hb]) h1
  refine⟨this.1,fun z=>?_⟩;rw[List.foldl_cons,this.2 z,Ke,List.map_cons,List.mem_cons];constructor
  ·rintro((h|h)|h)<;>simp[h]
  ·rintro(h|h|h)<;>simp[h]
def Bt (L:List Ed) (j:Nat):Bool:=L.all fun e=>!(e.1==j || e.2==j)
def Ev (j:Nat):List Nat:=[j]
def P3 (n:Nat) (L:List Ed):List (List Nat):=((List.range n).filter (Bt L)).foldl (fun o j=>Ma o (Ev j)) ((blocks n L).foldl (fun o m=>Ma o (Im n m)) [])
theorem Uo {n m v:Nat}:v∈Im n m↔v<n∧B8 m v=true:=by simp[Im]
theorem Jj (n m:Nat):(Im n m).length=sz n (B8 m):=by simp[Im,sz,List.countP_eq_length_filter]
theorem U7 {n m k:Nat} (hm:m<2^n) (hk:k<2^n) (h:Im n m=Im n k):m=k:=Rz hm hk fun v hv=>by
 have h1:v∈Im n m↔v∈Im n k:=by rw[h]
 rw[Uo,Uo]at h1;cases h2:B8 m v<;>cases h3:B8 k v<;>simp_all
section
variable {n:Nat} {L:List Ed}
theorem Ku {m:Nat} (h:m∈blocks n L):m<2^n:=(B2.1 (C1.1 h).1).1
theorem Fa {m:Nat} (h:m∈blocks n L):C9 n L (B8 m):=(B2.1 (C1.1 h).1).2
theorem Dg {α β:Type} {f:α→β}:∀{l:List α},(∀x∈l,∀y∈l,f x=f y→x=y)→l.Nodup→(l.map f).Nodup
 |[],_,_=>by simp
 |a::l,h,hn=>by
  rw[List.nodup_cons]at hn;rw[List.map_cons,List.nodup_cons];refine⟨fun hc=>?_,Dg (fun x hx y hy=>h x (by simp[hx]) y (by simp[hy])) hn.2⟩;obtain⟨b,hb,e⟩:=List.mem_map.1 hc;rw[h b (by simp[hb]) a (by simp) e]at hb;exact hn.1 hb
theorem Mh:Asc (P3 n L)∧∀z,z∈P3 n L↔(∃m∈blocks n L,z=Im n m)∨∃j,j<n∧Bt L j=true∧z=[j]:=by
 have h1:=Mt (Im n) (blocks n L) [] (by simp[Asc]) (Dg (fun x hx y hy=>U7 (Ku hx) (Ku hy)) Gx) (by simp);have h2:=Mt Ev ((List.range n).filter (Bt L)) _ h1.1 (Dg (fun x _ y _ h=>by simpa[Ev]using h) (List.nodup_range.filter _)) (fun j _ hc=>by
  rcases(h1.2 _).1 hc with h3|h3
  ·simp at h3
  ·obtain⟨m,hm,e⟩:=List.mem_map.1 h3;have h4:=Jj n m;rw[e]at h4;have:=(Fa hm).1;simp[Ev]at h4;omega)
 refine⟨h2.1,fun z=>?_⟩;unfold P3;rw[h2.2 z,h1.2 z];simp only[List.not_mem_nil,false_or,List.mem_map,List.mem_filter,List.mem_range,Ev];constructor
 ·rintro(⟨m,hm,rfl⟩|⟨j,⟨hj,ha⟩,rfl⟩)
  ·exact .inl ⟨m,hm,rfl⟩
  ·exact .inr ⟨j,hj,ha,rfl⟩
 ·rintro(⟨m,hm,rfl⟩|⟨j,hj,ha,rfl⟩)
  ·exact .inl ⟨m,hm,rfl⟩
  ·exact .inr ⟨j,⟨hj,ha⟩,rfl⟩
def Gu (n:Nat) (L:List Ed) (e:Ed) (j:Nat):Bool:=(J8 n L).any fun m=>ins (B8 m) e&&B8 m j
theorem Ih (hL:∀e∈L,Cm n e) {e:Ed} {j:Nat} (hj:j<n) (he:Cm n e):Gu n L e j=true↔∃X,C9 n L X∧ins X e=true∧X j=true:=by
 unfold Gu;rw[List.any_eq_true];constructor
 ·rintro⟨m,hm,h⟩;rw[Bool.and_eq_true]at h;exact⟨_,(B2.1 hm).2,h.1,h.2⟩
 ·rintro⟨X,h1,h2,h3⟩;obtain⟨m,h4,h5⟩:=Ig hL h1;rw[ins,Bool.and_eq_true]at h2;exact⟨m,(C1.1 h4).1,by rw[ins,h5 _ he.1 h2.1,h5 _ he.2.1 h2.2,h5 _ hj h3];rfl⟩
def Gw (n:Nat) (L:List Ed) (e:Ed):List Nat:=(List.range n).filter (Gu n L e)
theorem Kn (hL:∀e∈L,Cm n e) (hs:A0 n L) {e:Ed} (he:Cm n e) {m:Nat} (hm:m∈blocks n L) (hi:ins (B8 m) e=true):Gw n L e=Im n m:=by
 refine List.filter_congr fun v hv=>?_;rw[List.mem_range]at hv;cases hb:B8 m v with
 |true=>exact(Ih hL hv he).2 ⟨_,Fa hm,hi,hb⟩
 |false =>
  cases hw:Gu n L e v with
  |false=>rfl
  |true =>
   obtain⟨X,h1,h2,h3⟩:=(Ih hL hv he).1 hw;obtain⟨k,h4,h5⟩:=Ig hL h1;rw[ins,Bool.and_eq_true]at h2 hi;have hmk:=Na hs hm h4 (Ww he.1 he.2.1 he.2.2 (by rw[cap,hi.1,h5 _ he.1 h2.1];rfl) (by rw[cap,hi.2,h5 _ he.2.1 h2.2];rfl));subst hmk;rw[h5 v hv h3]at hb;cases hb
theorem Rl (hL:∀e∈L,Cm n e) (hs:A0 n L) {e:Ed} (he:e∈L):∃m∈blocks n L,ins (B8 m) e=true:=by
 obtain⟨m,h1,h2⟩:=Ig hL (Hn hL hs he);obtain⟨h3,h4,_⟩:=hL e he;exact⟨m,h1,by rw[ins,h2 _ h3 (by simp[Eh]),h2 _ h4 (by simp[Eh])];rfl⟩
theorem Qan {m:Nat} (hm:m∈blocks n L):∃e∈L,ins (B8 m) e=true:=by
 have h1:=Fa hm;have h2:=h1.1;have h3:=h1.2;unfold spn at h3;exact List.countP_pos_iff.1 (show 0<L.countP (ins (B8 m)) by omega)
def Mu (o:List (List Nat)) (c:List Nat):List (List Nat):=if c∈o then o else o++[c]
theorem Jg {α:Type} (f:α→List Nat):∀(s:List α) (o:List (List Nat)),o.Nodup→(s.foldl (fun o a=>Mu o (f a)) o).Nodup∧∀z,z∈s.foldl (fun o a=>Mu o (f a)) o↔z∈o∨z∈s.map f
 |[],o,h=>⟨h,by simp⟩
 |a::s,o,h=>by
  have hn:(Mu o (f a)).Nodup:=by
   unfold Mu;split
   ·exact h
   ·rename_i hc
    rw[List.nodup_append];exact⟨h,by simp,fun x hx y hy e=>by simp at hy;subst hy;subst e;exact hc hx⟩
  have hm:∀z,z∈Mu o (f a)↔z∈o∨z=f a:=fun z=>by
   unfold Mu;split
   ·rename_i hc
    exact⟨.inl,fun h=>h.elim id fun e=>e ▸ hc⟩
   ·simp
  have:=Jg f s (Mu o (f a)) hn;refine⟨this.1,fun z=>?_⟩;rw[List.foldl_cons,this.2 z,hm,List.map_cons,List.mem_cons];constructor
  ·rintro((h|h)|h)<;>simp[h]
  ·rintro(h|h|h)<;>simp[h]
def Ib (n:Nat) (L:List Ed):List (List Nat):=L.foldl (fun o e=>Mu o (Gw n L e)) []++((List.range n).filter (Bt L)).map Ev
theorem Ve (hL:∀e∈L,Cm n e) (hs:A0 n L):(Ib n L).Nodup∧∀z,z∈Ib n L↔z∈P3 n L:=by
 have h1:=Jg (Gw n L) L [] (by simp);have hmem:∀z,z∈Ib n L↔z∈P3 n L:=fun z=>by
  unfold Ib;rw[List.mem_append,h1.2 z,Mh.2 z];simp only[List.not_mem_nil,false_or,List.mem_map,List.mem_filter,List.mem_range,Ev];constructor
  ·rintro(⟨e,he,rfl⟩|⟨j,⟨hj,ha⟩,rfl⟩)
   ·obtain⟨m,hm,hi⟩:=Rl hL hs he;exact .inl ⟨m,hm,Kn hL hs (hL e he) hm hi⟩
   ·exact .inr ⟨j,hj,ha,rfl⟩
  ·rintro(⟨m,hm,rfl⟩|⟨j,hj,ha,rfl⟩)
   ·obtain⟨e,he,hi⟩:=Qan hm;exact .inl ⟨e,he,Kn hL hs (hL e he) hm hi⟩
   ·exact .inr ⟨j,⟨hj,ha⟩,rfl⟩
 refine⟨?_,hmem⟩;unfold Ib;rw[List.nodup_append];refine⟨h1.1,Dg (fun x _ y _ h=>by simpa[Ev]using h) (List.nodup_range.filter _),fun x hx y hy e=>?_⟩;subst e;rcases(h1.2 x).1 hx with h3 | h3
 ·simp at h3
 ·obtain⟨e,he,rfl⟩:=List.mem_map.1 h3;obtain⟨m,hm,hi⟩:=Rl hL hs he;obtain⟨j,_,e2⟩:=List.mem_map.1 hy;rw[Kn hL hs (hL e he) hm hi]at e2;have h4:=Jj n m;rw[←e2]at h4;have:=(Fa hm).1;simp[Ev]at h4;omega
theorem Ye (hL:∀e∈L,Cm n e) (hs:A0 n L) {W:List (List Nat)} (hp:W.Perm (Ib n L)) (hw:W.Pairwise fun x y=>Bq y x=false):W=P3 n L:=by
 obtain⟨h1,h2⟩:=Ve hL hs;exact Asc.eq (Asc.of_sorted (hp.nodup_iff.2 h1) hw) Mh.1 fun x=>by rw[hp.mem_iff,h2]
end
end Go.Lam
end
section
namespace Go.Lam
section
variable {n:Nat} {L:List Ed}
def Qhn:Nat→Bool:=fun _=>true
theorem Wp (n:Nat):sz n Qhn=n:=by
 have h:(List.range n).countP Qhn=(List.range n).length:=List.countP_eq_length.2 fun _ _=>rfl;rw[List.length_range]at h;exact h
theorem Qcq (L:List Ed):spn L Qhn=L.length:=List.countP_eq_length.2 fun _ _=>rfl
theorem Tz (hs:A0 n L) (h:2≤n):L.length+3≤2*n:=by
 have:=hs Qhn (by rw[Wp];exact h)
 rwa [Qcq,Wp]at this
theorem Zk:sz n (fun j=>!Bt L j)+(List.range n).countP (Bt L)=n:=by
 have h:=List.length_eq_countP_add_countP (Bt L) (l:=List.range n);rw[List.length_range]at h;have e:(List.range n).countP (fun a=>decide ¬Bt L a=true)=sz n (fun j=>!Bt L j):=List.countP_congr fun v _=>by cases Bt L v<;>simp
 omega
theorem W8:spn L (fun j=>!Bt L j)=L.length:=List.countP_eq_length.2 fun e he=>by
 have h:∀j,e.1=j∨e.2=j→Bt L j=false:=fun j hj=>by
  cases ha:Bt L j with
  |false=>rfl
  |true =>
   have:=List.all_eq_true.1 ha e he;simp only[Bool.not_eq_true',Bool.or_eq_false_iff,beq_eq_false_iff_ne]at this;omega
 show(!Bt L e.1&&!Bt L e.2)=true
 rw[h e.1 (.inl rfl),h e.2 (.inr rfl)];rfl
theorem Tx (hL:∀e∈L,Cm n e) (hs:A0 n L):(blocks n L).length≤L.length:=by
 rw[←Ri hL hs,←Qv];refine Jt fun m hm=>?_;have:=(Fa hm).1;omega
theorem Yb (hL:∀e∈L,Cm n e) (hs:A0 n L):(Ib n L).length=(blocks n L).length+(List.range n).countP (Bt L):=by
 have h1:=Ve hL hs;have hp:(Ib n L).Perm ((blocks n L).map (Im n)++((List.range n).filter (Bt L)).map Ev):=by
  refine(List.perm_ext_iff_of_nodup h1.1 ?_).2 fun z=>?_
  ·rw[List.nodup_append];refine⟨Dg (fun x hx y hy=>U7 (Ku hx) (Ku hy)) Gx,Dg (fun x _ y _ h=>by simpa[Ev]using h) (List.nodup_range.filter _),fun x hx y hy e=>?_⟩;subst e;obtain⟨m,hm,rfl⟩:=List.mem_map.1 hx;obtain⟨j,_,e2⟩:=List.mem_map.1 hy;have h4:=Jj n m;rw[←e2]at h4;have:=(Fa hm).1;simp[Ev]at h4;omega
  ·rw[h1.2,Mh.2];simp only[List.mem_append,List.mem_map,List.mem_filter,List.mem_range,Ev];constructor
   ·rintro(⟨m,hm,rfl⟩|⟨j,hj,ha,rfl⟩)
    ·exact .inl ⟨m,hm,rfl⟩
    ·exact .inr ⟨j,⟨hj,ha⟩,rfl⟩
   ·rintro(⟨m,hm,rfl⟩|⟨j,⟨hj,ha⟩,rfl⟩)
    ·exact .inl ⟨m,hm,rfl⟩
    ·exact .inr ⟨j,hj,ha,rfl⟩
 rw[hp.length_eq,List.length_append,List.length_map,List.length_map,←List.countP_eq_length_filter]
theorem Qg8 (hL:∀e∈L,Cm n e) (hs:A0 n L) (h8:n≤8):(Ib n L).length≤12:=by
 rw[Yb hL hs];have h1:=Tx hL hs;have h2:=Zk (n:=n) (L:=L);have h3:=Qnm n fun j=>!Bt L j;rcases Nat.lt_or_ge (sz n fun j=>!Bt L j) 2 with h4 | h4
 ·have:spn L (fun j=>!Bt L j)=0:=Q6 hL (by omega);rw[W8]at this;omega
 ·have h5:=hs _ h4;rw[W8]at h5;rcases Nat.lt_or_ge ((blocks n L).length+(List.range n).countP (Bt L)) 13 with h6 | h6
  ·omega
  ·-- all is one block
   have hn8:n=8∧(List.range n).countP (Bt L)=0∧L.length=13:=by omega
   have hT:C9 n L Qhn:=⟨by rw[Wp];omega,by rw[Qcq,Wp];omega⟩;obtain⟨m,hm,hall⟩:=Ig hL hT;have h7:∀k∈blocks n L,k=m:=fun k hk=>(C1.1 hk).2 m (C1.1 hm).1 (fun v hv=>hall v (Qjo (Ku hk) hv) rfl) ▸ rfl;have h8:(blocks n L).length≤1:=by
    have hnd:=Gx (n:=n) (L:=L)
    match hb:blocks n L,hnd with
    |[],_=>simp
    |[a],_=>simp
    |a::b::t,hnd =>
     rw[hb]at h7;have ha:=h7 a (by simp);have hb':=h7 b (by simp);rw[List.nodup_cons]at hnd;exact absurd (by rw[ha,hb'];simp) hnd.1
   omega
theorem Qde (n:Nat) (X:Nat→Bool):sz (n+1) X=sz n X+if X n=true then 1 else 0:=by
 simp[sz,List.range_succ,List.countP_append,List.countP_cons]
theorem A0.joint (hs:A0 n L) (hL:∀e∈L,Cm n e):A0 (n+1) L:=fun X hX=>by
 rw[Qde]at hX ⊢;rcases Nat.lt_or_ge (sz n X) 2 with h | h
 ·rw[Q6 hL (by omega)];omega
 ·have:=hs X h;omega
theorem A0.one (hs:A0 n L) (hL:∀e∈L,Cm n e) {x:Nat} (hx:x<n) {e:Ed} (he:e=(x,n)∨e=(n,x)):A0 (n+1) (L++[e]):=fun X hX=>by
 rw[Qde]at hX ⊢;rw[Hp,Sx];have hi:ins X e=(X x&&X n):=by rcases he with rfl | rfl<;>simp[ins,Bool.and_comm]
 rw[hi];show spn L X+(0+_)+3≤_
 rcases Nat.lt_or_ge (sz n X) 2 with h|h
 ·rw[Q6 hL (by omega)];cases h1:X n<;>cases h2:X x<;>simp[h1]at*<;> (try have:=Qgh hx h2)<;>omega
 ·have:=hs X h;cases h1:X n<;>cases h2:X x<;>simp<;>omega
end
end Go.Lam
end
section
namespace Go.Av
open Go.Proofs
structure RE where
 a:Int
 b:Int
 sq:RR
def RE.av (e:RE):AV:=.agg [.int .i64 e.a,.int .i64 e.b,.bool e.sq.n1,Am e.sq.l1,.bool e.sq.n2,Am e.sq.l2]
def Bw (l:List RE):List AV:=l.map RE.av
def A1 (l:List RE):AV:=.sl 6 (Bw l)
instance:Inhabited RE:=⟨⟨0,0,default⟩⟩
def Ck (l:List RE) (i:Nat):RE:=l.getD i default
theorem Ey {l:List RE} {i:Nat} (h:i<l.length):Ck l i=l[i]:=by unfold Ck;rw[List.getD_eq_getElem?_getD,List.getElem?_eq_getElem h];rfl
@[simp] theorem Sg (l:List RE):(Bw l).length=l.length:=by simp[Bw]
@[simp] theorem edl_get? {l:List RE} {i:Nat} (h:i<l.length):(Bw l)[i]?=some (Ck l i).av:=by simp[Bw,Ey h,h]
@[simp] theorem edl_get {l:List RE} {i:Nat} (h:i<(Bw l).length):(Bw l)[i]=(Ck l i).av:=by simp[Bw,Ey (by simpa using h:i<l.length)]
@[simp] theorem Qvv {l:List Nat} {i:Nat} (h:i<(An l).length):(An l)[i]=.int .i64 (l[i]'(by simpa using h):Nat):=by simp[An]
@[simp] theorem Qvu (l:List Nat):(An l).all (fun v=>v.cells.length==1&&v.cells.all AV.one)=true:=by simp[An,AV.cells,AV.one]
theorem RE.av_len (e:RE):e.av.cells.length=6:=rfl
theorem RE.av_ones (e:RE):e.av.cells.all AV.one=true:=rfl
theorem Bs (e:RE):e.av.cells=[.int .i64 e.a,.int .i64 e.b,.bool e.sq.n1,Am e.sq.l1,.bool e.sq.n2,Am e.sq.l2]:=rfl
theorem Ii (l:List Nat) (i v:Nat):(An l).set i (.int .i64 (v:Nat))=An (l.set i v):=by unfold An;rw[List.map_set]
theorem Ll {m m':Aa} {b n:Nat} {l:List Nat} (h:m b=some ⟨3,1,An l⟩) (hl:l.length=n) (hb:m' b=none:=by simp):Bx m m' (.osl b 1 0 n) (.sl 1 (An l)) :=
 .osl b 1 0 n _ (An l) h hb rfl (by simpa using hl) (by simp[hl]) (fun k v v' h1 h2=>by rw[Nat.zero_add]at h1;rw[h1]at h2;cases h2;exact .same _)
theorem Ue (l:List RE) (hl:l.length≤40):Aj Tryz.prog 45 [A1 l] Aa.emp fun v m=>v=.sl 1 (An (List.range l.length))∧m=Aa.emp:=by
 refine Ad Tryz.func45 rfl rfl 19 rfl (Nat.le_of_ble_eq_true rfl) ?_;unfold A1;(repeat refine AW.seq_k fun K hK=>?_);refine AW.rg ?_;simp[Ak];try (refine hK _ rfl ?_;clear hK K)
 (repeat refine AW.seq_k fun K hK=>?_);refine AW.rg ?_;simp;try (refine hK _ rfl ?_;clear hK K)
 refine⟨by omega,Ag.intro fun bl hbl=>?_⟩;refine hK _ rfl ?_;clear hK K;refine AW.seq_ex (ι:=Unit) (fun _=>[(3,.osl bl 1 0 l.length)]) (fun _=>Aa.emp.set bl ⟨3,1,An (List.range l.length)⟩) (fun _=>True) ?_ ?_
 ·(repeat refine AW.seq_k fun K hK=>?_);refine AW.rg ?_;simp;try (refine hK _ rfl ?_;clear hK K)
  refine AW.block (AW.loopS (ι:=Nat × List Nat) (fun z=>[(3,.osl bl 1 0 l.length),(9,.int .i64 (l.length:Nat)),(10,.int .i64 (z.1:Nat))]) (fun z=>Aa.emp.set bl ⟨3,1,An z.2⟩)
   (fun z=>z.1≤l.length∧z.2=List.range z.1++List.replicate (l.length-z.1) 0) (fun z=>l.length-z.1) (0,List.replicate l.length 0) ⟨by simp,by simp⟩ (by simp[An]) (by simp) ?_)
  rintro⟨i,o⟩ ⟨g1,g2⟩;simp only at g1 g2;have hol:o.length=l.length:=by rw[g2];simp;omega
  (repeat refine AW.seq_k fun K hK=>?_);refine AW.rg ?_;simp;try (refine hK _ rfl ?_;clear hK K)
  (repeat refine AW.seq ?_);refine AW.cs (fun hi=>?_) (fun hi=>?_) rfl<;>(try simp at hi)
  ·refine AW.skip ?_;try simp
   have w1:=Aq (i+1) (by omega);(repeat refine AW.seq ?_);refine AW.block ?_;(repeat refine AW.seq_k fun K hK=>?_);refine AW.rg ?_;simp;try (refine hK _ rfl ?_;clear hK K)
   (repeat refine AW.seq_k fun K hK=>?_);refine AW.rg ?_;simp[hol,hi];try (refine hK _ rfl ?_;clear hK K)
   (repeat refine AW.seq_k fun K hK=>?_);refine AW.rg ?_;simp[-Int.natCast_add,w1];try (refine hK _ rfl ?_;clear hK K)
   refine⟨i+1,o.set i i,⟨by omega,?_⟩,by omega,by rw[Ii],rfl⟩;rw[g2,List.set_append_right _ _ (by simp),List.length_range,Nat.sub_self,show l.length-i=(l.length-(i+1))+1 by omega,List.replicate_succ,List.set_cons_zero,List.range_succ,List.append_assoc];rfl
  ·refine AW.exit ?_;try simp
   have:i=l.length:=by omega
   rw[g2,this];simp
 ·rintro _ _;(repeat refine AW.seq_k fun K hK=>?_);refine AW.rg ?_;simp;try (refine hK _ rfl ?_;clear hK K)
  exact AW.ret (Af rfl _ (Ll (by simp) (by simp)) ⟨rfl,rfl⟩)
end Go.Av
end
section
namespace Go.Av
open Go.Proofs Go.Lam
@[simp] theorem Qsz {l:List Nat} {i:Nat} (h:i<l.length):(An l).getD i .any=.int .i64 (l[i]:Nat):=by simp[An,h]
def Ae (es:List RE):Nat→Ed:=fun i=>((Ck es i).a.toNat,(Ck es i).b.toNat)
def Ln (n:Nat) (es:List RE):Prop:=∀i,i<es.length→(Ck es i).a=((Ae es i).1:Nat)∧(Ck es i).b=((Ae es i).2:Nat)∧Cm n (Ae es i)
end Go.Av
end
section
namespace Go.Av
open Go.Proofs Go.Lam
def Bn (x y:RE):Bool:=(y.a==x.a&&y.b==x.b) || (y.a==x.b&&y.b==x.a)
def okE (n:Int) (pre:List RE) (x:RE):Bool:=decide (0≤x.a)&&decide (x.a<n)&&decide (0≤x.b)&&decide (x.b<n)&&!(x.a==x.b)&&x.sq.ok&&decide (0<Db x.sq)&&!(pre.any (Bn x))
def Nq (n:Int) (es:List RE) (i:Nat):Bool:=okE n (es.take i) (Ck es i)
def Cg (n:Int) (es:List RE):Bool:=decide (1≤n)&&decide (n≤12)&&decide (es.length≤40)&&(List.range es.length).all (Nq n es)
def B6 (n:Int) (es:List RE):AV:=.int .i64 (if Cg n es=true then 0 else 1)
def Qx (es:List RE):Prop:=∀x∈es,x.sq.Lb
theorem Qx.at {es:List RE} (h:Qx es) {i:Nat} (hi:i<es.length):(Ck es i).sq.Lb:=by rw[Ey hi];exact h _ (List.getElem_mem hi)
theorem Cc {n:Int} {es:List RE} {i:Nat} (hi:i<es.length) (h:Nq n es i=false):Cg n es=false:=by
 unfold Cg;have:(List.range es.length).all (Nq n es)=false:=List.all_eq_false.2 ⟨i,by simpa using hi,by rw[h];simp⟩;rw[this,Bool.and_false]
theorem Qef {b:Nat} (X:RE):Bx (Aa.emp.set b ⟨46,6,[X.av]⟩) Aa.emp (.ptr b 6 0 0) (.rptr [.int .i64 X.a,.int .i64 X.b,.bool X.sq.n1,Am X.sq.l1,.bool X.sq.n2,Am X.sq.l2]) :=
 .ptr b 6 0 0 ⟨46,6,[X.av]⟩ X.av (Aa.set_same _ _ _) rfl rfl rfl
theorem Ce {n:Int} {pre:List RE} {x:RE} (h:¬(0≤x.a∧x.a<n∧0≤x.b∧x.b<n∧x.a≠x.b∧x.sq.ok=true∧0<Db x.sq∧pre.any (Bn x)=false)):okE n pre x=false:=by
 cases hc:okE n pre x with
 |false=>rfl
 |true=>unfold okE at hc;simp only[Bool.and_eq_true,decide_eq_true_eq,Bool.not_eq_true',beq_eq_false_iff_ne]at hc;exact absurd ⟨hc.1.1.1.1.1.1.1,hc.1.1.1.1.1.1.2,hc.1.1.1.1.1.2,hc.1.1.1.1.2,hc.1.1.1.2,hc.1.1.2,hc.1.2,hc.2⟩ h
theorem Sk {n:Int} {pre:List RE} {x:RE} (h:0≤x.a∧x.a<n∧0≤x.b∧x.b<n∧x.a≠x.b∧x.sq.ok=true∧0<Db x.sq∧pre.any (Bn x)=false):okE n pre x=true:=by
 obtain⟨h1,h2,h3,h4,h5,h6,h7,h8⟩:=h;unfold okE;rw[h6,h8];simp[h1,h2,h3,h4,h5,h7]
theorem Qb1 (n:Int) (es:List RE) (hb:Qx es):Aj Tryz.prog 12 [.int .i64 n,A1 es] Aa.emp fun v m=>v=B6 n es∧m=Aa.emp:=by
 refine Ad Tryz.func12 rfl rfl 111 rfl (Nat.le_of_ble_eq_true rfl) ?_;unfold A1;(repeat refine AW.seq_k fun K hK=>?_);refine AW.rg ?_;simp[Ak];try (refine hK _ rfl ?_;clear hK K)
 by_cases c1:n<1
 ·have hc:Cg n es=false:=by unfold Cg;simp;omega
  (repeat refine AW.seq_k fun K hK=>?_);refine AW.rg ?_;simp[c1];try (refine hK _ rfl ?_;clear hK K)
  refine AW.yes ?_ rfl;(repeat refine AW.seq_k fun K hK=>?_);refine AW.rg ?_;simp;try (refine hK _ rfl ?_;clear hK K)
  exact AW.ret (Af rfl _ (.same _) ⟨by unfold B6;rw[hc];rfl,rfl⟩)
 by_cases c2:12<n
 ·have hc:Cg n es=false:=by unfold Cg;simp;omega
  (repeat refine AW.seq_k fun K hK=>?_);refine AW.rg ?_;simp[c1,c2];try (refine hK _ rfl ?_;clear hK K)
  refine AW.yes ?_ rfl;(repeat refine AW.seq_k fun K hK=>?_);refine AW.rg ?_;simp;try (refine hK _ rfl ?_;clear hK K)
  exact AW.ret (Af rfl _ (.same _) ⟨by unfold B6;rw[hc];rfl,rfl⟩)
 by_cases c3:(40:Int)<(es.length:Int)
 ·have hc:Cg n es=false:=by unfold Cg;simp;omega
  (repeat refine AW.seq_k fun K hK=>?_);refine AW.rg ?_;simp[c1,c2,c3];try (refine hK _ rfl ?_;clear hK K)
  refine AW.yes ?_ rfl;(repeat refine AW.seq_k fun K hK=>?_);refine AW.rg ?_;simp;try (refine hK _ rfl ?_;clear hK K)
  exact AW.ret (Af rfl _ (.same _) ⟨by unfold B6;rw[hc];rfl,rfl⟩)
 (repeat refine AW.seq_k fun K hK=>?_);refine AW.rg ?_;simp[c1,c2,c3];try (refine hK _ rfl ?_;clear hK K)
 refine AW.no ?_ rfl;refine AW.skip ?_;try simp
 try (refine hK _ rfl ?_;clear hK K)
 refine AW.seq_ex (ι:=Unit) (fun _=>[]) (fun _=>Aa.emp) (fun _=>Cg n es=true) ?_ ?_
 ·(repeat refine AW.seq_k fun K hK=>?_);refine AW.rg ?_;simp;try (refine hK _ rfl ?_;clear hK K)
  refine AW.block (AW.loopS (ι:=Nat) (fun i=>[(0,.int .i64 n),(1,.sl 6 (Bw es)),(5,.int .i64 (i:Nat))]) (fun _=>Aa.emp)
   (fun i=>i≤es.length∧(List.range i).all (Nq n es)=true) (fun i=>es.length-i) 0 ⟨by simp,by simp⟩ rfl (by simp) ?_)
  rintro i ⟨g1,g2⟩;(repeat refine AW.seq_k fun K hK=>?_);refine AW.rg ?_;simp;try (refine hK _ rfl ?_;clear hK K)
  (repeat refine AW.seq ?_);refine AW.cs (fun hi=>?_) (fun hi=>?_) rfl<;>(try simp at hi)
  ·refine AW.skip ?_;try simp
   try (refine hK _ rfl ?_;clear hK K)
   have w1:=Aq (i+1) (by omega);have g3:∀x,x<i→Nq n es x=true:=by simpa using g2
   have hx:=hb.at hi;have hv:=P5 (Ck es i).sq.n1 (Ck es i).sq.l1 (Ck es i).sq.n2 (Ck es i).sq.l2 hx.1 hx.2;have hs:=Zu (Ck es i).sq hx;have hp:Nq n es i=okE n (es.take i) (Ck es i):=rfl;generalize hX:Ck es i=X at *;have fin:∀s:St,Nq n es i=false→AW Tryz.prog Code.ret (Nl Tryz.prog Tryz.f12.results.toList fun v m=>v=B6 n es∧m=Aa.emp) (S 111 ((4,.int .i64 1)::[]) Aa.emp):=fun _ hf =>
    AW.ret (Af rfl _ (.same _) ⟨by unfold B6;rw[Cc hi hf];rfl,rfl⟩)
   (repeat refine AW.seq ?_);refine AW.block ?_;(repeat refine AW.seq_k fun K hK=>?_);refine AW.rg ?_;simp[hi,hX,Bs];try (refine hK _ rfl ?_;clear hK K)
   refine Ag.intro fun b6 hb6=>?_;refine hK _ rfl ?_;clear hK K;refine AW.toEmp [(0,.int .i64 n),(1,.sl 6 (Bw es)),(5,.int .i64 (i:Nat)),(6,.rptr [.int .i64 X.a,.int .i64 X.b,.bool X.sq.n1,Am X.sq.l1,.bool X.sq.n2,Am X.sq.l2])] (by simp;exact Qef X) ?_;by_cases d1:X.a<0
   ·have hf:Nq n es i=false:=by rw[hp];exact Ce (by rintro⟨q1,q2,q3,q4,q5,_⟩;omega)
    (repeat refine AW.seq_k fun K hK=>?_);refine AW.rg ?_;simp[d1];try (refine hK _ rfl ?_;clear hK K)
    refine AW.yes ?_ rfl;(repeat refine AW.seq_k fun K hK=>?_);refine AW.rg ?_;simp;try (refine hK _ rfl ?_;clear hK K)
    exact AW.ret (Af rfl _ (.same _) ⟨by unfold B6;rw[Cc hi hf];rfl,rfl⟩)
   by_cases d2:n≤X.a
   ·have hf:Nq n es i=false:=by rw[hp];exact Ce (by rintro⟨q1,q2,q3,q4,q5,_⟩;omega)
    (repeat refine AW.seq_k fun K hK=>?_);refine AW.rg ?_;simp[d1,d2];try (refine hK _ rfl ?_;clear hK K)
    refine AW.yes ?_ rfl;(repeat refine AW.seq_k fun K hK=>?_);refine AW.rg ?_;simp;try (refine hK _ rfl ?_;clear hK K)
    exact AW.ret (Af rfl _ (.same _) ⟨by unfold B6;rw[Cc hi hf];rfl,rfl⟩)
   by_cases d3:X.b<0
   ·have hf:Nq n es i=false:=by rw[hp];exact Ce (by rintro⟨q1,q2,q3,q4,q5,_⟩;omega)
    (repeat refine AW.seq_k fun K hK=>?_);refine AW.rg ?_;simp[d1,d2,d3];try (refine hK _ rfl ?_;clear hK K)
    refine AW.yes ?_ rfl;(repeat refine AW.seq_k fun K hK=>?_);refine AW.rg ?_;simp;try (refine hK _ rfl ?_;clear hK K)
    exact AW.ret (Af rfl _ (.same _) ⟨by unfold B6;rw[Cc hi hf];rfl,rfl⟩)
   by_cases d4:n≤X.b
   ·have hf:Nq n es i=false:=by rw[hp];exact Ce (by rintro⟨q1,q2,q3,q4,q5,_⟩;omega)
    (repeat refine AW.seq_k fun K hK=>?_);refine AW.rg ?_;simp[d1,d2,d3,d4];try (refine hK _ rfl ?_;clear hK K)
    refine AW.yes ?_ rfl;(repeat refine AW.seq_k fun K hK=>?_);refine AW.rg ?_;simp;try (refine hK _ rfl ?_;clear hK K)
    exact AW.ret (Af rfl _ (.same _) ⟨by unfold B6;rw[Cc hi hf];rfl,rfl⟩)
   by_cases d5:X.a=X.b
   ·have hf:Nq n es i=false:=by rw[hp];exact Ce (by rintro⟨q1,q2,q3,q4,q5,_⟩;omega)
    (repeat refine AW.seq_k fun K hK=>?_);refine AW.rg ?_;simp[d1,d2,d3,d4,d5];try (refine hK _ rfl ?_;clear hK K)
    refine AW.yes ?_ rfl;(repeat refine AW.seq_k fun K hK=>?_);refine AW.rg ?_;simp;try (refine hK _ rfl ?_;clear hK K)
    exact AW.ret (Af rfl _ (.same _) ⟨by unfold B6;rw[Cc hi hf];rfl,rfl⟩)
   by_cases d6:X.sq.ok=false
   ·have hf:Nq n es i=false:=by rw[hp];exact Ce (fun q=>by rw[d6]at q;simp at q)
    have hok:N0 X.sq.n1 X.sq.l1 X.sq.n2 X.sq.l2=false:=d6;(repeat refine AW.seq_k fun K hK=>?_);refine AW.rg ?_;simp[d1,d2,d3,d4,d5];try (refine hK _ rfl ?_;clear hK K)
    refine Ac.val hv ?_;simp[hok];try (refine hK _ rfl ?_;clear hK K)
    refine AW.yes ?_ rfl;(repeat refine AW.seq_k fun K hK=>?_);refine AW.rg ?_;simp;try (refine hK _ rfl ?_;clear hK K)
    exact AW.ret (Af rfl _ (.same _) ⟨by unfold B6;rw[Cc hi hf];rfl,rfl⟩)
   replace d6:X.sq.ok=true:=by simpa using d6
   have hok:N0 X.sq.n1 X.sq.l1 X.sq.n2 X.sq.l2=true:=d6;by_cases d7:Db X.sq≤0
   ·have hf:Nq n es i=false:=by rw[hp];exact Ce (fun q=>by have:=q.2.2.2.2.2.2.1;omega)
    (repeat refine AW.seq_k fun K hK=>?_);refine AW.rg ?_;simp[d1,d2,d3,d4,d5];try (refine hK _ rfl ?_;clear hK K)
    refine Ac.val hv ?_;simp[hok];refine Ac.val hs ?_;simp[d7];try (refine hK _ rfl ?_;clear hK K)
    refine AW.yes ?_ rfl;(repeat refine AW.seq_k fun K hK=>?_);refine AW.rg ?_;simp;try (refine hK _ rfl ?_;clear hK K)
    exact AW.ret (Af rfl _ (.same _) ⟨by unfold B6;rw[Cc hi hf];rfl,rfl⟩)
   (repeat refine AW.seq_k fun K hK=>?_);refine AW.rg ?_;simp[d1,d2,d3,d4,d5];try (refine hK _ rfl ?_;clear hK K)
   refine Ac.val hv ?_;simp[hok];refine Ac.val hs ?_;simp[d7];try (refine hK _ rfl ?_;clear hK K)
   refine AW.no ?_ rfl;refine AW.skip ?_;try simp
   try (refine hK _ rfl ?_;clear hK K)
   (repeat refine AW.seq_k fun K hK=>?_);refine AW.rg ?_;simp;try (refine hK _ rfl ?_;clear hK K)
   refine AW.block (AW.loopS (ι:=Nat) (fun k=>[(0,.int .i64 n),(1,.sl 6 (Bw es)),(5,.int .i64 (i:Nat)),(6,.rptr [.int .i64 X.a,.int .i64 X.b,.bool X.sq.n1,Am X.sq.l1,.bool X.sq.n2,Am X.sq.l2]),(7,.int .i64 (k:Nat))]) (fun _=>Aa.emp)
    (fun k=>k≤i∧∀q,q<k→Bn X (Ck es q)=false) (fun k=>i-k) 0 ⟨by simp,by simp⟩ rfl (by simp) ?_)
   rintro k ⟨k1,k2⟩;(repeat refine AW.seq_k fun K hK=>?_);refine AW.rg ?_;simp;try (refine hK _ rfl ?_;clear hK K)
   (repeat refine AW.seq ?_);refine AW.cs (fun hk=>?_) (fun hk=>?_) rfl<;>(try simp at hk)
   ·refine AW.skip ?_;try simp
    try (refine hK _ rfl ?_;clear hK K)
    have w2:=Aq (k+1) (by omega);have hkl:k<es.length:=by omega
    have hmem:Ck es k∈es.take i:=by rw[Ey hkl];exact List.mem_take_iff_getElem.2 ⟨k,by omega,rfl⟩
    generalize hY:Ck es k=Y at *;have hf:Bn X Y=true→Nq n es i=false:=fun hs=>by rw[hp];exact Ce (fun q=>by have:=List.any_eq_false.1 q.2.2.2.2.2.2.2 Y hmem;exact this hs)
    have hno:Bn X Y=false→∀q,q<k+1→Bn X (Ck es q)=false:=fun hs q hq=>by
     rcases Nat.lt_or_ge q k with h1|h1
     ·exact k2 q h1
     ·rw[show q=k by omega,hY];exact hs
    (repeat refine AW.seq ?_);refine AW.block ?_;by_cases e1:Y.a=X.a
    ·by_cases e2:Y.b=X.b
     ·have pe1:(Y.a=X.a)=True:=eq_true e1;have pe2:(Y.b=X.b)=True:=eq_true e2;have hs:Bn X Y=true:=by unfold Bn;simp only[BEq.beq,pe1,pe2];simp
      (repeat refine AW.seq_k fun K hK=>?_);refine AW.rd [0,1,2,3,4,5,6,7,8,9,10,11,12,13,14,15,16,17,18,19,20,21,22,23,24,25,26,27,28,29,30,31,32,33,34,35,36,37] Ds ?_;simp[hkl,hY,Bs,pe1,pe2];try (refine hK _ rfl ?_;clear hK K)
      refine AW.yes ?_ rfl;(repeat refine AW.seq_k fun K hK=>?_);refine AW.rg ?_;simp;try (refine hK _ rfl ?_;clear hK K)
      exact AW.ret (Af rfl _ (.same _) ⟨by unfold B6;rw[Cc hi (hf hs)];rfl,rfl⟩)
     ·by_cases e3:Y.a=X.b
      ·by_cases e4:Y.b=X.a
       ·have pe1:(Y.a=X.a)=True:=eq_true e1;have pe2:(Y.b=X.b)=False:=eq_false e2;have pe3:(Y.a=X.b)=True:=eq_true e3;have pe4:(Y.b=X.a)=True:=eq_true e4;have hs:Bn X Y=true:=by unfold Bn;simp only[BEq.beq,pe1,pe2,pe3,pe4];simp
        (repeat refine AW.seq_k fun K hK=>?_);refine AW.rd [0,1,2,3,4,5,6,7,8,9,10,11,12,13,14,15,16,17,18,19,20,21,22,23,24,25,26,27,28,29,30,31,32,33,34,35,36,37] Ds ?_;simp[hkl,hY,Bs,pe1,pe2,pe3,pe4];try (refine hK _ rfl ?_;clear hK K)
        refine AW.yes ?_ rfl;(repeat refine AW.seq_k fun K hK=>?_);refine AW.rg ?_;simp;try (refine hK _ rfl ?_;clear hK K)
        exact AW.ret (Af rfl _ (.same _) ⟨by unfold B6;rw[Cc hi (hf hs)];rfl,rfl⟩)
       ·have pe1:(Y.a=X.a)=True:=eq_true e1;have pe2:(Y.b=X.b)=False:=eq_false e2;have pe3:(Y.a=X.b)=True:=eq_true e3;have pe4:(Y.b=X.a)=False:=eq_false e4;have hs:Bn X Y=false:=by unfold Bn;simp only[BEq.beq,pe1,pe2,pe3,pe4];simp
        (repeat refine AW.seq_k fun K hK=>?_);refine AW.rd [0,1,2,3,4,5,6,7,8,9,10,11,12,13,14,15,16,17,18,19,20,21,22,23,24,25,26,27,28,29,30,31,32,33,34,35,36,37] Ds ?_;simp[hkl,hY,Bs,pe1,pe2,pe3,pe4];try (refine hK _ rfl ?_;clear hK K)
        refine AW.no ?_ rfl;refine AW.skip ?_;try simp
        try (refine hK _ rfl ?_;clear hK K)
        (repeat refine AW.seq_k fun K hK=>?_);refine AW.rg ?_;simp[-Int.natCast_add,w2];try (refine hK _ rfl ?_;clear hK K)
        exact⟨⟨by omega,hno hs⟩,by omega⟩
      ·have pe1:(Y.a=X.a)=True:=eq_true e1;have pe2:(Y.b=X.b)=False:=eq_false e2;have pe3:(Y.a=X.b)=False:=eq_false e3;have hs:Bn X Y=false:=by unfold Bn;simp only[BEq.beq,pe1,pe2,pe3];simp
       (repeat refine AW.seq_k fun K hK=>?_);refine AW.rd [0,1,2,3,4,5,6,7,8,9,10,11,12,13,14,15,16,17,18,19,20,21,22,23,24,25,26,27,28,29,30,31,32,33,34,35,36,37] Ds ?_;simp[hkl,hY,Bs,pe1,pe2,pe3];try (refine hK _ rfl ?_;clear hK K)
       refine AW.no ?_ rfl;refine AW.skip ?_;try simp
       try (refine hK _ rfl ?_;clear hK K)
       (repeat refine AW.seq_k fun K hK=>?_);refine AW.rg ?_;simp[-Int.natCast_add,w2];try (refine hK _ rfl ?_;clear hK K)
       exact⟨⟨by omega,hno hs⟩,by omega⟩
    ·by_cases e3:Y.a=X.b
     ·by_cases e4:Y.b=X.a
      ·have pe1:(Y.a=X.a)=False:=eq_false e1;have pe3:(Y.a=X.b)=True:=eq_true e3;have pe4:(Y.b=X.a)=True:=eq_true e4;have hs:Bn X Y=true:=by unfold Bn;simp only[BEq.beq,pe1,pe3,pe4];simp
       (repeat refine AW.seq_k fun K hK=>?_);refine AW.rd [0,1,2,3,4,5,6,7,8,9,10,11,12,13,14,15,16,17,18,19,20,21,22,23,24,25,26,27,28,29,30,31,32,33,34,35,36,37] Ds ?_;simp[hkl,hY,Bs,pe1,pe3,pe4];try (refine hK _ rfl ?_;clear hK K)
       refine AW.yes ?_ rfl;(repeat refine AW.seq_k fun K hK=>?_);refine AW.rg ?_;simp;try (refine hK _ rfl ?_;clear hK K)
       exact AW.ret (Af rfl _ (.same _) ⟨by unfold B6;rw[Cc hi (hf hs)];rfl,rfl⟩)
      ·have pe1:(Y.a=X.a)=False:=eq_false e1;have pe3:(Y.a=X.b)=True:=eq_true e3;have pe4:(Y.b=X.a)=False:=eq_false e4;have hs:Bn X Y=false:=by unfold Bn;simp only[BEq.beq,pe1,pe3,pe4];simp
       (repeat refine AW.seq_k fun K hK=>?_);refine AW.rd [0,1,2,3,4,5,6,7,8,9,10,11,12,13,14,15,16,17,18,19,20,21,22,23,24,25,26,27,28,29,30,31,32,33,34,35,36,37] Ds ?_;simp[hkl,hY,Bs,pe1,pe3,pe4];try (refine hK _ rfl ?_;clear hK K)
       refine AW.no ?_ rfl;refine AW.skip ?_;try simp
       try (refine hK _ rfl ?_;clear hK K)
       (repeat refine AW.seq_k fun K hK=>?_);refine AW.rg ?_;simp[-Int.natCast_add,w2];try (refine hK _ rfl ?_;clear hK K)
       exact⟨⟨by omega,hno hs⟩,by omega⟩
     ·have pe1:(Y.a=X.a)=False:=eq_false e1;have pe3:(Y.a=X.b)=False:=eq_false e3;have hs:Bn X Y=false:=by unfold Bn;simp only[BEq.beq,pe1,pe3];simp
      (repeat refine AW.seq_k fun K hK=>?_);refine AW.rd [0,1,2,3,4,5,6,7,8,9,10,11,12,13,14,15,16,17,18,19,20,21,22,23,24,25,26,27,28,29,30,31,32,33,34,35,36,37] Ds ?_;simp[hkl,hY,Bs,pe1,pe3];try (refine hK _ rfl ?_;clear hK K)
      refine AW.no ?_ rfl;refine AW.skip ?_;try simp
      try (refine hK _ rfl ?_;clear hK K)
      (repeat refine AW.seq_k fun K hK=>?_);refine AW.rg ?_;simp[-Int.natCast_add,w2];try (refine hK _ rfl ?_;clear hK K)
      exact⟨⟨by omega,hno hs⟩,by omega⟩
   ·refine AW.exit ?_;try simp
    have hki:k=i:=by omega
    have hany:(es.take i).any (Bn X)=false:=by
     rw[List.any_eq_false];intro y hy;obtain⟨q,hq,rfl⟩:=List.mem_take_iff_getElem.1 hy;have:=k2 q (by omega);rw[Ey (by omega)]at this;rw[this];simp
    (repeat refine AW.seq_k fun K hK=>?_);refine AW.rg ?_;simp[-Int.natCast_add,w1];try (refine hK _ rfl ?_;clear hK K)
    exact⟨⟨by omega,by intro q hq;rcases Nat.lt_or_ge q i with h1 | h1;exact g3 q h1;rw[show q=i by omega,hp];exact Sk ⟨by omega,by omega,by omega,by omega,d5,d6,by omega,hany⟩⟩,by omega⟩
  ·refine AW.exit ?_;try simp
   have:i=es.length:=by omega
   unfold Cg;rw[←this,g2];simp;omega
 ·rintro _ h;(repeat refine AW.seq_k fun K hK=>?_);refine AW.rg ?_;simp;try (refine hK _ rfl ?_;clear hK K)
  exact AW.ret (Af rfl _ (.same _) ⟨by unfold B6;rw[h];rfl,rfl⟩)
end Go.Av
end
section
namespace Go.Av
open Go.Proofs Go.Lam
def Rx (pre:List RE) (c:Nat):Bool:=pre.any fun y=>(y.a.toNat*12+y.b.toNat==c) || (y.b.toNat*12+y.a.toNat==c)
def Hz (pre:List RE):List AV:=(List.range 144).map fun c=>.bool (Rx pre c)
@[simp] theorem Ns (pre:List RE):(Hz pre).length=144:=by simp[Hz]
theorem O9 (pre:List RE) {c:Nat} (hc:c<144):(Hz pre)[c]?=some (.bool (Rx pre c)):=by simp[Hz,hc]
theorem Qe7 (pre:List RE):(Hz pre).all AV.one=true:=by simp[Hz,AV.one]
def RE.inB (x:RE):Prop:=0≤x.a∧x.a<12∧0≤x.b∧x.b<12
theorem F9 (pre:List RE) (x:RE) (hx:x.inB):((Hz pre).set (x.a.toNat*12+x.b.toNat) (.bool true)).set (x.b.toNat*12+x.a.toNat) (.bool true)=Hz (pre++[x]):=by
 obtain⟨h1,h2,h3,h4⟩:=hx;refine List.ext_getElem? fun c=>?_;by_cases hc:c<144
 ·rw[O9 _ hc,List.getElem?_set,List.length_set,Ns];by_cases e1:x.b.toNat*12+x.a.toNat=c
  ·rw[if_pos e1,if_pos (by omega)];simp[Rx,e1]
  ·rw[if_neg e1,List.getElem?_set,Ns];by_cases e2:x.a.toNat*12+x.b.toNat=c
   ·rw[if_pos e2,if_pos (by omega)];simp[Rx,e2]
   ·rw[if_neg e2,O9 _ hc];simp[Rx,e1,e2]
 ·rw[List.getElem?_eq_none (by simp;omega),List.getElem?_eq_none (by simp;omega)]
theorem Qbm {pre:List RE} {x:RE} (hp:∀y∈pre,y.inB) (hx:x.inB):Rx pre (x.a.toNat*12+x.b.toNat)=pre.any (Bn x):=by
 unfold Rx;rw[Bool.eq_iff_iff,List.any_eq_true,List.any_eq_true];obtain⟨h1,h2,h3,h4⟩:=hx;refine exists_congr fun y=>and_congr_right fun hy=>?_;obtain⟨q1,q2,q3,q4⟩:=hp y hy;unfold Bn;simp only[Bool.or_eq_true,beq_iff_eq,Bool.and_eq_true];omega
theorem Sd {cs:List AV} {j:Nat} (v:Bool) (h:j<cs.length) (hl:cs.length=144):Bu 144 1 (.agg cs) (.bool v) j=.agg (cs.set j (.bool v)):=by
 unfold Bu;rw[if_neg (by omega)];show AV.agg (cs.take j++[.bool v]++cs.drop (j+1))=_
 rw[List.set_eq_take_append_cons_drop,if_pos h];simp
theorem Qbi (bu:Nat) (pre:List RE):∀c y,Aa.emp.set bu ⟨73,144,[.agg (Hz pre)]⟩ c=some y→∀v∈y.l,v.cells.all AV.one=true:=by
 intro c y hy v hv;simp only[A3,Az]at hy;split at hy
 ·cases hy;simp only[List.mem_singleton]at hv;subst hv;exact Qe7 pre
 ·cases hy
theorem Qb3 {m':Aa} {bu b:Nat} {x:Et} (X:RE) (h:m' b=none):Bx ((Aa.emp.set bu x).set b ⟨46,6,[X.av]⟩) m' (.ptr b 6 0 0) (.rptr [.int .i64 X.a,.int .i64 X.b,.bool X.sq.n1,Am X.sq.l1,.bool X.sq.n2,Am X.sq.l2]) :=
 .ptr b 6 0 0 ⟨46,6,[X.av]⟩ X.av (Aa.set_same _ _ _) h rfl rfl
set_option maxRecDepth 8000 in
theorem Oz (n:Int) (es:List RE) (hb:Qx es):Aj Tryz.prog 18 [.int .i64 n,A1 es] Aa.emp fun v m=>v=B6 n es∧m=Aa.emp:=by
 refine Ad Tryz.func18 rfl rfl 84 rfl (Nat.le_of_ble_eq_true rfl) ?_;unfold A1;(repeat refine AW.seq_k fun K hK=>?_);refine AW.rg ?_;simp[Ak];try (refine hK _ rfl ?_;clear hK K)
 by_cases c1:n<1
 ·have hc:Cg n es=false:=by unfold Cg;simp;omega
  (repeat refine AW.seq_k fun K hK=>?_);refine AW.rg ?_;simp[c1];try (refine hK _ rfl ?_;clear hK K)
  refine AW.yes ?_ rfl;(repeat refine AW.seq_k fun K hK=>?_);refine AW.rg ?_;simp;try (refine hK _ rfl ?_;clear hK K)
  exact AW.ret (Af rfl _ (.same _) ⟨by unfold B6;rw[hc];rfl,rfl⟩)
 by_cases c2:12<n
 ·have hc:Cg n es=false:=by unfold Cg;simp;omega
  (repeat refine AW.seq_k fun K hK=>?_);refine AW.rg ?_;simp[c1,c2];try (refine hK _ rfl ?_;clear hK K)
  refine AW.yes ?_ rfl;(repeat refine AW.seq_k fun K hK=>?_);refine AW.rg ?_;simp;try (refine hK _ rfl ?_;clear hK K)
  exact AW.ret (Af rfl _ (.same _) ⟨by unfold B6;rw[hc];rfl,rfl⟩)
 by_cases c3:(40:Int)<(es.length:Int)
 ·have hc:Cg n es=false:=by unfold Cg;simp;omega
  (repeat refine AW.seq_k fun K hK=>?_);refine AW.rg ?_;simp[c1,c2,c3];try (refine hK _ rfl ?_;clear hK K)
  refine AW.yes ?_ rfl;(repeat refine AW.seq_k fun K hK=>?_);refine AW.rg ?_;simp;try (refine hK _ rfl ?_;clear hK K)
  exact AW.ret (Af rfl _ (.same _) ⟨by unfold B6;rw[hc];rfl,rfl⟩)
 (repeat refine AW.seq_k fun K hK=>?_);refine AW.rg ?_;simp[c1,c2,c3];try (refine hK _ rfl ?_;clear hK K)
 refine AW.no ?_ rfl;refine AW.skip ?_;try simp
 try (refine hK _ rfl ?_;clear hK K)
 (repeat refine AW.seq_k fun K hK=>?_);refine AW.rg ?_;simp;try (refine hK _ rfl ?_;clear hK K)
 refine Ag.intro fun bu hbu=>?_;refine hK _ rfl ?_;clear hK K;refine AW.seq_ex (ι:=Unit) (fun _=>[]) (fun _=>Aa.emp.set bu ⟨73,144,[.agg (Hz es)]⟩) (fun _=>Cg n es=true) ?_ ?_
 ·(repeat refine AW.seq_k fun K hK=>?_);refine AW.rg ?_;simp;try (refine hK _ rfl ?_;clear hK K)
  refine AW.block (AW.loopS (ι:=Nat) (fun i=>[(0,.int .i64 n),(1,.sl 6 (Bw es)),(5,.ptr bu 144 0 0),(19,.sl 6 (Bw es)),(20,.int .i64 (es.length:Nat)),(21,.int .i64 (i:Nat))]) (fun i=>Aa.emp.set bu ⟨73,144,[.agg (Hz (es.take i))]⟩)
   (fun i=>i≤es.length∧(List.range i).all (Nq n es)=true) (fun i=>es.length-i) 0 ⟨by simp,by simp⟩ (by rfl) (by simp) ?_)
  rintro i ⟨g1,g2⟩;(repeat refine AW.seq_k fun K hK=>?_);refine AW.rg ?_;simp;try (refine hK _ rfl ?_;clear hK K)
  (repeat refine AW.seq ?_);refine AW.cs (fun hi=>?_) (fun hi=>?_) rfl<;>(try simp at hi)
  ·refine AW.skip ?_;try simp
   try (refine hK _ rfl ?_;clear hK K)
   have w1:=Aq (i+1) (by omega);have g3:∀x,x<i→Nq n es x=true:=by simpa using g2
   have hx:=hb.at hi;have hv:=Fb (Ck es i).sq hx;have hs:=Mn (Ck es i).sq hx;have hp:Nq n es i=okE n (es.take i) (Ck es i):=rfl;have htk:es.take (i+1)=es.take i++[Ck es i]:=by rw[Ey hi,List.take_add_one,List.getElem?_eq_getElem hi];rfl
   have hpre:∀y∈es.take i,y.inB:=by
    intro y hy;obtain⟨q,hq,rfl⟩:=List.mem_take_iff_getElem.1 hy;have h1:=g3 q (by omega);unfold Nq okE at h1;rw[Ey (by omega)]at h1;simp only[Bool.and_eq_true,decide_eq_true_eq]at h1;exact⟨by omega,by omega,by omega,by omega⟩
   generalize hX:Ck es i=X at *;(repeat refine AW.seq ?_);refine AW.block ?_;(repeat refine AW.seq_k fun K hK=>?_);refine AW.rg ?_;simp[hi,hX,Bs];try (refine hK _ rfl ?_;clear hK K)
   refine Ag.intro fun b6 hb6=>?_;simp only[Ap,Az,and_true]at hb6;have hb6':=hb6.1;have hb6'':=hb6.2;refine hK _ rfl ?_;clear hK K;refine AW.turn [(0,.int .i64 n),(1,.sl 6 (Bw es)),(5,.ptr bu 144 0 0),(7,.rptr [.int .i64 X.a,.int .i64 X.b,.bool X.sq.n1,Am X.sq.l1,.bool X.sq.n2,Am X.sq.l2]),(19,.sl 6 (Bw es)),(20,.int .i64 (es.length:Nat)),(21,.int .i64 (i:Nat))] (Aa.emp.set bu ⟨73,144,[.agg (Hz (es.take i))]⟩) (Bj.drop (by simp[hb6',hb6'']) (Qbi bu (es.take i))) ?_ ?_
   ·simp;exact Qb3 X (by simp[hb6'])
   by_cases d1:X.a<0
   ·have hf:Nq n es i=false:=by rw[hp];exact Ce (by rintro⟨q1,q2,q3,q4,q5,_⟩;omega)
    (repeat refine AW.seq_k fun K hK=>?_);refine AW.rdL [bu] [0,1,2,3,4,5,6,7,8,9,10,11,12,13,14,15,16,17,18,19,20,21,22,23,24,25,26,27,28,29,30,31,32,33,34,35] Ds (by simp) ?_;simp[d1];try (refine hK _ rfl ?_;clear hK K)
    refine AW.yes ?_ rfl;(repeat refine AW.seq_k fun K hK=>?_);refine AW.rg ?_;simp;try (refine hK _ rfl ?_;clear hK K)
    exact AW.ret (Af rfl _ (.same _) ⟨by unfold B6;rw[Cc hi hf];rfl,rfl⟩)
   by_cases d2:n≤X.a
   ·have hf:Nq n es i=false:=by rw[hp];exact Ce (by rintro⟨q1,q2,q3,q4,q5,_⟩;omega)
    (repeat refine AW.seq_k fun K hK=>?_);refine AW.rdL [bu] [0,1,2,3,4,5,6,7,8,9,10,11,12,13,14,15,16,17,18,19,20,21,22,23,24,25,26,27,28,29,30,31,32,33,34,35] Ds (by simp) ?_;simp[d1,d2];try (refine hK _ rfl ?_;clear hK K)
    refine AW.yes ?_ rfl;(repeat refine AW.seq_k fun K hK=>?_);refine AW.rg ?_;simp;try (refine hK _ rfl ?_;clear hK K)
    exact AW.ret (Af rfl _ (.same _) ⟨by unfold B6;rw[Cc hi hf];rfl,rfl⟩)
   by_cases d3:X.b<0
   ·have hf:Nq n es i=false:=by rw[hp];exact Ce (by rintro⟨q1,q2,q3,q4,q5,_⟩;omega)
    (repeat refine AW.seq_k fun K hK=>?_);refine AW.rdL [bu] [0,1,2,3,4,5,6,7,8,9,10,11,12,13,14,15,16,17,18,19,20,21,22,23,24,25,26,27,28,29,30,31,32,33,34,35] Ds (by simp) ?_;simp[d1,d2,d3];try (refine hK _ rfl ?_;clear hK K)
    refine AW.yes ?_ rfl;(repeat refine AW.seq_k fun K hK=>?_);refine AW.rg ?_;simp;try (refine hK _ rfl ?_;clear hK K)
    exact AW.ret (Af rfl _ (.same _) ⟨by unfold B6;rw[Cc hi hf];rfl,rfl⟩)
   by_cases d4:n≤X.b
   ·have hf:Nq n es i=false:=by rw[hp];exact Ce (by rintro⟨q1,q2,q3,q4,q5,_⟩;omega)
    (repeat refine AW.seq_k fun K hK=>?_);refine AW.rdL [bu] [0,1,2,3,4,5,6,7,8,9,10,11,12,13,14,15,16,17,18,19,20,21,22,23,24,25,26,27,28,29,30,31,32,33,34,35] Ds (by simp) ?_;simp[d1,d2,d3,d4];try (refine hK _ rfl ?_;clear hK K)
    refine AW.yes ?_ rfl;(repeat refine AW.seq_k fun K hK=>?_);refine AW.rg ?_;simp;try (refine hK _ rfl ?_;clear hK K)
    exact AW.ret (Af rfl _ (.same _) ⟨by unfold B6;rw[Cc hi hf];rfl,rfl⟩)
   by_cases d5:X.a=X.b
   ·have hf:Nq n es i=false:=by rw[hp];exact Ce (by rintro⟨q1,q2,q3,q4,q5,_⟩;omega)
    (repeat refine AW.seq_k fun K hK=>?_);refine AW.rdL [bu] [0,1,2,3,4,5,6,7,8,9,10,11,12,13,14,15,16,17,18,19,20,21,22,23,24,25,26,27,28,29,30,31,32,33,34,35] Ds (by simp) ?_;simp[d1,d2,d3,d4,d5];try (refine hK _ rfl ?_;clear hK K)
    refine AW.yes ?_ rfl;(repeat refine AW.seq_k fun K hK=>?_);refine AW.rg ?_;simp;try (refine hK _ rfl ?_;clear hK K)
    exact AW.ret (Af rfl _ (.same _) ⟨by unfold B6;rw[Cc hi hf];rfl,rfl⟩)
   have hin:X.inB:=⟨by omega,by omega,by omega,by omega⟩;have hug:=O9 (es.take i) (c:=X.a.toNat*12+X.b.toNat) (by obtain⟨q1,q2,q3,q4⟩:=hin;omega);have hus:=Qbm (pre:=es.take i) (x:=X) hpre hin;have l1:X.a<12:=by omega
   have l2:X.b<12:=by omega
   have l3:0≤X.a:=by omega
   have l4:0≤X.b:=by omega
   by_cases d0:(es.take i).any (Bn X)=true
   ·have hf:Nq n es i=false:=by rw[hp];exact Ce (fun q=>by have:=q.2.2.2.2.2.2.2;rw[d0]at this;cases this)
    rw[hus,d0]at hug;(repeat refine AW.seq_k fun K hK=>?_);refine AW.rdL [bu] [0,1,2,3,4,5,6,7,8,9,10,11,12,13,14,15,16,17,18,19,20,21,22,23,24,25,26,27,28,29,30,31,32,33,34,35] Ds (by simp) ?_;simp[d1,d2,d3,d4,d5,l1,l2,l3,l4,hug];try (refine hK _ rfl ?_;clear hK K)
    refine AW.yes ?_ rfl;(repeat refine AW.seq_k fun K hK=>?_);refine AW.rg ?_;simp;try (refine hK _ rfl ?_;clear hK K)
    exact AW.ret (Af rfl _ (.same _) ⟨by unfold B6;rw[Cc hi hf];rfl,rfl⟩)
   replace d0:(es.take i).any (Bn X)=false:=by simpa using d0
   rw[hus,d0]at hug;(repeat refine AW.seq_k fun K hK=>?_);refine AW.rdL [bu] [0,1,2,3,4,5,6,7,8,9,10,11,12,13,14,15,16,17,18,19,20,21,22,23,24,25,26,27,28,29,30,31,32,33,34,35] Ds (by simp) ?_;simp[d1,d2,d3,d4,d5,l1,l2,l3,l4,hug];try (refine hK _ rfl ?_;clear hK K)
   refine AW.no ?_ rfl;refine AW.skip ?_;try simp
   try (refine hK _ rfl ?_;clear hK K)
   by_cases d6:X.sq.ok=false
   ·have hf:Nq n es i=false:=by rw[hp];exact Ce (fun q=>by rw[d6]at q;simp at q)
    (repeat refine AW.seq_k fun K hK=>?_);refine AW.rg ?_;simp;try (refine hK _ rfl ?_;clear hK K)
    refine Ac.val hv ?_;simp[d6];try (refine hK _ rfl ?_;clear hK K)
    refine AW.yes ?_ rfl;(repeat refine AW.seq_k fun K hK=>?_);refine AW.rg ?_;simp;try (refine hK _ rfl ?_;clear hK K)
    exact AW.ret (Af rfl _ (.same _) ⟨by unfold B6;rw[Cc hi hf];rfl,rfl⟩)
   replace d6:X.sq.ok=true:=by simpa using d6
   by_cases d7:Db X.sq≤0
   ·have hf:Nq n es i=false:=by rw[hp];exact Ce (fun q=>by have:=q.2.2.2.2.2.2.1;omega)
    (repeat refine AW.seq_k fun K hK=>?_);refine AW.rg ?_;simp;try (refine hK _ rfl ?_;clear hK K)
    refine Ac.val hv ?_;simp[d6];refine Ac.val hs ?_;simp[d7];try (refine hK _ rfl ?_;clear hK K)
    refine AW.yes ?_ rfl;(repeat refine AW.seq_k fun K hK=>?_);refine AW.rg ?_;simp;try (refine hK _ rfl ?_;clear hK K)
    exact AW.ret (Af rfl _ (.same _) ⟨by unfold B6;rw[Cc hi hf];rfl,rfl⟩)
   (repeat refine AW.seq_k fun K hK=>?_);refine AW.rg ?_;simp;try (refine hK _ rfl ?_;clear hK K)
   refine Ac.val hv ?_;simp[d6];refine Ac.val hs ?_;simp[d7];try (refine hK _ rfl ?_;clear hK K)
   refine AW.no ?_ rfl;refine AW.skip ?_;try simp
   try (refine hK _ rfl ?_;clear hK K)
   have st1:=Sd (cs:=Hz (es.take i)) (j:=X.a.toNat*12+X.b.toNat) true (by simp;obtain⟨q1,q2,q3,q4⟩:=hin;omega) (by simp);have st2:=Sd (cs:=(Hz (es.take i)).set (X.a.toNat*12+X.b.toNat) (.bool true)) (j:=X.b.toNat*12+X.a.toNat) true (by simp;obtain⟨q1,q2,q3,q4⟩:=hin;omega) (by simp);have pj1:X.a.toNat*12+X.b.toNat<144:=by omega
   have pj2:X.b.toNat*12+X.a.toNat<144:=by omega
   (repeat refine AW.seq_k fun K hK=>?_);refine AW.rdT [] [7,71,73,75,77] [] [] [0,1,2,3,4,5,6,7,8,9,11,10,12,13] Ds (by simp[l1,l2,l3,l4,st1,st2,F9 _ _ hin,pj1,pj2]) (by simp[l1,l2,l3,l4,st1,st2,F9 _ _ hin,pj1,pj2]) (by simp[l1,l2,l3,l4,st1,st2,F9 _ _ hin,pj1,pj2]) (by simp[l1,l2,l3,l4,st1,st2,F9 _ _ hin,pj1,pj2]) (by simp[l1,l2,l3,l4,st1,st2,F9 _ _ hin,pj1,pj2]) ?_;simp[l1,l2,l3,l4,st1,st2,F9 _ _ hin,pj1,pj2];try (refine hK _ rfl ?_;clear hK K)
   refine⟨by omega,by omega,?_⟩;(repeat refine AW.seq_k fun K hK=>?_);refine AW.rg ?_;simp[-Int.natCast_add,w1];try (refine hK _ rfl ?_;clear hK K)
   exact⟨i+1,⟨by omega,by intro q hq;rcases Nat.lt_or_ge q i with h1 | h1;exact g3 q h1;rw[show q=i by omega,hp];exact Sk ⟨by omega,by omega,by omega,by omega,d5,d6,by omega,d0⟩⟩,by omega,by rw[htk],rfl⟩
  ·refine AW.exit ?_;try simp
   have:i=es.length:=by omega
   refine⟨?_,?_⟩
   ·unfold Cg;rw[←this,g2];simp;omega
   ·rw[List.take_of_length_le (by omega)]
 ·rintro _ h;(repeat refine AW.seq_k fun K hK=>?_);refine AW.rg ?_;simp;try (refine hK _ rfl ?_;clear hK K)
  exact AW.ret (Af rfl _ (.same _) ⟨by unfold B6;rw[h];rfl,rfl⟩)
end Go.Av
end
section
namespace Go.Av
open Go.Proofs Go.Lam
theorem Dk {n:Int} {es:List RE} (h:Cg n es=true):(1≤n∧n≤12∧es.length≤40)∧∀i,i<es.length→okE n (es.take i) (Ck es i)=true:=by
 unfold Cg at h;simp only[Bool.and_eq_true,decide_eq_true_eq,List.all_eq_true,List.mem_range]at h;exact⟨⟨h.1.1.1,h.1.1.2,h.1.2⟩,h.2⟩
theorem N9 {n:Int} {pre:List RE} {x:RE} (h:okE n pre x=true):0≤x.a∧x.a<n∧0≤x.b∧x.b<n∧x.a≠x.b∧x.sq.ok=true∧0<Db x.sq∧pre.any (Bn x)=false:=by
 unfold okE at h;simp only[Bool.and_eq_true,decide_eq_true_eq,Bool.not_eq_true',beq_eq_false_iff_ne]at h;exact⟨h.1.1.1.1.1.1.1,h.1.1.1.1.1.1.2,h.1.1.1.1.1.2,h.1.1.1.1.2,h.1.1.1.2,h.1.1.2,h.1.2,h.2⟩
theorem G1 {n:Int} {es:List RE} (h:Cg n es=true):Ln n.toNat es:=by
 obtain⟨⟨h1,h2,h3⟩,h4⟩:=Dk h;intro i hi;obtain⟨q1,q2,q3,q4,q5,_⟩:=N9 (h4 i hi);unfold Ae Cm;simp only;omega
def B3 (n:Int) (es:List RE):List Nat:=if Cg n es=true then A9 n.toNat (Ae es) [] (List.range es.length) else []
theorem Ln.at {n:Nat} {es:List RE} (h:Ln n es) {s:List Nat} (hs:∀i∈s,i<es.length):∀i∈s,Cm n (Ae es i):=fun i hi=>(h i (hs i hi)).2.2
theorem Qec {n:Nat} {E:Nat→Ed} {i k:Nat} (h:k∈A9 n E [] (List.range i)):k<i:=by
 rcases He h with h1|h1
 ·simp at h1
 ·simpa using h1
theorem Up (n:Nat) (E:Nat→Ed) (i:Nat):(A9 n E [] (List.range i)).length≤i:=by
 have:=F6 (n:=n) (E:=E) (List.range i) [];simpa using this
def Rh (n:Int) (es:List RE):AV:=.int .i64 (if Cg n es=true then (if n=1 then 0 else 2*n-3-((B3 n es).length:Int)) else 0)
theorem Wa {n:Int} {es:List RE} (h:Cg n es=true):(B3 n es).length≤40:=by
 obtain⟨⟨h1,h2,h3⟩,_⟩:=Dk h;unfold B3;rw[if_pos h];have:=Up n.toNat (Ae es) es.length;omega
end Go.Av
end
section
namespace Go.Av
open Go.Proofs Go.Lam
theorem Zj (l:List Nat) (e:Nat) (hl:l.length<2^40):Aj Tryz.prog 89 [.sl 1 (An l),.int .i64 (e:Nat)] Aa.emp fun v m=>(∃t:Int,v=.int .i64 t∧(0≤t↔e∈l))∧m=Aa.emp:=by
 refine Ad Tryz.func89 rfl rfl 19 rfl (Nat.le_of_ble_eq_true rfl) ?_;(repeat refine AW.seq_k fun K hK=>?_);refine AW.rg ?_;simp[Ak];try (refine hK _ rfl ?_;clear hK K)
 refine AW.seq_ex (ι:=Unit) (fun _=>[]) (fun _=>Aa.emp) (fun _=>e ∉ l) ?_ ?_
 ·(repeat refine AW.seq_k fun K hK=>?_);refine AW.rg ?_;simp;try (refine hK _ rfl ?_;clear hK K)
  refine AW.block (AW.loopS (ι:=Nat) (fun i=>[(0,.sl 1 (An l)),(1,.int .i64 (e:Nat)),(7,.int .i64 (l.length:Nat)),(8,.int .i64 (i:Nat))]) (fun i=>Aa.emp)
   (fun i=>i≤l.length∧∀k,(h:k<l.length)→k<i→l[k]≠e) (fun i=>l.length-i) 0 ⟨by simp,by omega⟩ rfl (by simp) ?_)
  rintro i ⟨g1,g2⟩;(repeat refine AW.seq_k fun K hK=>?_);refine AW.rg ?_;simp;try (refine hK _ rfl ?_;clear hK K)
  (repeat refine AW.seq ?_);refine AW.cs (fun hi=>?_) (fun hi=>?_) rfl<;>(try simp at hi)
  ·refine AW.skip ?_;try simp
   try (refine hK _ rfl ?_;clear hK K)
   have w1:=Aq (i+1) (by omega);(repeat refine AW.seq ?_);refine AW.block ?_;(repeat refine AW.seq_k fun K hK=>?_);refine AW.rg ?_;simp;try (refine hK _ rfl ?_;clear hK K)
   (repeat refine AW.seq_k fun K hK=>?_);refine AW.rg ?_;simp[hi];try (refine hK _ rfl ?_;clear hK K)
   (repeat refine AW.seq ?_);refine AW.cs (fun he=>?_) (fun he=>?_) rfl<;>(try simp at he)
   ·(repeat refine AW.seq_k fun K hK=>?_);refine AW.rg ?_;simp;try (refine hK _ rfl ?_;clear hK K)
    exact AW.ret (Af rfl _ (.same _) ⟨⟨i,rfl,⟨fun _=>(by rw[he];exact List.getElem_mem hi),fun _=>(by omega)⟩⟩,rfl⟩)
   ·refine AW.skip ?_;try simp
    try (refine hK _ rfl ?_;clear hK K)
    (repeat refine AW.seq_k fun K hK=>?_);refine AW.rg ?_;simp[-Int.natCast_add,w1];try (refine hK _ rfl ?_;clear hK K)
    refine⟨⟨by omega,fun k h hk=>?_⟩,by omega⟩;rcases Nat.lt_or_ge k i with h1 | h1
    ·exact g2 k h h1
    ·have:k=i:=by omega
     subst this;exact fun h=>he h.symm
  ·refine AW.exit ?_;try simp
   intro hm;obtain⟨k,hk,rfl⟩:=List.mem_iff_getElem.1 hm;exact g2 k hk (by omega) rfl
 ·rintro _ h;(repeat refine AW.seq_k fun K hK=>?_);refine AW.rg ?_;simp;try (refine hK _ rfl ?_;clear hK K)
  exact AW.ret (Af rfl _ (.same _) ⟨⟨-1,rfl,⟨fun h=>(by omega),fun h'=>absurd h' h⟩⟩,rfl⟩)
theorem R3 (l:List Nat) (e:Nat) (hl:l.length<2^40):Aj Tryz.prog 50 [.sl 1 (An l),.int .i64 (e:Nat)] Aa.emp fun v m=>v=.bool (decide (e∈l))∧m=Aa.emp:=by
 have hc:=Zj l e hl;refine Ad Tryz.func50 rfl rfl 9 rfl (Nat.le_of_ble_eq_true rfl) ?_;(repeat refine AW.seq_k fun K hK=>?_);refine AW.rg ?_;simp[Ak];try (refine hK _ rfl ?_;clear hK K)
 (repeat refine AW.seq_k fun K hK=>?_);refine AW.rg ?_;simp;try (refine hK _ rfl ?_;clear hK K)
 refine Ac.pure hc ?_;rintro _ ⟨t,rfl,ht⟩;simp;try (refine hK _ rfl ?_;clear hK K)
 exact AW.ret (Af rfl _ (.same _) ⟨by show AV.bool (decide (0≤t))=_;rw[decide_eq_decide.2 ht],rfl⟩)
theorem Um (b:Nat) (l:List Nat):∀c y,Aa.emp.set b ⟨3,1,An l⟩ c=some y→∀v∈y.l,v.cells.all AV.one=true:=by
 intro c y hy v hv;simp only[A3,Az]at hy;split at hy
 ·cases hy;exact Cl _ v hv
 ·cases hy
theorem Zd (l:List Nat) (hl:l.length<2^40) (h0:l≠[]):Aj Tryz.prog 52 [.sl 1 (An l)] Aa.emp fun v m=>∃b,v=.osl b 1 0 l.length∧m=Aa.emp.set b ⟨3,1,An l⟩:=by
 have hi:An l≠[]:=by intro h;have:=J4 l;rw[h]at this;exact h0 (List.eq_nil_of_length_eq_zero this.symm)
 refine Ad Tryz.func52 rfl rfl 8 rfl (Nat.le_of_ble_eq_true rfl) ?_;(repeat refine AW.seq_k fun K hK=>?_);refine AW.rg ?_;simp[Ak];try (refine hK _ rfl ?_;clear hK K)
 (repeat refine AW.seq_k fun K hK=>?_);refine AW.rg ?_;simp[Ko,hi];try (refine hK _ rfl ?_;clear hK K)
 refine AW.no ?_ rfl;refine AW.skip ?_;try simp
 try (refine hK _ rfl ?_;clear hK K)
 (repeat refine AW.seq_k fun K hK=>?_);refine AW.rg ?_;simp;try (refine hK _ rfl ?_;clear hK K)
 refine Ag.intro fun b5 _=>⟨by omega,by unfold maxLen;omega,Ag.intro fun b7 _=>?_⟩;refine hK _ rfl ?_;clear hK K;exact AW.ret (B0 rfl (Um b7 l) ⟨b7,rfl,rfl⟩)
theorem M8 (b:Nat) (l:List Nat) (k:Nat) (hk:k<l.length) (hl:l.length<2^40):Aj Tryz.prog 51 [.osl b 1 0 l.length,.int .i64 (k:Nat),.int .i64 ((k+1:Nat):Int)] (Aa.emp.set b ⟨3,1,An l⟩) fun v m=>v=.osl b 1 0 (l.length-1)∧m=Aa.emp.set b ⟨3,1,An (l.eraseIdx k)⟩:=by
 have hkn:¬(k:Int)=((k+1:Nat):Int):=by omega
 refine Ad Tryz.func51 rfl rfl 33 rfl (Nat.le_of_ble_eq_true rfl) ?_;(repeat refine AW.seq_k fun K hK=>?_);refine AW.rg ?_;simp[-Int.natCast_add,Ak];try (refine hK _ rfl ?_;clear hK K)
 have w0:((l.length:Int)).toNat=l.length:=by simp
 have c0:(0:Int)≤(l.length:Int):=by omega
 have c1:((k+1:Nat):Int)≤(l.length:Int):=by omega
 have c2:(k:Int)≤((k+1:Nat):Int):=by omega
 have c3:¬l.length=k:=by omega
 (repeat refine AW.seq_k fun K hK=>?_);refine AW.rg ?_;simp[-Int.natCast_add,c0,c1,c2,c3];try (refine hK _ rfl ?_;clear hK K)
 (repeat refine AW.seq_k fun K hK=>?_);refine AW.rg ?_;simp[-Int.natCast_add,hkn];try (refine hK _ rfl ?_;clear hK K)
 refine AW.no ?_ rfl;refine AW.skip ?_;try simp[-Int.natCast_add]
 try (refine hK _ rfl ?_;clear hK K)
 (repeat refine AW.seq_k fun K hK=>?_);refine AW.rg ?_;simp[-Int.natCast_add];try (refine hK _ rfl ?_;clear hK K)
 have key:(An l).take k++(An l).drop (k+1)++(An l).drop (l.length-1)=An (l.eraseIdx k++l.drop (l.length-1)):=by
  rw[List.eraseIdx_eq_take_drop_succ];simp[An,List.map_take,List.map_drop]
 have hel:(l.eraseIdx k).length=l.length-1:=by rw[List.length_eraseIdx,if_pos hk]
 have hdl:(l.drop (l.length-1)).length=1:=by simp;omega
 have key2:(An (l.eraseIdx k++l.drop (l.length-1))).take (l.length-1)=An (l.eraseIdx k):=by
  unfold An;rw[←List.map_take,List.take_append_of_le_length (by omega),List.take_of_length_le (by omega)]
 refine AW.seq_has [(0,.osl b 1 0 (l.length-1)),(7,.int .i64 (l.length:Nat))] (Aa.emp.set b ⟨3,1,An (l.eraseIdx k++l.drop (l.length-1))⟩) ?_ ?_
 ·refine AW.rdLR [26] [] [0,1,2,3,4,5,6,7] Ds (by simp[-Int.natCast_add]) ?_;by_cases hlast:k+1=l.length
  ·have hne:¬l=[]:=by rintro rfl;simp at hk
   simp[c0,c1,c2,hlast,T6,hne];refine⟨by omega,by omega,by unfold maxLen;omega,by omega,?_,by omega⟩;have hd:(An l).drop (k+1)=[]:=List.drop_of_length_le (by simp;omega);rw[hd,List.append_nil,show l.length-1=k by omega]at key;rw[List.take_append_drop]at key;rw[show l.length-1=k by omega,←key]
  ·have c5:¬l.length=k+1:=by omega
   simp[-Int.natCast_add,c0,c1,c2,c5,T6];have ht:List.take (l.length-(k+1)) (List.drop (k+1) (An l))=List.drop (k+1) (An l):=List.take_of_length_le (by simp);refine⟨by omega,by omega,fun x hx=>?_,by omega,by unfold maxLen;omega,by omega,?_,by omega⟩
   ·have hm:x∈An l:=List.mem_of_mem_drop (List.mem_of_mem_take hx);unfold An at hm;obtain⟨y,_,rfl⟩:=List.mem_map.1 hm;exact⟨rfl,by simp[AV.cells,AV.one]⟩
   ·rw[ht,show k+(l.length-(k+1))=l.length-1 by omega,←List.append_assoc,key]
 (repeat refine AW.seq_k fun K hK=>?_);refine AW.rgY ?_;simp[Qer,isY,Qkw];refine⟨b,0,⟨rfl,rfl⟩,_,⟨rfl,rfl⟩,rfl,.i64,.i64,l.length-1,⟨rfl,rfl⟩,l.length,⟨rfl,rfl⟩,by omega,by simp[hel,hdl];omega,b,_,_,⟨rfl,rfl,rfl⟩,_,⟨rfl,rfl⟩,by omega,by simp[hel,hdl];omega,?_⟩;refine hK _ rfl ?_;clear hK K;(repeat refine AW.seq_k fun K hK=>?_);refine AW.rg ?_;simp;try (refine hK _ rfl ?_;clear hK K)
 refine AW.shrink (b:=b) (e:=3) (z:=1) (by simp only[A3,if_true];rfl) (l.length-1) ?_;simp;rw[List.take_append_of_le_length (by simp[hel,hdl]),List.take_take,Nat.min_self,key2];exact AW.ret (B0 rfl (Um b _) ⟨rfl,rfl⟩)
end Go.Av
end
section
namespace Go.Av
section
variable {P:Program} {cf:Dq} {ops:Array Oper} {K:St→Prop}
def Ci (ops:Array Oper) (a b:Nat):Array Oper:=ops.modify b fun o=>{o with after:=o.after.push ⟨a,.data⟩}
theorem Gy (ops:Array Oper) (a b:Nat):(Ci ops a b).size=ops.size:=by simp[Ci]
theorem Du (ops:Array Oper) (a b i:Nat):(Ci ops a b)[i]?=(ops[i]?).map fun o=>if i=b then {o with after:=o.after.push ⟨a,.data⟩} else o:=by
 unfold Ci;rw[Array.getElem?_modify];by_cases h:b=i
 ·subst h;simp
 ·rw[if_neg h];cases ops[i]? with
  |none=>rfl
  |some o=>simp[Ne.symm h]
theorem Xu (ops:Array Oper) (a b j:Nat):((Ci ops a b)[j]?).bind (·.dst)=(ops[j]?).bind (·.dst):=by
 rw[Du];cases ops[j]? with
 |none=>rfl
 |some o=>simp only[Option.map_some,Option.bind_some];split<;>rfl
theorem G0 (a b:Nat) (o:Oper) (i:Nat) (K:St→Prop) (s:St):B5 P cf (Ci ops a b) (if i=b then {o with after:=o.after.push ⟨a,.data⟩} else o) K s↔B5 P cf ops o K s:=by
 have key:∀o':Oper,o'.op=o.op→o'.dst=o.dst→o'.guard=o.guard→(B5 P cf (Ci ops a b) o' K s↔B5 P cf ops o K s):=by
  intro o' h1 h2 h3;have he:∀(s:St) (k:AV→Aa→Prop),Ec P cf o' s k↔Ec P cf o s k:=by
   intro s k;unfold Ec Oh;rw[h1,h2]
  unfold B5 Cr;rw[h2,h3];cases o.guard with
  |none=>exact he _ _
  |some g =>
   obtain⟨j,want⟩:=g;simp only[Xu];cases (ops[j]?).bind (·.dst)with
   |none=>exact Iff.rfl
   |some d =>
    refine exists_congr fun t=>and_congr_right fun _=>?_;split
    ·exact he _ _
    ·exact Iff.rfl
 split
 ·exact key _ rfl rfl rfl
 ·exact key _ rfl rfl rfl
theorem L9 (a b:Nat):∀(plan:List Nat) (s:St),Bz P cf ops plan K s→Bz P cf (Ci ops a b) plan K s
 |[],_,h=>h
 |i::rest,s,h=>by
  unfold Bz at h ⊢;rw[Du];cases ho:ops[i]? with
  |none=>rw[ho]at h;exact h
  |some o =>
   rw[ho]at h;simp only[Option.map_some];rw[G0];unfold B5 at h ⊢;exact Bl (fun v m hk=>L9 a b rest _ hk) h
theorem F7 {a b:Nat} {listed:Array Bool} {i:Nat} (h:i∈Region.ready .any ops listed) (hi:i≠b∨listed.getD a false=true):i∈Region.ready .any (Ci ops a b) listed:=by
 rw[Dm]at h ⊢;obtain⟨h1,h2,h3⟩:=h;refine⟨by rw[Gy];exact h1,h2,fun o ho e he hb=>?_⟩;rw[Du]at ho;cases hx:ops[i]? with
 |none=>rw[hx]at ho;cases ho
 |some o' =>
  rw[hx]at ho;simp only[Option.map_some,Option.some.injEq]at ho;subst ho;split at he
  ·rename_i hib
   simp only[Array.toList_push,List.mem_append,List.mem_singleton]at he;rcases he with he | rfl
   ·exact h3 o' hx e he hb
   ·rcases hi with hi|hi
    ·exact absurd hib hi
    ·exact hi
  ·exact h3 o' hx e he hb
theorem O2 {a b:Nat}:∀(fuel:Nat) (listed:Array Bool) (s:St),listed.size=ops.size→listed.getD a false=true→Lo P cf (Ci ops a b) K fuel listed s→Lo P cf ops K fuel listed s
 |0,listed,s,_,ha,h=>by
  refine⟨?_,h.2⟩;cases hr:Region.ready .any ops listed with
  |nil=>rfl
  |cons i l =>
   have:=F7 (a:=a) (b:=b) (show i∈Region.ready .any ops listed by rw[hr];simp) (.inr ha);rw[h.1]at this;cases this
 |fuel+1,listed,s,hsz,ha,h=>by
  refine⟨fun he=>h.1 ?_,fun i hi=>?_⟩
  ·cases hr:Region.ready .any (Ci ops a b) listed with
   |nil=>rfl
   |cons i l =>
    have hi:i∈Region.ready .any (Ci ops a b) listed:=by rw[hr];simp
    have:i∈Region.ready .any ops listed:=by
     rw[Dm]at hi ⊢;refine⟨by rw[←Gy ops a b];exact hi.1,hi.2.1,fun o ho e he' hb=>hi.2.2 _ (by rw[Du,ho];rfl) e ?_ hb⟩;split
     ·simp[he']
     ·exact he'
    rw[he]at this;cases this
  ·have h2:=h.2 i (F7 hi (.inr ha));rw[Du]at h2;have hlt:=(Dm.1 hi).1;cases ho:ops[i]? with
   |none=>rw[ho]at h2;exact h2
   |some o =>
    rw[ho]at h2;simp only[Option.map_some]at h2 ⊢;rw[G0]at h2;unfold B5 at h2 ⊢;refine Bl (fun v m hk=>O2 fuel _ _ (by simpa using hsz) ?_ hk) h2;rw[E7 (by rw[hsz];exact hlt),ha];simp
def Q3 (o:Oper):Bool:=match o.op with
 |.store _ _ _=>true
 |_=>false
def Qlp (o:Oper):Bool:=Q3 o || match Bg o with
 |.q | .l | .a | .z=>true
 |_=>false
theorem Qas {o:Oper} (ho:Q3 o=true) {s:St} {k k':AV→Aa→Prop} (h1:Cr P cf ops o s k) (h2:Cr P cf ops o s k'):Cr P cf ops o s fun v m=>k v m∧k' v m:=by
 have key:∀{k k':AV→Aa→Prop},Ec P cf o s k→Ec P cf o s k'→Ec P cf o s fun v m=>k v m∧k' v m:=by
  intro k k' h1 h2;unfold Q3 at ho;unfold Ec at *;split at ho
  ·rename_i t a x hop
   simp only[hop]at h1 h2 ⊢;obtain⟨ti,b,z,i,j,blk,old,q1,q2,q3,q4,q5,q6,q7,q8,q9⟩:=h1;obtain⟨ti',b',z',i',j',blk',old',r1,r2,r3,r4,r5,r6,r7,r8,r9⟩:=h2;rw[q1]at r1;cases r1;rw[q2]at r2;cases r2;rw[q3]at r3;cases r3;rw[q5]at r5;cases r5;exact⟨ti,b,z,i,j,blk,old,q1,q2,q3,q4,q5,q6,q7,q8,q9,r9⟩
  ·cases ho
 unfold Cr at *;cases hg:o.guard with
 |none=>rw[hg]at h1 h2;exact key h1 h2
 |some g =>
  obtain⟨j,want⟩:=g;rw[hg]at h1 h2;simp only at h1 h2 ⊢;cases hd:(ops[j]?).bind (·.dst)with
  |none=>rw[hd]at h1;exact h1
  |some d =>
   rw[hd]at h1 h2;simp only at h1 h2 ⊢;obtain⟨t,t1,t2⟩:=h1;obtain⟨t',t3,t4⟩:=h2;rw[t1]at t3;cases t3;refine⟨t,t1,?_⟩;cases t with
   |true=>simp only[if_true]at t2 t4 ⊢;exact key t2 t4
   |false=>simp only[Bool.false_eq_true,if_false]at t2 t4 ⊢;exact⟨t2,t4⟩
theorem Qb2 (hdm:cf.dm=true) {o:Oper} (ho:Qlp o=true) {X Y:St→Prop} {s:St} (h1:B5 P cf ops o X s) (h2:B5 P cf ops o Y s):B5 P cf ops o (fun s'=>X s'∧Y s') s:=by
 by_cases hst:Q3 o=true
 ·exact Qas hst h1 h2
 unfold Qlp at ho;rw[Bool.not_eq_true]at hst;rw[hst,Bool.false_or]at ho;have hb:Bg o≠.b:=by intro e;rw[e]at ho;cases ho
 have hx:Bg o≠.x:=by intro e;rw[e]at ho;cases ho
 have hc:Bg o≠.c:=by intro e;rw[e]at ho;cases ho
 obtain⟨fo,f1,f2⟩:=Lj (P:=P) (cf:=cf) (ops:=ops) hb hx hdm s;unfold B5 at *;have e:({s with m:=s.m}:St)=s:=rfl;rw[←e,f2]at h1 h2 ⊢;cases fo with
 |no=>exact h1
 |quiet ev =>
  obtain⟨v,q1,q2⟩:=h1;obtain⟨v',q3,q4⟩:=h2;rw[q1]at q3;cases q3;exact⟨v,q1,q2,q4⟩
 |new fv x=>exact fun b p1 p2=>⟨h1 b p1 p2,h2 b p1 p2⟩
 |call f args=>exact absurd f1 hc
theorem Yi (hdm:cf.dm=true) (hsoft:∀(i:Nat) (o:Oper),ops[i]?=some o→Qlp o=true) {a b:Nat} (hab:a≠b):∀(fuel:Nat) (listed:Array Bool) (s:St),listed.size=ops.size→Lo P cf (Ci ops a b) K fuel listed s→Lo P cf (Ci ops b a) K fuel listed s→Lo P cf ops K fuel listed s
 |0,listed,s,_,h1,h2=>by
  refine⟨?_,h1.2⟩;cases hr:Region.ready .any ops listed with
  |nil=>rfl
  |cons i l =>
   have hi:i∈Region.ready .any ops listed:=by rw[hr];simp
   by_cases hib:i=b
   ·have:=F7 (a:=b) (b:=a) hi (.inl (by rw[hib];exact Ne.symm hab));rw[h2.1]at this;cases this
   ·have:=F7 (a:=a) (b:=b) hi (.inl hib);rw[h1.1]at this;cases this
 |fuel+1,listed,s,hsz,h1,h2=>by
  refine⟨fun he=>h1.1 ?_,fun i hi=>?_⟩
  ·cases hr:Region.ready .any (Ci ops a b) listed with
   |nil=>rfl
   |cons i l =>
    have hi:i∈Region.ready .any (Ci ops a b) listed:=by rw[hr];simp
    have:i∈Region.ready .any ops listed:=by
     rw[Dm]at hi ⊢;refine⟨by rw[←Gy ops a b];exact hi.1,hi.2.1,fun o ho e he' hb=>hi.2.2 _ (by rw[Du,ho];rfl) e ?_ hb⟩;split
     ·simp[he']
     ·exact he'
    rw[he]at this;cases this
  ·have hlt:=(Dm.1 hi).1;cases ho:ops[i]? with
   |none=>have:=(Array.getElem?_eq_none_iff.1 ho);omega
   |some o =>
    simp only;have g1:i≠b→B5 P cf ops o (Lo P cf (Ci ops a b) K fuel (listed.setIfInBounds i true)) s:=fun hib=>by
     have:=h1.2 i (F7 hi (.inl hib));rw[Du,ho]at this;simp only[Option.map_some]at this
     rwa [G0]at this
    have g2:i≠a→B5 P cf ops o (Lo P cf (Ci ops b a) K fuel (listed.setIfInBounds i true)) s:=fun hia=>by
     have:=h2.2 i (F7 hi (.inl hia));rw[Du,ho]at this;simp only[Option.map_some]at this
     rwa [G0]at this
    have hsz':(listed.setIfInBounds i true).size=ops.size:=by simpa using hsz
    by_cases hib:i=b
    ·have:=g2 (by rw[hib];exact Ne.symm hab);unfold B5 at this ⊢;refine Bl (fun v m hk=>O2 fuel _ _ hsz' ?_ hk) this;rw[E7 (by rw[hsz];exact hlt),if_pos hib.symm]
    ·by_cases hia:i=a
     ·have:=g1 hib;unfold B5 at this ⊢;refine Bl (fun v m hk=>O2 fuel _ _ hsz' ?_ hk) this;rw[E7 (by rw[hsz];exact hlt),if_pos hia.symm]
     ·have:=Qb2 hdm (hsoft i o ho) (g1 hib) (g2 hia);unfold B5 at this ⊢;exact Bl (fun v m hk=>Yi hdm hsoft hab fuel _ _ hsz' hk.1 hk.2) this
theorem Qdn {Q:Exit→St→Prop} {s:St} (ro:Nat→Bool) (av:Nat→Prop) (plan:List Nat) (hp:Hh P ro ops plan=true) (h:Bz P ⟨ro,av,true⟩ ops plan (Q .normal) s) :
  Lo P ⟨ro,av,true⟩ ops (Q .normal) ops.size (Array.replicate ops.size false) s:=by
 unfold Hh at hp;have hp0:=hp;unfold G6 at hp;simp only[Bool.and_eq_true]at hp;have hfil:(plan.filter fun i=>!(Array.replicate ops.size false).getD i true)=plan:=by
  refine List.filter_eq_self.2 fun i hi=>?_;have hlt:i<ops.size:=by
   have:=List.all_eq_true.1 hp.2.1.1.1.2 i hi;simpa[Nat.blt_eq]using this
  simp[hlt]
 have hcl:Lf ops (Array.replicate ops.size false):=fun i o ho hl e he hb=>by
  have hi:i<ops.size:=(Array.getElem?_eq_some_iff.1 ho).1;rw[Array.getD_eq_getD_getElem?,Array.getElem?_replicate,if_pos hi]at hl;cases hl
 refine Pi (cf:=⟨ro,av,true⟩) (q:=G8.no) (blk:=fun r=>r) rfl hp0 ops.size _ s ⟨fun _ h=>(by cases h),fun _ _ h=>(by cases h),fun _ h=>(by cases h),fun _ h=>(by cases h)⟩ Array.size_replicate hcl ?_ ?_
 ·rw[hfil];exact(of_decide_eq_true hp.2.1.1.2).2
 ·rw[hfil];exact h
theorem AW.rd2 {Q:Exit→St→Prop} {s:St} {id:Nat} (a b:Nat) (plan plan2:List Nat) (hm:P.follows .mixedOrders=true)
  (h1:Bz P ⟨fun _=>false,fun _=>False,true⟩ ops plan (Q .normal) s) (h2:Bz P ⟨fun _=>false,fun _=>False,true⟩ ops plan2 (Q .normal) s)
  (hok:Bp s.n ops=true:=by kernel_rfl) (hp1:Hh P (fun _=>false) (Ci ops a b) plan=true:=by kernel_rfl) (hp2:Hh P (fun _=>false) (Ci ops b a) plan2=true:=by kernel_rfl)
  (hab:Nat.beq a b=false:=by rfl) (hs:ops.toList.all Qlp=true:=by kernel_rfl):AW P (.region id ops true) Q s:=by
 intro F G w0 act w hr;refine wp_region_any hm ?_;have hok':∀i o,ops[i]?=some o→(Fy s.n o&&H0 ops s.n o)=true:=fun i o ho=>by
  unfold Bp at hok;exact List.all_eq_true.1 hok o (List.mem_of_getElem? (by rw[Array.getElem?_toList];exact ho))
 have hne:a≠b:=by intro e;subst e;simp at hab
 have q1:=Qdn (Q:=Q) (ops:=Ci ops a b) _ _ plan hp1 (L9 a b plan s h1);have q2:=Qdn (Q:=Q) (ops:=Ci ops b a) _ _ plan2 hp2 (L9 b a plan2 s h2);rw[Gy]at q1 q2;have hany:=Yi rfl (fun i o ho=>List.all_eq_true.1 hs o (List.mem_of_getElem? (by rw[Array.getElem?_toList];exact ho))) hne ops.size _ s Array.size_replicate q1 q2;have hd:Dw F G w0 s act {w with drawn:=w.drawn+1}:=hr.drew;exact Jk (F:=F) (G:=G) (w0:=w0) (cf:=⟨fun _=>false,fun _=>False,true⟩) s.n w.heap.size (fun _ h=>h.elim) (fun a w h=>h) hok' ops.size _ s act {w with drawn:=w.drawn+1} (Nat.le_refl _) rfl hd hany
end
end Go.Av
end
section
namespace Go.Av
open Go.Proofs Go.Lam
def Yg (o:Option Nat) (l:List Nat):AV:=match o with
 |none=>.nil
 |some b=>.osl b 1 0 l.length
def Gs (bs:List (Option Nat)) (cl:List (List Nat)):List AV:=List.zipWith Yg bs cl
def D6 (fl:List Nat):Nat→Nat:=fun v=>fl.getD v 0
def C4 (cl:List (List Nat)):Nat→List Nat:=fun v=>cl.getD v []
def Cn (es:List RE) (bf bc n:Nat):Et:=⟨105,3,[.agg [.sl 6 (Bw es),.osl bf 1 0 n,.osl bc 1 0 n]]⟩
structure C5 (M:Aa) (n bg bf bc:Nat) (es:List RE) (fl:List Nat) (bs:List (Option Nat)) (cl:List (List Nat)):Prop where
 g:M bg=some (Cn es bf bc n)
 f:M bf=some ⟨3,1,An fl⟩
 c:M bc=some ⟨25,1,Gs bs cl⟩
 fll:fl.length=n
 bsl:bs.length=n
 cll:cl.length=n
 row:∀(i b:Nat),bs[i]?=some (some b)→M b=some ⟨3,1,An (C4 cl i)⟩
 nil:∀(i:Nat),bs[i]?=some none→C4 cl i=[]
 nd:bg≠bf∧bg≠bc∧bf≠bc
 ndr:∀(i b:Nat),bs[i]?=some (some b)→b≠bg∧b≠bf∧b≠bc
 inj:∀(i j b:Nat),bs[i]?=some (some b)→bs[j]?=some (some b)→i=j
def A4 (bg bf bc:Nat) (bs:List (Option Nat)):List Nat:=bg::bf::bc::bs.filterMap id
def E1 (M:Aa) (l:List Nat):Prop:=∀k,M k≠none→k∈l
theorem A7 {bg bf bc k:Nat} {bs:List (Option Nat)}:k∈A4 bg bf bc bs↔k=bg∨k=bf∨k=bc∨∃i:Nat,bs[i]?=some (some k):=by
 unfold A4;simp only[List.mem_cons,List.mem_filterMap,id_eq,exists_eq_right];refine or_congr_right (or_congr_right (or_congr_right ?_));exact List.mem_iff_getElem?
section
variable {M:Aa} {n bg bf bc:Nat} {es:List RE} {fl:List Nat} {bs:List (Option Nat)} {cl:List (List Nat)}
theorem Gj (h:C5 M n bg bf bc es fl bs cl):(Gs bs cl).length=n:=by simp[Gs,h.bsl,h.cll]
theorem Kj (h:C5 M n bg bf bc es fl bs cl) {i:Nat} (hi:i<n):∃o,bs[i]?=some o∧(Gs bs cl)[i]?=some (Yg o (C4 cl i)):=by
 have h1:i<bs.length:=by rw[h.bsl];exact hi
 have h2:i<cl.length:=by rw[h.cll];exact hi
 refine⟨bs[i],List.getElem?_eq_getElem h1,?_⟩;unfold Gs;rw[List.getElem?_zipWith,List.getElem?_eq_getElem h1,List.getElem?_eq_getElem h2];simp[C4,h2]
theorem Wr {i x:Nat} (hi:i<fl.length):D6 (fl.set i x)=Eu (D6 fl) i x:=by
 funext v
 unfold D6 Eu;rw[List.getD_eq_getElem?_getD,List.getElem?_set];by_cases h:i=v
 ·subst h;simp[hi]
 ·rw[if_neg h,if_neg (Ne.symm h),←List.getD_eq_getElem?_getD]
theorem Nn {i:Nat} {x:List Nat} (hi:i<cl.length):C4 (cl.set i x)=Eu (C4 cl) i x:=by
 funext v
 unfold C4 Eu;rw[List.getD_eq_getElem?_getD,List.getElem?_set];by_cases h:i=v
 ·subst h;simp[hi]
 ·rw[if_neg h,if_neg (Ne.symm h),←List.getD_eq_getElem?_getD]
theorem C5.setF (h:C5 M n bg bf bc es fl bs cl) (i x:Nat):C5 (M.set bf ⟨3,1,An (fl.set i x)⟩) n bg bf bc es (fl.set i x) bs cl where
 g:=by rw[Aa.set_other _ _ h.nd.1];exact h.g
 f:=Aa.set_same _ _ _
 c:=by rw[Aa.set_other _ _ (Ne.symm h.nd.2.2)];exact h.c
 fll:=by rw[List.length_set,h.fll]
 bsl:=h.bsl
 cll:=h.cll
 row:=fun i b hb=>by rw[Aa.set_other _ _ (h.ndr i b hb).2.1];exact h.row i b hb
 nil:=h.nil
 nd:=h.nd
 ndr:=h.ndr
 inj:=h.inj
theorem C5.setC (h:C5 M n bg bf bc es fl bs cl) {i b':Nat} {l':List Nat} (hi:i<n) (hf:b'≠bg∧b'≠bf∧b'≠bc) (hr:∀j:Nat,j≠i→bs[j]?≠some (some b')) {M':Aa} (h1:M' bg=M bg) (h2:M' bf=M bf)
  (h3:M' bc=some ⟨25,1,(Gs bs cl).set i (.osl b' 1 0 l'.length)⟩) (h4:M' b'=some ⟨3,1,An l'⟩) (h5:∀(j b:Nat),j≠i→bs[j]?=some (some b)→M' b=M b):C5 M' n bg bf bc es fl (bs.set i (some b')) (cl.set i l') where
 g:=by rw[h1];exact h.g
 f:=by rw[h2];exact h.f
 c:=by
  rw[h3]
  congr 2
  refine List.ext_getElem? fun k=>?_;unfold Gs;rw[List.getElem?_set,List.length_zipWith,List.getElem?_zipWith,List.getElem?_zipWith,List.getElem?_set,List.getElem?_set,h.bsl,h.cll];by_cases hk:i=k
  ·subst hk;simp[hi,Yg]
  ·simp[hk]
 fll:=h.fll
 bsl:=by rw[List.length_set,h.bsl]
 cll:=by rw[List.length_set,h.cll]
 row:=fun j b hb=>by
  rw[Nn (by rw[h.cll];exact hi)];unfold Eu;rw[List.getElem?_set]at hb;by_cases hj:i=j
  ·subst hj;rw[if_pos rfl,if_pos (by rw[h.bsl];exact hi)]at hb;cases hb;rw[if_pos rfl,h4]
  ·rw[if_neg hj]at hb;rw[if_neg (Ne.symm hj),h5 j b (Ne.symm hj) hb,h.row j b hb]
 nil:=fun j hb=>by
  rw[Nn (by rw[h.cll];exact hi)];unfold Eu;rw[List.getElem?_set]at hb;by_cases hj:i=j
  ·subst hj;rw[if_pos rfl,if_pos (by rw[h.bsl];exact hi)]at hb;cases hb
  ·rw[if_neg hj]at hb;rw[if_neg (Ne.symm hj)];exact h.nil j hb
 nd:=h.nd
 ndr:=fun j b hb=>by
  rw[List.getElem?_set]at hb;by_cases hj:i=j
  ·subst hj;rw[if_pos rfl,if_pos (by rw[h.bsl];exact hi)]at hb;cases hb;exact hf
  ·rw[if_neg hj]at hb;exact h.ndr j b hb
 inj:=fun j k b hj hk=>by
  rw[List.getElem?_set]at hj hk;by_cases e1:i=j<;>by_cases e2:i=k
  ·omega
  ·subst e1;rw[if_pos rfl,if_pos (by rw[h.bsl];exact hi)]at hj;rw[if_neg e2]at hk;cases hj;exact absurd hk (hr k (Ne.symm e2))
  ·subst e2;rw[if_pos rfl,if_pos (by rw[h.bsl];exact hi)]at hk;rw[if_neg e1]at hj;cases hk;exact absurd hj (hr j (Ne.symm e1))
  ·rw[if_neg e1]at hj;rw[if_neg e2]at hk;exact h.inj j k b hj hk
theorem C5.congr (h:C5 M n bg bf bc es fl bs cl) {M':Aa} (hm:∀k∈A4 bg bf bc bs,M' k=M k):C5 M' n bg bf bc es fl bs cl where
 g:=by rw[hm bg (A7.2 (.inl rfl))];exact h.g
 f:=by rw[hm bf (A7.2 (.inr (.inl rfl)))];exact h.f
 c:=by rw[hm bc (A7.2 (.inr (.inr (.inl rfl))))];exact h.c
 fll:=h.fll
 bsl:=h.bsl
 cll:=h.cll
 row:=fun i b hb=>by rw[hm b (A7.2 (.inr (.inr (.inr ⟨i,hb⟩))))];exact h.row i b hb
 nil:=h.nil
 nd:=h.nd
 ndr:=h.ndr
 inj:=h.inj
end
theorem Qax (bg:Nat) (es:List RE) (bf bc n:Nat):∀c y,Aa.emp.set bg (Cn es bf bc n) c=some y→∀v∈y.l,v.cells.all AV.one=true:=by
 intro c y hy v hv;simp only[A3,Az]at hy;split at hy
 ·cases hy;simp only[Cn,List.mem_singleton]at hv;subst hv;rfl
 ·cases hy
theorem Rf (bg bf bc n:Nat) (es:List RE) (e j:Nat) (he:e<es.length) (hes:Ln 12 es) (hj:j=(Ae es e).1∨j=(Ae es e).2) :
  Aj Tryz.prog 125 [.ptr bg 3 0 0,.int .i64 (e:Nat),.int .i64 (j:Nat)] (Aa.emp.set bg (Cn es bf bc n)) fun v m=>∃x',(v=.int .i64 (Fw (Ae es) e j:Nat)∧x'=Cn es bf bc n)∧m=Aa.emp.set bg x':=by
 obtain⟨e1,e2,e3⟩:=hes e he;have hlt:=e3.1;have hlt2:=e3.2.1;have ho:(Fw (Ae es) e j:Int)=((Ae es e).1:Int)+((Ae es e).2:Int)-(j:Int):=by unfold Fw;omega
 refine Ad Tryz.func125 rfl rfl 26 rfl (Nat.le_of_ble_eq_true rfl) ?_;(repeat refine AW.seq_k fun K hK=>?_);refine AW.rg ?_;simp[Ak];try (refine hK _ rfl ?_;clear hK K)
 unfold Cn;(repeat refine AW.seq_k fun K hK=>?_);refine AW.rdL [bg] [0,1,2,3,4,5,6,7,8,9,10,11,12,13,14,15,16,17,18,19] Ds (by simp) ?_;have w1:IntKind.i64.wrap ((Ck es e).a+(Ck es e).b)=(Ck es e).a+(Ck es e).b:=Nf (by omega);have w2:IntKind.i64.wrap ((Ck es e).a+(Ck es e).b-(j:Int))=(Ck es e).a+(Ck es e).b-(j:Int):=Nf (by omega);simp[he,Bs,w1,w2];try (refine hK _ rfl ?_;clear hK K)
 exact AW.ret (B0 rfl (Qax bg es bf bc n) ⟨Cn es bf bc n,⟨by rw[ho,←e1,←e2];rfl,rfl⟩,rfl⟩)
end Go.Av
end
section
namespace Go.Av
open Go.Proofs Go.Lam
theorem Qh6 (n:Nat):Gs (List.replicate n none) (List.replicate n [])=List.replicate n .nil:=by
 simp[Gs,Yg,List.zipWith_replicate]
theorem Q4 (n i:Nat):C4 (List.replicate n []) i=[]:=by
 unfold C4;rw[List.getD_eq_getElem?_getD,List.getElem?_replicate];split<;>rfl
theorem Zb {M:Aa} {n bg bf bc:Nat} {es:List RE} (h1:M bg=some (Cn es bf bc n)) (h2:M bf=some ⟨3,1,An (List.replicate n 0)⟩) (h3:M bc=some ⟨25,1,List.replicate n .nil⟩) (hd:bg≠bf∧bg≠bc∧bf≠bc) :
  C5 M n bg bf bc es (List.replicate n 0) (List.replicate n none) (List.replicate n []) where
 g:=h1
 f:=h2
 c:=by rw[Qh6];exact h3
 fll:=List.length_replicate
 bsl:=List.length_replicate
 cll:=List.length_replicate
 row:=fun i b hb=>by rw[List.getElem?_replicate]at hb;split at hb<;>simp at hb
 nil:=fun i _=>Q4 n i
 nd:=hd
 ndr:=fun i b hb=>by rw[List.getElem?_replicate]at hb;split at hb<;>simp at hb
 inj:=fun i j b hb _=>by rw[List.getElem?_replicate]at hb;split at hb<;>simp at hb
theorem E1.set {M:Aa} {l:List Nat} (h:E1 M l) {b:Nat} (x:Et) (hb:b∈l):E1 (M.set b x) l:=fun k hk=>by
 by_cases e:k=b
 ·rw[e];exact hb
 ·rw[Aa.set_other _ _ e]at hk;exact h k hk
theorem Ix (bs:List (Option Nat)) (cl:List (List Nat)):∀v∈Gs bs cl,v.cells.all AV.one=true:=by
 intro v hv;unfold Gs at hv;obtain⟨i,hi⟩:=List.getElem?_of_mem hv;rw[List.getElem?_zipWith]at hi;split at hi
 ·rename_i o l _ _
  cases hi;cases o<;>rfl
 ·cases hi
theorem Ha {M:Aa} {n bg bf bc:Nat} {es:List RE} {fl:List Nat} {bs:List (Option Nat)} {cl:List (List Nat)} (h:C5 M n bg bf bc es fl bs cl) (ho:E1 M (A4 bg bf bc bs)):∀c y,M c=some y→∀v∈y.l,v.cells.all AV.one=true:=by
 intro c y hy v hv;rcases A7.1 (ho c (by rw[hy];simp))with rfl | rfl | rfl | ⟨i,hi⟩
 ·rw[h.g]at hy;cases hy;simp only[Cn,List.mem_singleton]at hv;subst hv;rfl
 ·rw[h.f]at hy;cases hy;exact Cl _ v hv
 ·rw[h.c]at hy;cases hy;exact Ix _ _ v hv
 ·rw[h.row i c hi]at hy;cases hy;exact Cl _ v hv
theorem C5.dom {M:Aa} {n bg bf bc:Nat} {es:List RE} {fl:List Nat} {bs:List (Option Nat)} {cl:List (List Nat)} (h:C5 M n bg bf bc es fl bs cl) {k:Nat} (hk:k∈A4 bg bf bc bs):M k≠none:=by
 rcases A7.1 hk with rfl|rfl|rfl|⟨i,hi⟩
 ·rw[h.g];simp
 ·rw[h.f];simp
 ·rw[h.c];simp
 ·rw[h.row i k hi];simp
theorem Qmr {M:Aa} {bg bf bc:Nat} {bs:List (Option Nat)} (h:∀k,M k≠none→k=bg∨k=bf∨k=bc):E1 M (A4 bg bf bc bs):=fun k hk=>by
 rw[A7];rcases h k hk with h | h | h
 ·exact .inl h
 ·exact .inr (.inl h)
 ·exact .inr (.inr (.inl h))
theorem Qbl (n:Nat) (es:List RE) (hn:n≤12):Aj Tryz.prog 81 [.int .i64 (n:Nat),A1 es] Aa.emp fun v m=>∃bg bf bc,v=.ptr bg 3 0 0∧C5 m n bg bf bc es (List.replicate n 2) (List.replicate n none) (List.replicate n [])∧E1 m (A4 bg bf bc (List.replicate n none)):=by
 refine Ad Tryz.func81 rfl rfl 26 rfl (Nat.le_of_ble_eq_true rfl) ?_;unfold A1;(repeat refine AW.seq_k fun K hK=>?_);refine AW.rg ?_;simp[Ak];try (refine hK _ rfl ?_;clear hK K)
 refine AW.seq_ex (ι:=Aa × Nat × Nat × Nat) (fun z=>[(0,.int .i64 (n:Nat)),(5,.ptr z.2.1 3 0 0)]) (fun z=>z.1) (fun z=>C5 z.1 n z.2.1 z.2.2.1 z.2.2.2 es (List.replicate n 0) (List.replicate n none) (List.replicate n [])∧E1 z.1 (A4 z.2.1 z.2.2.1 z.2.2.2 (List.replicate n none))) ?_ ?_
 ·refine AW.rd2 2 4 [0,1,3,2,4,5,6,7] [0,1,3,4,2,5,6,7] Ds ?_ ?_
  ·simp;refine⟨by omega,Ag.intro fun bf h1=>⟨by omega,Ag.intro fun bc h2=>Ag.intro fun bg h3=>?_⟩⟩;simp only[Ap,Az,and_true]at h2 h3;exact⟨bf,bc,Zb (by simp[Cn]) (by simp[A3,h2,h3,An]) (by simp[A3,h2,h3]) ⟨h3.2.1,h3.1.1,h2.2⟩,Qmr (fun k hk=>by
    simp only[A3,Az]at hk;split at hk
    ·exact .inl (by assumption)
    ·split at hk
     ·exact .inr (.inr (by assumption))
     ·split at hk
      ·exact .inr (.inl (by assumption))
      ·exact absurd rfl hk)⟩
  ·simp;refine⟨by omega,Ag.intro fun bc h1=>⟨by omega,Ag.intro fun bf h2=>Ag.intro fun bg h3=>?_⟩⟩;simp only[Ap,Az,and_true]at h2 h3;exact⟨bf,bc,Zb (by simp[Cn]) (by simp[A3,h2,h3,An]) (by simp[A3,h2,h3]) ⟨h3.1.1,h3.2.1,h2.1⟩,Qmr (fun k hk=>by
    simp only[A3,Az]at hk;split at hk
    ·exact .inl (by assumption)
    ·split at hk
     ·exact .inr (.inl (by assumption))
     ·split at hk
      ·exact .inr (.inr (by assumption))
      ·exact absurd rfl hk)⟩
 rintro⟨M,bg,bf,bc⟩ ⟨hg,ho⟩;simp only at hg ho ⊢;refine AW.seq_ex (ι:=Aa) (fun _=>[(5,.ptr bg 3 0 0)]) (fun M=>M) (fun M=>C5 M n bg bf bc es (List.replicate n 2) (List.replicate n none) (List.replicate n [])∧E1 M (A4 bg bf bc (List.replicate n none))) ?_ ?_
 ·(repeat refine AW.seq_k fun K hK=>?_);refine AW.rg ?_;simp;try (refine hK _ rfl ?_;clear hK K)
  refine AW.block (AW.loopS (ι:=Aa × Nat) (fun z=>[(5,.ptr bg 3 0 0),(14,.int .i64 (n:Nat)),(15,.int .i64 (z.2:Nat))]) (fun z=>z.1)
   (fun z=>z.2≤n∧C5 z.1 n bg bf bc es (List.replicate z.2 2++List.replicate (n-z.2) 0) (List.replicate n none) (List.replicate n [])∧E1 z.1 (A4 bg bf bc (List.replicate n none))) (fun z=>n-z.2) (M,0) ⟨by simp,by simpa using hg,ho⟩ rfl (by simp) ?_)
  rintro⟨M,i⟩ ⟨g1,g2,g3⟩;simp only at g1 g2 g3;(repeat refine AW.seq_k fun K hK=>?_);refine AW.rg ?_;simp;try (refine hK _ rfl ?_;clear hK K)
  (repeat refine AW.seq ?_);refine AW.cs (fun hi=>?_) (fun hi=>?_) rfl<;>(try simp at hi)
  ·refine AW.skip ?_;try simp
   try (refine hK _ rfl ?_;clear hK K)
   have w1:=Aq (i+1) (by omega);have m1:=g2.g;have m2:=g2.f;have hfl:=g2.fll;have g4:=g2.setF i 2;rw[List.set_append_right _ _ (by simp),List.length_replicate,Nat.sub_self,show n-i=(n-(i+1))+1 by omega,List.replicate_succ,List.set_cons_zero]at g4;unfold Cn at m1;(repeat refine AW.seq ?_);refine AW.block ?_;(repeat refine AW.seq_k fun K hK=>?_);refine AW.rg ?_;simp;try (refine hK _ rfl ?_;clear hK K)
   (repeat refine AW.seq_k fun K hK=>?_);refine AW.rg ?_;simp[m1,m2,hi,hfl];try (refine hK _ rfl ?_;clear hK K)
   (repeat refine AW.seq_k fun K hK=>?_);refine AW.rg ?_;simp[-Int.natCast_add,w1];try (refine hK _ rfl ?_;clear hK K)
   have e:List.replicate i 2++2::List.replicate (n-(i+1)) 0=List.replicate (i+1) 2++List.replicate (n-(i+1)) 0:=by rw[List.replicate_succ',List.append_assoc];rfl
   rw[e]at g4;refine⟨_,i+1,⟨by omega,g4,g3.set _ (A7.2 (.inr (.inl rfl)))⟩,by omega,?_,rfl⟩;rw[←e]
   congr 2
   show(An (List.replicate i 2++List.replicate (n-i) 0)).set i (.int .i64 ((2:Nat):Int))=_
   rw[Ii,List.set_append_right _ _ (by simp),List.length_replicate,Nat.sub_self,show n-i=(n-(i+1))+1 by omega,List.replicate_succ,List.set_cons_zero]
  ·refine AW.exit ?_;try simp
   rw[show i=n by omega,Nat.sub_self,List.replicate_zero,List.append_nil]at g2;exact⟨g2,g3⟩
 rintro M ⟨hg,ho⟩;(repeat refine AW.seq_k fun K hK=>?_);refine AW.rg ?_;simp;try (refine hK _ rfl ?_;clear hK K)
 exact AW.ret (B0 rfl (Ha hg ho) ⟨bg,bf,bc,rfl,hg,ho⟩)
end Go.Av
end
section
namespace Go.Av
open Go.Proofs Go.Lam
def bools (l:List Bool):List AV:=l.map .bool
@[simp] theorem Qj2 (l:List Bool):(bools l).length=l.length:=by simp[bools]
@[simp] theorem Qtz {l:List Bool} {i:Nat} (h:i<(bools l).length):(bools l)[i]=.bool (l[i]'(by simpa using h)):=by simp[bools]
theorem Fg (l:List Bool) (i:Nat) (x:Bool):(bools l).set i (.bool x)=bools (l.set i x):=by unfold bools;rw[List.map_set]
theorem K1 (l:List Bool):∀v∈bools l,v.cells.all AV.one=true:=by
 intro v hv;obtain⟨x,_,rfl⟩:=List.mem_map.1 hv;rfl
def E8 (sn:List Bool):Nat→Bool:=fun v=>sn.getD v false
theorem Je {sn:List Bool} {i:Nat} {x:Bool} (hi:i<sn.length):E8 (sn.set i x)=Eu (E8 sn) i x:=by
 funext v
 unfold E8 Eu;rw[List.getD_eq_getElem?_getD,List.getElem?_set];by_cases h:i=v
 ·subst h;simp[hi]
 ·rw[if_neg h,if_neg (Ne.symm h),←List.getD_eq_getElem?_getD]
theorem Q8 {sn:List Bool} {i:Nat} (hi:i<sn.length):E8 sn i=sn[i]:=by unfold E8;rw[List.getD_eq_getElem?_getD,List.getElem?_eq_getElem hi];rfl
theorem E5 {fl:List Nat} {i:Nat} (hi:i<fl.length):fl[i]=D6 fl i:=by unfold D6;rw[List.getD_eq_getElem?_getD,List.getElem?_eq_getElem hi];rfl
def Fs (sn:List Bool):Nat:=sn.countP fun b=>!b
theorem Sp {sn:List Bool} {i:Nat} (hi:i<sn.length) (h:sn[i]=false):Fs (sn.set i true)+1=Fs sn:=by
 unfold Fs;rw[List.countP_set hi];have hp:0<sn.countP fun b=>!b:=List.countP_pos_iff.2 ⟨sn[i],List.getElem_mem hi,by rw[h];rfl⟩;simp[h];omega
def Qq3 (bg bx c3 n:Nat):AV:=.fn 195 [.rptr [.ptr bg 3 0 0],.rptr [.osl bx 1 0 n],.ptr c3 1 0 0]
structure H8 (M:Aa) (n bg bf bc bx c3:Nat) (es:List RE) (fl:List Nat) (bs:List (Option Nat)) (cl:List (List Nat)) (sn:List Bool):Prop where
 game:C5 M n bg bf bc es fl bs cl
 seen:M bx=some ⟨4,1,bools sn⟩
 snl:sn.length=n
 cell:M c3=some ⟨100,1,[Qq3 bg bx c3 n]⟩
 off:∀k∈A4 bg bf bc bs,k≠bx∧k≠c3
 xc:bx≠c3
 only:E1 M (bx::c3::A4 bg bf bc bs)
section
variable {M:Aa} {n bg bf bc bx c3:Nat} {es:List RE} {fl:List Nat} {bs:List (Option Nat)} {cl:List (List Nat)} {sn:List Bool}
theorem H8.look (h:H8 M n bg bf bc bx c3 es fl bs cl sn) (i:Nat):H8 (M.set bx ⟨4,1,bools (sn.set i true)⟩) n bg bf bc bx c3 es fl bs cl (sn.set i true) where
 game:=h.game.congr fun k hk=>Aa.set_other _ _ (h.off k hk).1
 seen:=Aa.set_same _ _ _
 snl:=by rw[List.length_set,h.snl]
 cell:=by rw[Aa.set_other _ _ (Ne.symm h.xc)];exact h.cell
 off:=h.off
 xc:=h.xc
 only:=h.only.set _ (by simp)
theorem H8.setF (h:H8 M n bg bf bc bx c3 es fl bs cl sn) (i x:Nat):H8 (M.set bf ⟨3,1,An (fl.set i x)⟩) n bg bf bc bx c3 es (fl.set i x) bs cl sn where
 game:=h.game.setF i x
 seen:=by rw[Aa.set_other _ _ (Ne.symm (h.off bf (A7.2 (.inr (.inl rfl)))).1)];exact h.seen
 snl:=h.snl
 cell:=by rw[Aa.set_other _ _ (Ne.symm (h.off bf (A7.2 (.inr (.inl rfl)))).2)];exact h.cell
 off:=h.off
 xc:=h.xc
 only:=h.only.set _ (by simp[A4])
theorem Qh2 {i b' k:Nat} (hi:i<bs.length) (hk:k∈A4 bg bf bc (bs.set i (some b'))):k=b'∨k∈A4 bg bf bc bs:=by
 rcases A7.1 hk with h|h|h|⟨j,hj⟩
 ·exact .inr (A7.2 (.inl h))
 ·exact .inr (A7.2 (.inr (.inl h)))
 ·exact .inr (A7.2 (.inr (.inr (.inl h))))
 ·rw[List.getElem?_set]at hj;by_cases e:i=j
  ·rw[if_pos e,if_pos hi]at hj;cases hj;exact .inl rfl
  ·rw[if_neg e]at hj;exact .inr (A7.2 (.inr (.inr (.inr ⟨j,hj⟩))))
theorem H8.dom (h:H8 M n bg bf bc bx c3 es fl bs cl sn) {k:Nat} (hk:k∈bx::c3::A4 bg bf bc bs):M k≠none:=by
 simp only[List.mem_cons]at hk;rcases hk with rfl | rfl | hk
 ·rw[h.seen];simp
 ·rw[h.cell];simp
 ·rcases A7.1 hk with rfl|rfl|rfl|⟨i,hi⟩
  ·rw[h.game.g];simp
  ·rw[h.game.f];simp
  ·rw[h.game.c];simp
  ·rw[h.game.row i k hi];simp
theorem H8.ones (h:H8 M n bg bf bc bx c3 es fl bs cl sn):∀c y,M c=some y→∀v∈y.l,v.cells.all AV.one=true:=by
 intro c y hy v hv;have hc:=h.only c (by rw[hy];simp);simp only[List.mem_cons]at hc;rcases hc with rfl | rfl | hc
 ·rw[h.seen]at hy;cases hy;exact K1 _ v hv
 ·rw[h.cell]at hy;cases hy;simp only[List.mem_singleton]at hv;subst hv;rfl
 ·rcases A7.1 hc with rfl|rfl|rfl|⟨i,hi⟩
  ·rw[h.game.g]at hy;cases hy;simp only[Cn,List.mem_singleton]at hv;subst hv;rfl
  ·rw[h.game.f]at hy;cases hy;exact Cl _ v hv
  ·rw[h.game.c]at hy;cases hy;exact Ix _ _ v hv
  ·rw[h.game.row i c hi]at hy;cases hy;exact Cl _ v hv
theorem H8.setC (h:H8 M n bg bf bc bx c3 es fl bs cl sn) {i b':Nat} {l':List Nat} (hi:i<n) (hf:b' ∉ bx::c3::A4 bg bf bc bs∨bs[i]?=some (some b')) {M':Aa}
  (h3:M' bc=some ⟨25,1,(Gs bs cl).set i (.osl b' 1 0 l'.length)⟩) (h4:M' b'=some ⟨3,1,An l'⟩) (h5:∀k∈bx::c3::A4 bg bf bc bs,k≠b'→k≠bc→bs[i]?≠some (some k)→M' k=M k)
  (h6:∀k,M' k≠none→k=b'∨k∈bx::c3::A4 bg bf bc bs∧(bs[i]?=some (some k)→k=b')):H8 M' n bg bf bc bx c3 es fl (bs.set i (some b')) (cl.set i l') sn:=by
 have hib:i<bs.length:=by rw[h.game.bsl];exact hi
 have hb':b'≠bg∧b'≠bf∧b'≠bc∧b'≠bx∧b'≠c3:=by
  rcases hf with hf|hf
  ·simp only[A4,List.mem_cons,not_or]at hf;exact⟨hf.2.2.1,hf.2.2.2.1,hf.2.2.2.2.1,hf.1,hf.2.1⟩
  ·have h1:=h.game.ndr i b' hf;have h2:=h.off b' (A7.2 (.inr (.inr (.inr ⟨i,hf⟩))));exact⟨h1.1,h1.2.1,h1.2.2,h2.1,h2.2⟩
 have hn1:bs[i]?≠some (some bg):=fun e=>(h.game.ndr i bg e).1 rfl;have hn2:bs[i]?≠some (some bf):=fun e=>(h.game.ndr i bf e).2.1 rfl;have hn3:bs[i]?≠some (some bx):=fun e=>(h.off bx (A7.2 (.inr (.inr (.inr ⟨i,e⟩))))).1 rfl;have hn4:bs[i]?≠some (some c3):=fun e=>(h.off c3 (A7.2 (.inr (.inr (.inr ⟨i,e⟩))))).2 rfl;have hbc:=h.off bc (A7.2 (.inr (.inr (.inl rfl))));have hrow:∀j,j≠i→bs[j]?≠some (some b'):=fun j hj e=>by
  rcases hf with hf|hf
  ·exact hf (by simp only[List.mem_cons];exact .inr (.inr (A7.2 (.inr (.inr (.inr ⟨j,e⟩))))))
  ·exact hj (h.game.inj j i b' e hf)
 refine⟨h.game.setC hi ⟨hb'.1,hb'.2.1,hb'.2.2.1⟩ hrow ?_ ?_ h3 h4 ?_,?_,h.snl,?_,?_,h.xc,?_⟩
 ·exact h5 bg (by simp[A4]) (Ne.symm hb'.1) h.game.nd.2.1 hn1
 ·exact h5 bf (by simp[A4]) (Ne.symm hb'.2.1) h.game.nd.2.2 hn2
 ·intro j b hj hb;have hm:b∈A4 bg bf bc bs:=A7.2 (.inr (.inr (.inr ⟨j,hb⟩)));exact h5 b (by simp only[List.mem_cons];exact .inr (.inr hm)) (fun e=>hrow j hj (e ▸ hb)) (h.game.ndr j b hb).2.2 (fun e=>hj (h.game.inj j i b hb e))
 ·rw[h5 bx (by simp) (Ne.symm hb'.2.2.2.1) (Ne.symm hbc.1) hn3];exact h.seen
 ·rw[h5 c3 (by simp) (Ne.symm hb'.2.2.2.2) (Ne.symm hbc.2) hn4];exact h.cell
 ·intro k hk;rcases Qh2 hib hk with rfl | hk
  ·exact⟨hb'.2.2.2.1,hb'.2.2.2.2⟩
  ·exact h.off k hk
 ·intro k hk;simp only[List.mem_cons];rcases h6 k hk with rfl | ⟨hk,hk2⟩
  ·exact .inr (.inr (A7.2 (.inr (.inr (.inr ⟨i,by rw[List.getElem?_set,if_pos rfl,if_pos hib]⟩)))))
  ·simp only[List.mem_cons]at hk;rcases hk with hk | hk | hk
   ·exact .inl hk
   ·exact .inr (.inl hk)
   ·refine .inr (.inr (A7.2 ?_));rcases A7.1 hk with hk | hk | hk | ⟨j,hj⟩
    ·exact .inl hk
    ·exact .inr (.inl hk)
    ·exact .inr (.inr (.inl hk))
    ·by_cases hij:i=j
     ·subst hij;rw[hk2 hj];exact .inr (.inr (.inr ⟨i,by rw[List.getElem?_set,if_pos rfl,if_pos hib]⟩))
     ·exact .inr (.inr (.inr ⟨j,by rw[List.getElem?_set,if_neg hij];exact hj⟩))
end
end Go.Av
end
