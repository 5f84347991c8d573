/- A part of the proof. -/
import Derived.Test.YthflocfaafoohaaGreatP2
set_option linter.all false
set_option exponentiation.threshold 5000
set_option maxRecDepth 10000
section
namespace Go.Av
open Go.Proofs
instance:Inhabited RR:=⟨⟨false,[],false,[]⟩⟩
def rr (r:List RR) (i:Nat):RR:=r.getD i default
def Am {α:Type} (m:List (List α)) (i:Nat):List α:=m.getD i []
def Cp (r:List RR):List AV:=r.map RR.av
def A6 (r:List RR):AV:=.sl 4 (Cp r)
def A8 (m:List (List RR)):AV:=.sl 1 (m.map A6)
theorem Ll {r:List RR} {i:Nat} (h:i<r.length):rr r i=r[i]:=by unfold rr;rw[List.getD_eq_getElem?_getD,List.getElem?_eq_getElem h];rfl
theorem Gc {α:Type} {m:List (List α)} {i:Nat} (h:i<m.length):Am m i=m[i]:=by unfold Am;rw[List.getD_eq_getElem?_getD,List.getElem?_eq_getElem h];rfl
@[simp] theorem Z5 (r:List RR):(Cp r).length=r.length:=by simp[Cp]
@[simp] theorem Qvy:Cp []=[]:=rfl
@[simp] theorem rrs_get? {r:List RR} {i:Nat} (h:i<r.length):(Cp r)[i]?=some (rr r i).av:=by simp[Cp,Ll h,h]
@[simp] theorem Lc (r:List RR) (i:Nat) (x:RR):(Cp r).set i x.av=Cp (r.set i x):=by simp[Cp,List.map_set]
@[simp] theorem Qtf (r:RR):r.av.cells=[.bool r.n1,Al r.l1,.bool r.n2,Al r.l2]:=(rfl)
@[simp] theorem Qu0 (r:RR):Gb true 4 [.bool r.n1,Al r.l1,.bool r.n2,Al r.l2] 0=some r.av:=(rfl)
@[simp] theorem Qsd (r:RR):r.av.isAny=false:=(rfl)
@[simp] theorem Qvm (r:RR):(r.av=.any)=False:=by simp[RR.av]
theorem Og (r:List RR):∀v∈Cp r,v.cells.all AV.one=true:=by
 intro v hv;obtain⟨x,_,rfl⟩:=List.mem_map.1 hv;rfl
@[simp] theorem Qvr (r:List RR):(Cp r).all (fun v=>v.cells.length==4&&v.cells.all AV.one)=true:=by
 rw[List.all_eq_true];intro v hv;obtain⟨x,_,rfl⟩:=List.mem_map.1 hv;rfl
@[simp] theorem Qrs (r:List RR):(A6 r).cells=[A6 r]:=(rfl)
@[simp] theorem Qvo (r:List RR):(A6 r).one=true:=(rfl)
@[simp] theorem Qrp (r:List RR):(A6 r).isAny=false:=(rfl)
@[simp] theorem Qsz (m:List (List RR)):(A8 m).isAny=false:=(rfl)
@[simp] theorem Qv8 (m:List (List RR)):(A8 m).one=true:=(rfl)
@[simp] theorem Qqy (m:List (List RR)):(A8 m).cells=[A8 m]:=(rfl)
section
variable (size bytes:Nat) (e:TypeId) (zero:AV) (fs:List (Nat × Nat × Option Bool)) (k:IntKind) (n:Int)
@[simp] theorem Qrx (r:List RR):Jr ⟨size,bytes,.slice e,zero,fs⟩ (A6 r)=some (.int .i64 r.length):=by simp[A6]
@[simp] theorem Qtc (m:List (List RR)):Jr ⟨size,bytes,.slice e,zero,fs⟩ (A8 m)=some (.int .i64 m.length):=by simp[A8]
@[simp] theorem Qrf (mm:Aa) (r:List RR):F1 mm 4 (A6 r)=some (Cp r):=by simp[A6,F1]
@[simp] theorem Qid (P:Program) (r:List RR):Br P ⟨size,bytes,.slice e,zero,fs⟩ (A6 r) (.int k n)=(Ag P e).bind fun te=>if 4=te.size∧0≤n∧n<r.length then some (.rptr [.bool (rr r n.toNat).n1,Al (rr r n.toNat).l1,.bool (rr r n.toNat).n2,Al (rr r n.toNat).l2]) else none:=by
 unfold A6;rw[G5]
 congr 1
 funext te
 rw[Z5];by_cases h:4=te.size∧0≤n∧n<r.length
 ·rw[if_pos h,if_pos h];have h1:n.toNat<r.length:=by omega
  rw[List.getD_eq_getElem?_getD,rrs_get? h1];rfl
 ·rw[if_neg h,if_neg h]
@[simp] theorem Qic (P:Program) (m:List (List RR)):Br P ⟨size,bytes,.slice e,zero,fs⟩ (A8 m) (.int k n)=(Ag P e).bind fun te=>if 1=te.size∧0≤n∧n<m.length then some (.rptr [A6 (Am m n.toNat)]) else none:=by
 unfold A8;rw[G5]
 congr 1
 funext te
 rw[List.length_map];by_cases h:1=te.size∧0≤n∧n<m.length
 ·rw[if_pos h,if_pos h];have h1:n.toNat<m.length:=by omega
  rw[List.getD_eq_getElem?_getD,List.getElem?_map,List.getElem?_eq_getElem h1,Gc h1];rfl
 ·rw[if_neg h,if_neg h]
end
def Zd (m:List (List RR)):Prop:=∀r∈m,∀x∈r,x.Lb
theorem Lq {r:List RR} (h:∀x∈r,x.Lb) (i:Nat):(rr r i).Lb:=by
 unfold rr;rw[List.getD_eq_getElem?_getD];cases hr:r[i]? with
 |none=>exact⟨fun x hx=>(by cases hx),fun x hx=>(by cases hx)⟩
 |some x=>exact h x (List.mem_of_getElem? hr)
theorem Zd.row {m:List (List RR)} (h:Zd m) (i:Nat):∀x∈Am m i,x.Lb:=by
 unfold Am;rw[List.getD_eq_getElem?_getD];cases hr:m[i]? with
 |none=>intro x hx;cases hx
 |some r=>exact h r (List.mem_of_getElem? hr)
def J8 (m:List (List RR)):Prop:=∃k,k<m.length∧64<(Am m k).length
def Ou (m:List (List RR)):Prop:=∀k,k<m.length→(Am m k).length=(Am m 0).length∧∀j,j<(Am m k).length→(rr (Am m k) j).ok=true
open Classical in
noncomputable def Ze (m:List (List RR)):Int:=if 64<m.length∨J8 m then 2 else if Ou m then 0 else 1
theorem Va {m:List (List RR)} (h:64<m.length∨J8 m):Ze m=2:=if_pos h
theorem Qhl {m:List (List RR)} (h:¬(64<m.length∨J8 m)) (h2:Ou m):Ze m=0:=by unfold Ze;rw[if_neg h,if_pos h2]
theorem U5 {m:List (List RR)} (h:¬(64<m.length∨J8 m)) (h2:¬Ou m):Ze m=1:=by unfold Ze;rw[if_neg h,if_neg h2]
theorem So (m:List (List RR)):Aj Tryz.prog 108 [A8 m] Aa.emp fun v mm=>v=.int .i64 ((Am m 0).length:Nat)∧mm=Aa.emp:=by
 refine Ad Tryz.func108 rfl rfl 10 rfl (Nat.le_of_ble_eq_true rfl) ?_;(repeat refine AW.seq_k fun K hK=>?_);refine AW.rg ?_;simp[Ak];try (refine hK _ rfl ?_;clear hK K)
 (repeat refine AW.seq_k fun K hK=>?_);refine AW.rg ?_;simp;try (refine hK _ rfl ?_;clear hK K)
 (repeat refine AW.seq ?_);refine AW.cs (fun h=>?_) (fun h=>?_) rfl<;>(try simp at h)
 ·subst h;(repeat refine AW.seq_k fun K hK=>?_);refine AW.rg ?_;simp;try (refine hK _ rfl ?_;clear hK K)
  exact AW.ret (Af rfl _ (.same _) ⟨by simp[Am],rfl⟩)
 ·refine AW.skip ?_;try simp
  refine hK _ rfl ?_;clear hK K;have h':0<m.length:=by
   rcases m with _|_
   ·simp at h
   ·simp
  (repeat refine AW.seq_k fun K hK=>?_);refine AW.rg ?_;simp[h'];try (refine hK _ rfl ?_;clear hK K)
  exact AW.ret (Af rfl _ (.same _) ⟨by rfl,rfl⟩)
theorem Qab (m:List (List RR)) (hm:Zd m):Aj Tryz.prog 99 [A8 m] Aa.emp fun v mm=>v=.int .i64 (Ze m)∧mm=Aa.emp:=by
 refine Ad Tryz.func99 rfl rfl 46 rfl (Nat.le_of_ble_eq_true rfl) ?_;(repeat refine AW.seq_k fun K hK=>?_);refine AW.rg ?_;simp[Ak];try (refine hK _ rfl ?_;clear hK K)
 (repeat refine AW.seq_k fun K hK=>?_);refine AW.rg ?_;simp;try (refine hK _ rfl ?_;clear hK K)
 (repeat refine AW.seq ?_);refine AW.cs (fun h64=>?_) (fun h64=>?_) rfl<;>(try simp at h64)
 ·(repeat refine AW.seq_k fun K hK=>?_);refine AW.rg ?_;simp;try (refine hK _ rfl ?_;clear hK K)
  exact AW.ret (Af rfl _ (.same _) ⟨by rw[Va (.inl h64)];rfl,rfl⟩)
 ·refine AW.skip ?_;try simp
  refine hK _ rfl ?_;clear hK K;refine AW.seq_ex (ι:=Unit) (fun _=>[(0,A8 m)]) (fun _=>Aa.emp) (fun _=>¬J8 m) ?_ ?_
  ·(repeat refine AW.seq_k fun K hK=>?_);refine AW.rg ?_;simp;try (refine hK _ rfl ?_;clear hK K)
   refine AW.block (AW.loopS (ι:=Nat) (fun i=>[(0,A8 m),(12,A8 m),(13,.int .i64 (m.length:Nat)),(14,.int .i64 (i:Nat))]) (fun _=>Aa.emp)
    (fun i=>i≤m.length∧∀k,k<i→¬64<(Am m k).length) (fun i=>m.length-i) 0 ⟨by simp,by simp⟩ rfl (by simp) ?_)
   rintro i ⟨h1,h2⟩;(repeat refine AW.seq_k fun K hK=>?_);refine AW.rg ?_;simp;try (refine hK _ rfl ?_;clear hK K)
   refine AW.seq_k fun K hK=>?_;(repeat refine AW.seq ?_);refine AW.cs (fun hi=>?_) (fun hi=>?_) rfl<;>(try simp at hi)
   ·refine AW.skip ?_;try simp
    refine hK _ rfl ?_;clear hK K;have w1:=Aq (i+1) (by omega);refine AW.seq_ex (ι:=Unit) (fun _=>[(0,A8 m),(12,A8 m),(13,.int .i64 (m.length:Nat)),(14,.int .i64 (i:Nat))]) (fun _=>Aa.emp) (fun _=>¬64<(Am m i).length) ?_ ?_
    ·(repeat refine AW.seq ?_);refine AW.block ?_;(repeat refine AW.seq_k fun K hK=>?_);refine AW.rg ?_;simp[hi];try (refine hK _ rfl ?_;clear hK K)
     (repeat refine AW.seq_k fun K hK=>?_);refine AW.rg ?_;simp;try (refine hK _ rfl ?_;clear hK K)
     (repeat refine AW.seq ?_);refine AW.cs (fun h3=>?_) (fun h3=>?_) rfl<;>(try simp at h3)
     ·(repeat refine AW.seq_k fun K hK=>?_);refine AW.rg ?_;simp;try (refine hK _ rfl ?_;clear hK K)
      exact AW.ret (Af rfl _ (.same _) ⟨by rw[Va (.inr ⟨i,hi,h3⟩)];rfl,rfl⟩)
     ·refine AW.skip ?_;try simp
      omega
    ·rintro _ h3;(repeat refine AW.seq_k fun K hK=>?_);refine AW.rg ?_;simp[-Int.natCast_add,w1];try (refine hK _ rfl ?_;clear hK K)
     refine⟨⟨by omega,fun k hk=>?_⟩,by omega⟩;rcases Nat.lt_succ_iff_lt_or_eq.1 hk with h | rfl
     ·have:=h2 k h;omega
     ·omega
   ·refine AW.exit ?_;try simp
    rintro⟨k,hk,h⟩;exact h2 k (by omega) h
  rintro _ hbig;have hnb:¬(64<m.length∨J8 m):=fun h=>h.elim (by omega) hbig;refine AW.seq_ex (ι:=Unit) (fun _=>[]) (fun _=>Aa.emp) (fun _=>Ou m) ?_ ?_
  ·(repeat refine AW.seq_k fun K hK=>?_);refine AW.rg ?_;simp;try (refine hK _ rfl ?_;clear hK K)
   refine AW.block (AW.loopS (ι:=Nat) (fun i=>[(0,A8 m),(22,A8 m),(23,.int .i64 (m.length:Nat)),(24,.int .i64 (i:Nat))]) (fun _=>Aa.emp)
    (fun i=>i≤m.length∧∀k,k<i→(Am m k).length=(Am m 0).length∧∀j,j<(Am m k).length→(rr (Am m k) j).ok=true) (fun i=>m.length-i) 0 ⟨by simp,by simp⟩ rfl (by simp) ?_)
   rintro i ⟨h1,h2⟩;(repeat refine AW.seq_k fun K hK=>?_);refine AW.rg ?_;simp;try (refine hK _ rfl ?_;clear hK K)
   refine AW.seq_k fun K hK=>?_;(repeat refine AW.seq ?_);refine AW.cs (fun hi=>?_) (fun hi=>?_) rfl<;>(try simp at hi)
   ·refine AW.skip ?_;try simp
    refine hK _ rfl ?_;clear hK K;have w1:=Aq (i+1) (by omega);have h0:0<m.length:=by omega
    have hrow:(Am m i).length≤64:=by
     rcases Nat.lt_or_ge 64 (Am m i).length with h|h
     ·exact absurd ⟨i,hi,h⟩ hbig
     ·exact h
    refine AW.seq_ex (ι:=Unit) (fun _=>[(0,A8 m),(22,A8 m),(23,.int .i64 (m.length:Nat)),(24,.int .i64 (i:Nat))]) (fun _=>Aa.emp) (fun _=>(Am m i).length=(Am m 0).length∧∀j,j<(Am m i).length→(rr (Am m i) j).ok=true) ?_ ?_
    ·(repeat refine AW.seq ?_);refine AW.block ?_;(repeat refine AW.seq_k fun K hK=>?_);refine AW.rg ?_;simp[hi];try (refine hK _ rfl ?_;clear hK K)
     refine AW.seq_ex (ι:=Unit) (fun _=>[(0,A8 m),(22,A8 m),(23,.int .i64 (m.length:Nat)),(24,.int .i64 (i:Nat)),(6,A6 (Am m i))]) (fun _=>Aa.emp) (fun _=>(Am m i).length=(Am m 0).length) ?_ ?_
     ·(repeat refine AW.seq_k fun K hK=>?_);refine AW.rg ?_;simp[h0];try (refine hK _ rfl ?_;clear hK K)
      (repeat refine AW.seq ?_);refine AW.cs (fun h4=>?_) (fun h4=>?_) rfl<;>(try simp at h4)
      ·(repeat refine AW.seq_k fun K hK=>?_);refine AW.rg ?_;simp;try (refine hK _ rfl ?_;clear hK K)
       exact AW.ret (Af rfl _ (.same _) ⟨by rw[U5 hnb (fun h=>h4 (h i hi).1)];rfl,rfl⟩)
      ·refine AW.skip ?_;try simp
       exact h4
     rintro _ h4;(repeat refine AW.seq_k fun K hK=>?_);refine AW.rg ?_;simp;try (refine hK _ rfl ?_;clear hK K)
     refine AW.block (AW.loopS (ι:=Nat) (fun j=>[(0,A8 m),(22,A8 m),(23,.int .i64 (m.length:Nat)),(24,.int .i64 (i:Nat)),(6,A6 (Am m i)),(35,A6 (Am m i)),(36,.int .i64 ((Am m i).length:Nat)),(37,.int .i64 (j:Nat))]) (fun _=>Aa.emp)
      (fun j=>j≤(Am m i).length∧∀k,k<j→(rr (Am m i) k).ok=true) (fun j=>(Am m i).length-j) 0 ⟨by simp,by simp⟩ rfl (by simp) ?_)
     rintro j ⟨g1,g2⟩;(repeat refine AW.seq_k fun K hK=>?_);refine AW.rg ?_;simp;try (refine hK _ rfl ?_;clear hK K)
     refine AW.seq_k fun K hK=>?_;(repeat refine AW.seq ?_);refine AW.cs (fun hj=>?_) (fun hj=>?_) rfl<;>(try simp at hj)
     ·refine AW.skip ?_;try simp
      refine hK _ rfl ?_;clear hK K;have w2:=Aq (j+1) (by omega);have hv:=Fi (rr (Am m i) j) (Lq (hm.row i) j);refine AW.seq_ex (ι:=Unit) (fun _=>[(0,A8 m),(22,A8 m),(23,.int .i64 (m.length:Nat)),(24,.int .i64 (i:Nat)),(6,A6 (Am m i)),(35,A6 (Am m i)),(36,.int .i64 ((Am m i).length:Nat)),(37,.int .i64 (j:Nat))]) (fun _=>Aa.emp) (fun _=>(rr (Am m i) j).ok=true) ?_ ?_
      ·(repeat refine AW.seq ?_);refine AW.block ?_;(repeat refine AW.seq_k fun K hK=>?_);refine AW.rg ?_;simp[hj];try (refine hK _ rfl ?_;clear hK K)
       refine Ai.intro fun b8 _=>?_;try simp
       refine hK _ rfl ?_;clear hK K;(repeat refine AW.seq_k fun K hK=>?_);refine AW.rg ?_;simp;try (refine hK _ rfl ?_;clear hK K)
       refine Ac.val hv ?_;simp;refine hK _ rfl ?_;clear hK K;refine AW.toEmp [(0,A8 m),(22,A8 m),(23,.int .i64 (m.length:Nat)),(24,.int .i64 (i:Nat)),(6,A6 (Am m i)),(35,A6 (Am m i)),(36,.int .i64 ((Am m i).length:Nat)),(37,.int .i64 (j:Nat)),(43,.bool (!(rr (Am m i) j).ok))] (by simp) ?_;by_cases h5:(rr (Am m i) j).ok=true
       ·refine AW.no ?_ (by simp[h5]);exact AW.skip ⟨(),h5,rfl,rfl,by simp⟩
       ·refine AW.yes ?_ (by simp[h5]);(repeat refine AW.seq_k fun K hK=>?_);refine AW.rg ?_;simp;try (refine hK _ rfl ?_;clear hK K)
        exact AW.ret (Af rfl _ (.same _) ⟨by rw[U5 hnb (fun h=>h5 ((h i hi).2 j hj))];rfl,rfl⟩)
      ·rintro _ h5;(repeat refine AW.seq_k fun K hK=>?_);refine AW.rg ?_;simp[-Int.natCast_add,w2];try (refine hK _ rfl ?_;clear hK K)
       refine⟨⟨by omega,fun k hk=>?_⟩,by omega⟩;rcases Nat.lt_succ_iff_lt_or_eq.1 hk with h | rfl
       ·exact g2 k h
       ·exact h5
     ·refine AW.exit ?_;try simp
      exact⟨h4,fun k hk=>g2 k (by omega)⟩
    ·rintro _ h3;(repeat refine AW.seq_k fun K hK=>?_);refine AW.rg ?_;simp[-Int.natCast_add,w1];try (refine hK _ rfl ?_;clear hK K)
     refine⟨⟨by omega,fun k hk=>?_⟩,by omega⟩;rcases Nat.lt_succ_iff_lt_or_eq.1 hk with h | rfl
     ·exact h2 k h
     ·exact h3
   ·refine AW.exit ?_;try simp
    exact fun k hk=>h2 k (by omega)
  rintro _ hok;(repeat refine AW.seq_k fun K hK=>?_);refine AW.rg ?_;simp;try (refine hK _ rfl ?_;clear hK K)
  exact AW.ret (Af rfl _ (.same _) ⟨by rw[Qhl hnb hok];rfl,rfl⟩)
end Go.Av
end
section
namespace Go.Av
open Go.Proofs
@[simp] theorem Qjm (b z i j:Nat):I9 (.ptr b z i j)=some (.ptr b z i j):=(rfl)
@[simp] theorem Qif (l:List AV):I9 (.rptr l)=some (.rptr l):=(rfl)
def RR.q (r:RR):Rat:=mkRat (if r.n1=true then -(val r.l1:Int) else val r.l1) (val r.l2)
theorem Gu (q:Rat):(Bd q).q=q:=by
 unfold RR.q Bd;simp only[A0,decide_eq_true_eq];have:(if q.num<0 then -(q.num.natAbs:Int) else (q.num.natAbs:Int))=q.num:=by split<;>omega
 rw[this,Rat.mkRat_self]
theorem Ek {r:RR} (hl:r.Lb) (h:r.ok=true):B2 r.q∧r=Bd r.q:=by
 obtain⟨q,h1,h2⟩:=Qoh hl h;subst h2;rw[Gu];exact⟨h1,rfl⟩
theorem Pc {r:RR} (hl:r.Lb) (h:r.ok=true):r.av=Ju r.q:=by
 have:=(Ek hl h).2
 calc r.av=(Bd r.q).av:=by rw[←this]
  _=Ju r.q:=rfl
def S5:RR:=⟨false,[],false,[]⟩
theorem Uz:S5.av=Cj:=rfl
theorem Qki:S5.Lb:=⟨fun x hx=>(by cases hx),fun x hx=>(by cases hx)⟩
def Cw (e:Int) (a:RR) (q:Option Rat):Int × RR:=if e=0 then (match q with | some q=>(0,Bd q) | none=>(2,S5)) else (e,a)
theorem Vp {e:Int} {a:RR} {q:Option Rat} (h:a.Lb):(Cw e a q).2.Lb:=by
 unfold Cw;split
 ·cases q with
  |none=>exact Qki
  |some q=>exact F7 q
 ·exact h
def Lx (c:Nat) (x:AV):Aa:=Aa.emp.set c ⟨118,1,[x]⟩
def Gf (x:AV) (e:Int):Prop:=x.cells=[.int .i64 e]
theorem Mf (c:Nat) (x:AV) (e f:Int) (hx:Gf x e) (r:RR):Aj Tryz.prog 158 [.ptr c 1 0 0,r.av,.int .i64 f] (Lx c x) fun v m=>v=r.av∧∃x',Gf x' (if e=0 then f else e)∧m=Lx c x':=by
 unfold Gf at hx;unfold RR.av Lx;refine Ad Tryz.func158 rfl rfl 17 rfl (Nat.le_of_ble_eq_true rfl) ?_;(repeat refine AW.seq_k fun K hK=>?_);refine AW.rgR [4] ?_;simp[Ak];try (refine hK _ rfl ?_;clear hK K)
 refine Ai.intro fun b6 hb6=>?_;simp only[Ap,Az,and_true]at hb6;refine hK _ rfl ?_;clear hK K;refine AW.seq_ex (ι:=AV) (fun x'=>[(0,.ptr c 1 0 0),(4,.rptr [.bool r.n1,Al r.l1,.bool r.n2,Al r.l2]),(6,.ptr b6 4 0 0)]) (fun x'=>(Aa.emp.set c ⟨118,1,[x']⟩).set b6 ⟨44,4,[.agg [.bool false,.nil,.bool false,.nil]]⟩) (fun x'=>Gf x' (if e=0 then f else e)) ?_ ?_
 ·(repeat refine AW.seq_k fun K hK=>?_);refine AW.rg ?_;simp[hb6,hx];try (refine hK _ rfl ?_;clear hK K)
  (repeat refine AW.seq ?_);refine AW.cs (fun he=>?_) (fun he=>?_) rfl<;>(try simp at he)
  ·(repeat refine AW.seq_k fun K hK=>?_);refine AW.rg ?_;simp[hb6,hx];try (refine hK _ rfl ?_;clear hK K)
   refine⟨.int .i64 f,by simp[Gf,he],?_⟩;rw[Yn _ hb6.2]
  ·refine AW.skip ⟨x,?_,rfl,rfl,by simp⟩;simp[Gf,he];exact hx
 rintro x' hx';(repeat refine AW.seq_k fun K hK=>?_);refine AW.rg ?_;simp[hb6];try (refine hK _ rfl ?_;clear hK K)
 refine AW.ret (Cz (vs:=[.agg [.bool r.n1,Al r.l1,.bool r.n2,Al r.l2]]) [.agg [.bool r.n1,Al r.l1,.bool r.n2,Al r.l2]] c ⟨118,1,[x']⟩ (by simp[hb6]) (by simp[hb6]) ?_ (Ba _ _ _) ⟨rfl,x',hx',rfl⟩);intro v hv;simp at hv;subst hv;unfold Gf at hx';rw[hx'];rfl
theorem Qe4 (c:Nat) (x:AV) (e:Int) (hx:Gf x e) (a b:RR) (ha:a.Lb) (hb:b.Lb) (h:e=0→a.ok=true∧b.ok=true):Aj Tryz.prog 146 [.ptr c 1 0 0,a.av,b.av] (Lx c x) fun v m=>v=(Cw e a (Di a.q b.q)).2.av∧∃x',Gf x' (Cw e a (Di a.q b.q)).1∧m=Lx c x':=by
 have hone:∀x' e',Gf x' e'→∀v∈(⟨118,1,[x']⟩:Es).l,v.cells.all AV.one=true:=by
  intro x' e' hx' v hv;simp at hv;subst hv;unfold Gf at hx';rw[hx'];rfl
 have hone:=hone;have hx0:=hx;unfold Gf at hx;by_cases he:e=0
 ·obtain⟨o1,o2⟩:=h he;obtain⟨g1,e1⟩:=Ek ha o1;obtain⟨g2,e2⟩:=Ek hb o2;have hr:=K5 a.q b.q g1 g2;rw[←Pc ha o1,←Pc hb o2]at hr;have hk:=Mf c x e;subst he;generalize Di a.q b.q=q at *;unfold Lx at hk ⊢;unfold RR.av at hr ⊢;refine Ad Tryz.func146 rfl rfl 20 rfl (Nat.le_of_ble_eq_true rfl) ?_;(repeat refine AW.seq_k fun K hK=>?_);refine AW.rgR [4,5] ?_;simp[Ak];try (refine hK _ rfl ?_;clear hK K)
  refine Ai.intro fun b6 hb6=>?_;simp only[Ap,Az,and_true]at hb6;refine hK _ rfl ?_;clear hK K;(repeat refine AW.seq_k fun K hK=>?_);refine AW.rg ?_;simp[hb6,hx];try (refine hK _ rfl ?_;clear hK K)
  refine AW.no ?_ rfl;refine AW.skip ?_;try simp
  refine hK _ rfl ?_;clear hK K;cases q with
  |none =>
   (repeat refine AW.seq_k fun K hK=>?_);refine AW.rg ?_;simp[hb6];try (refine hK _ rfl ?_;clear hK K)
   refine Ac.val hr ?_;simp[Fo,Cj];have hk2:=hk 2 hx0 S5;refine Ac.grant (R:=fun v y=>v=S5.av∧∃x',Gf x' 2∧y=⟨118,1,[x']⟩) c ⟨118,1,[x]⟩ (by simp[hb6]) (by simp) (hk2.mono fun v m ⟨h1,x',h2,h3⟩=>⟨_,⟨h1,x',h2,rfl⟩,h3⟩) ?_;rintro _ _ ⟨rfl,x',hx',rfl⟩;simp[hb6,Uz,Cj];refine hK _ rfl ?_;clear hK K;refine AW.ret (Cz (vs:=[Cj]) [Cj] c ⟨118,1,[x']⟩ (by simp[hb6,Cj]) (by simp[hb6]) (hone x' 2 hx') (Ba _ _ _) ⟨rfl,x',hx',rfl⟩)
  |some q =>
   (repeat refine AW.seq_k fun K hK=>?_);refine AW.rg ?_;simp[hb6];try (refine hK _ rfl ?_;clear hK K)
   refine Ac.val hr ?_;simp[Fo];have hk2:=hk 0 hx0 (Bd q);refine Ac.grant (R:=fun v y=>v=(Bd q).av∧∃x',Gf x' 0∧y=⟨118,1,[x']⟩) c ⟨118,1,[x]⟩ (by simp[hb6]) (by simp) (hk2.mono fun v m ⟨h1,x',h2,h3⟩=>⟨_,⟨h1,x',h2,rfl⟩,h3⟩) ?_;rintro _ _ ⟨rfl,x',hx',rfl⟩;simp[hb6];refine hK _ rfl ?_;clear hK K;refine AW.ret (Cz (vs:=[(Bd q).av]) [(Bd q).av] c ⟨118,1,[x']⟩ (by simp[hb6,RR.av]) (by simp[hb6]) (hone x' 0 hx') (Ba _ _ _) ⟨rfl,x',hx',rfl⟩)
 ·have e3:Cw e a (Di a.q b.q)=(e,a):=if_neg he;rw[e3];unfold Lx;unfold RR.av;refine Ad Tryz.func146 rfl rfl 20 rfl (Nat.le_of_ble_eq_true rfl) ?_;(repeat refine AW.seq_k fun K hK=>?_);refine AW.rgR [4,5] ?_;simp[Ak];try (refine hK _ rfl ?_;clear hK K)
  refine Ai.intro fun b6 hb6=>?_;simp only[Ap,Az,and_true]at hb6;refine hK _ rfl ?_;clear hK K;(repeat refine AW.seq_k fun K hK=>?_);refine AW.rg ?_;simp[hb6,hx];try (refine hK _ rfl ?_;clear hK K)
  refine AW.yes ?_ (by simp[he]);(repeat refine AW.seq_k fun K hK=>?_);refine AW.rg ?_;simp[hb6];try (refine hK _ rfl ?_;clear hK K)
  refine AW.ret (Cz (vs:=[.agg [.bool a.n1,Al a.l1,.bool a.n2,Al a.l2]]) [.agg [.bool a.n1,Al a.l1,.bool a.n2,Al a.l2]] c ⟨118,1,[x]⟩ (by simp[hb6]) (by simp[hb6]) (hone x e hx0) (Ba _ _ _) ⟨rfl,x,hx0,rfl⟩)
theorem Qd8 (c:Nat) (x:AV) (e:Int) (hx:Gf x e) (a b:RR) (ha:a.Lb) (hb:b.Lb) (h:e=0→a.ok=true∧b.ok=true):Aj Tryz.prog 111 [.ptr c 1 0 0,a.av,b.av] (Lx c x) fun v m=>v=(Cw e a (Er a.q b.q)).2.av∧∃x',Gf x' (Cw e a (Er a.q b.q)).1∧m=Lx c x':=by
 have hone:∀x' e',Gf x' e'→∀v∈(⟨118,1,[x']⟩:Es).l,v.cells.all AV.one=true:=by
  intro x' e' hx' v hv;simp at hv;subst hv;unfold Gf at hx';rw[hx'];rfl
 have hone:=hone;have hx0:=hx;unfold Gf at hx;by_cases he:e=0
 ·obtain⟨o1,o2⟩:=h he;obtain⟨g1,e1⟩:=Ek ha o1;obtain⟨g2,e2⟩:=Ek hb o2;have hr:=Qdi a.q b.q g1 g2;rw[←Pc ha o1,←Pc hb o2]at hr;have hk:=Mf c x e;subst he;generalize Er a.q b.q=q at *;unfold Lx at hk ⊢;unfold RR.av at hr ⊢;refine Ad Tryz.func111 rfl rfl 20 rfl (Nat.le_of_ble_eq_true rfl) ?_;(repeat refine AW.seq_k fun K hK=>?_);refine AW.rgR [4,5] ?_;simp[Ak];try (refine hK _ rfl ?_;clear hK K)
  refine Ai.intro fun b6 hb6=>?_;simp only[Ap,Az,and_true]at hb6;refine hK _ rfl ?_;clear hK K;(repeat refine AW.seq_k fun K hK=>?_);refine AW.rg ?_;simp[hb6,hx];try (refine hK _ rfl ?_;clear hK K)
  refine AW.no ?_ rfl;refine AW.skip ?_;try simp
  refine hK _ rfl ?_;clear hK K;cases q with
  |none =>
   (repeat refine AW.seq_k fun K hK=>?_);refine AW.rg ?_;simp[hb6];try (refine hK _ rfl ?_;clear hK K)
   refine Ac.val hr ?_;simp[Fo,Cj];have hk2:=hk 2 hx0 S5;refine Ac.grant (R:=fun v y=>v=S5.av∧∃x',Gf x' 2∧y=⟨118,1,[x']⟩) c ⟨118,1,[x]⟩ (by simp[hb6]) (by simp) (hk2.mono fun v m ⟨h1,x',h2,h3⟩=>⟨_,⟨h1,x',h2,rfl⟩,h3⟩) ?_;rintro _ _ ⟨rfl,x',hx',rfl⟩;simp[hb6,Uz,Cj];refine hK _ rfl ?_;clear hK K;refine AW.ret (Cz (vs:=[Cj]) [Cj] c ⟨118,1,[x']⟩ (by simp[hb6,Cj]) (by simp[hb6]) (hone x' 2 hx') (Ba _ _ _) ⟨rfl,x',hx',rfl⟩)
  |some q =>
   (repeat refine AW.seq_k fun K hK=>?_);refine AW.rg ?_;simp[hb6];try (refine hK _ rfl ?_;clear hK K)
   refine Ac.val hr ?_;simp[Fo];have hk2:=hk 0 hx0 (Bd q);refine Ac.grant (R:=fun v y=>v=(Bd q).av∧∃x',Gf x' 0∧y=⟨118,1,[x']⟩) c ⟨118,1,[x]⟩ (by simp[hb6]) (by simp) (hk2.mono fun v m ⟨h1,x',h2,h3⟩=>⟨_,⟨h1,x',h2,rfl⟩,h3⟩) ?_;rintro _ _ ⟨rfl,x',hx',rfl⟩;simp[hb6];refine hK _ rfl ?_;clear hK K;refine AW.ret (Cz (vs:=[(Bd q).av]) [(Bd q).av] c ⟨118,1,[x']⟩ (by simp[hb6,RR.av]) (by simp[hb6]) (hone x' 0 hx') (Ba _ _ _) ⟨rfl,x',hx',rfl⟩)
 ·have e3:Cw e a (Er a.q b.q)=(e,a):=if_neg he;rw[e3];unfold Lx;unfold RR.av;refine Ad Tryz.func111 rfl rfl 20 rfl (Nat.le_of_ble_eq_true rfl) ?_;(repeat refine AW.seq_k fun K hK=>?_);refine AW.rgR [4,5] ?_;simp[Ak];try (refine hK _ rfl ?_;clear hK K)
  refine Ai.intro fun b6 hb6=>?_;simp only[Ap,Az,and_true]at hb6;refine hK _ rfl ?_;clear hK K;(repeat refine AW.seq_k fun K hK=>?_);refine AW.rg ?_;simp[hb6,hx];try (refine hK _ rfl ?_;clear hK K)
  refine AW.yes ?_ (by simp[he]);(repeat refine AW.seq_k fun K hK=>?_);refine AW.rg ?_;simp[hb6];try (refine hK _ rfl ?_;clear hK K)
  refine AW.ret (Cz (vs:=[.agg [.bool a.n1,Al a.l1,.bool a.n2,Al a.l2]]) [.agg [.bool a.n1,Al a.l1,.bool a.n2,Al a.l2]] c ⟨118,1,[x]⟩ (by simp[hb6]) (by simp[hb6]) (hone x e hx0) (Ba _ _ _) ⟨rfl,x,hx0,rfl⟩)
theorem Qes (c:Nat) (x:AV) (e:Int) (hx:Gf x e) (a b:RR) (ha:a.Lb) (hb:b.Lb) (h:e=0→a.ok=true∧b.ok=true∧b.q≠0):Aj Tryz.prog 145 [.ptr c 1 0 0,a.av,b.av] (Lx c x) fun v m=>v=(Cw e a (Gp a.q b.q)).2.av∧∃x',Gf x' (Cw e a (Gp a.q b.q)).1∧m=Lx c x':=by
 have hone:∀x' e',Gf x' e'→∀v∈(⟨118,1,[x']⟩:Es).l,v.cells.all AV.one=true:=by
  intro x' e' hx' v hv;simp at hv;subst hv;unfold Gf at hx';rw[hx'];rfl
 have hone:=hone;have hx0:=hx;unfold Gf at hx;by_cases he:e=0
 ·obtain⟨o1,o2,o3⟩:=h he;obtain⟨g1,e1⟩:=Ek ha o1;obtain⟨g2,e2⟩:=Ek hb o2;have hr:=Qd9 a.q b.q g1 g2 o3;rw[←Pc ha o1,←Pc hb o2]at hr;have hk:=Mf c x e;subst he;generalize Gp a.q b.q=q at *;unfold Lx at hk ⊢;unfold RR.av at hr ⊢;refine Ad Tryz.func145 rfl rfl 20 rfl (Nat.le_of_ble_eq_true rfl) ?_;(repeat refine AW.seq_k fun K hK=>?_);refine AW.rgR [4,5] ?_;simp[Ak];try (refine hK _ rfl ?_;clear hK K)
  refine Ai.intro fun b6 hb6=>?_;simp only[Ap,Az,and_true]at hb6;refine hK _ rfl ?_;clear hK K;(repeat refine AW.seq_k fun K hK=>?_);refine AW.rg ?_;simp[hb6,hx];try (refine hK _ rfl ?_;clear hK K)
  refine AW.no ?_ rfl;refine AW.skip ?_;try simp
  refine hK _ rfl ?_;clear hK K;cases q with
  |none =>
   (repeat refine AW.seq_k fun K hK=>?_);refine AW.rg ?_;simp[hb6];try (refine hK _ rfl ?_;clear hK K)
   refine Ac.val hr ?_;simp[Fo,Cj];have hk2:=hk 2 hx0 S5;refine Ac.grant (R:=fun v y=>v=S5.av∧∃x',Gf x' 2∧y=⟨118,1,[x']⟩) c ⟨118,1,[x]⟩ (by simp[hb6]) (by simp) (hk2.mono fun v m ⟨h1,x',h2,h3⟩=>⟨_,⟨h1,x',h2,rfl⟩,h3⟩) ?_;rintro _ _ ⟨rfl,x',hx',rfl⟩;simp[hb6,Uz,Cj];refine hK _ rfl ?_;clear hK K;refine AW.ret (Cz (vs:=[Cj]) [Cj] c ⟨118,1,[x']⟩ (by simp[hb6,Cj]) (by simp[hb6]) (hone x' 2 hx') (Ba _ _ _) ⟨rfl,x',hx',rfl⟩)
  |some q =>
   (repeat refine AW.seq_k fun K hK=>?_);refine AW.rg ?_;simp[hb6];try (refine hK _ rfl ?_;clear hK K)
   refine Ac.val hr ?_;simp[Fo];have hk2:=hk 0 hx0 (Bd q);refine Ac.grant (R:=fun v y=>v=(Bd q).av∧∃x',Gf x' 0∧y=⟨118,1,[x']⟩) c ⟨118,1,[x]⟩ (by simp[hb6]) (by simp) (hk2.mono fun v m ⟨h1,x',h2,h3⟩=>⟨_,⟨h1,x',h2,rfl⟩,h3⟩) ?_;rintro _ _ ⟨rfl,x',hx',rfl⟩;simp[hb6];refine hK _ rfl ?_;clear hK K;refine AW.ret (Cz (vs:=[(Bd q).av]) [(Bd q).av] c ⟨118,1,[x']⟩ (by simp[hb6,RR.av]) (by simp[hb6]) (hone x' 0 hx') (Ba _ _ _) ⟨rfl,x',hx',rfl⟩)
 ·have e3:Cw e a (Gp a.q b.q)=(e,a):=if_neg he;rw[e3];unfold Lx;unfold RR.av;refine Ad Tryz.func145 rfl rfl 20 rfl (Nat.le_of_ble_eq_true rfl) ?_;(repeat refine AW.seq_k fun K hK=>?_);refine AW.rgR [4,5] ?_;simp[Ak];try (refine hK _ rfl ?_;clear hK K)
  refine Ai.intro fun b6 hb6=>?_;simp only[Ap,Az,and_true]at hb6;refine hK _ rfl ?_;clear hK K;(repeat refine AW.seq_k fun K hK=>?_);refine AW.rg ?_;simp[hb6,hx];try (refine hK _ rfl ?_;clear hK K)
  refine AW.yes ?_ (by simp[he]);(repeat refine AW.seq_k fun K hK=>?_);refine AW.rg ?_;simp[hb6];try (refine hK _ rfl ?_;clear hK K)
  refine AW.ret (Cz (vs:=[.agg [.bool a.n1,Al a.l1,.bool a.n2,Al a.l2]]) [.agg [.bool a.n1,Al a.l1,.bool a.n2,Al a.l2]] c ⟨118,1,[x]⟩ (by simp[hb6]) (by simp[hb6]) (hone x e hx0) (Ba _ _ _) ⟨rfl,x,hx0,rfl⟩)
end Go.Av
end
section
namespace Go.Av
open Go.Proofs
def P3 (n:Int):Rat:=Rat.divInt n 1
theorem Ir:P3 0=0:=Rat.zero_divInt 1
theorem Iv:P3 1=1:=by decide
theorem Us {n:Int} (h:n.natAbs<18446744073709551616):B2 (P3 n):=Gm (Sx h) (by decide) (by omega)
theorem Mg (n:Int) (h1:-9223372036854775808≤n) (h2:n<9223372036854775808):Aj Tryz.prog 152 [.int .i64 n] Aa.emp fun v m=>v=(Bd (P3 n)).av∧m=Aa.emp:=by
 have ho:=Qcv n 1 h1 h2 (by omega) (by omega) (by omega);have e:Rat.divInt n 1=P3 n:=rfl;rw[e,Fo]at ho;generalize P3 n=q at *;rw[H4];unfold Ju at *;refine Ad Tryz.func152 rfl rfl 11 rfl (Nat.le_of_ble_eq_true rfl) ?_;(repeat refine AW.seq_k fun K hK=>?_);refine AW.rg ?_;simp[Ak];try (refine hK _ rfl ?_;clear hK K)
 refine Ai.intro fun b2 _=>?_;refine hK _ rfl ?_;clear hK K;(repeat refine AW.seq_k fun K hK=>?_);refine AW.rg ?_;simp;try (refine hK _ rfl ?_;clear hK K)
 refine Ac.val ho ?_;simp;refine Ai.intro fun b3 hb3=>?_;simp only[Ap,Az,and_true]at hb3;try simp[hb3]
 refine hK _ rfl ?_;clear hK K;(repeat refine AW.seq_k fun K hK=>?_);refine AW.rg ?_;simp[hb3];try (refine hK _ rfl ?_;clear hK K)
 exact AW.ret (Ah (vs:=[.agg [.bool (decide (q.num<0)),Al (An q.num.natAbs),.bool false,Al (An q.den)]]) [.agg [.bool (decide (q.num<0)),Al (An q.num.natAbs),.bool false,Al (An q.den)]] (by simp[hb3]) (by simp) ⟨rfl,rfl⟩)
section
variable {P:Program} {av:Nat→Prop} {f:FuncId} {args:List AV} {m:Aa} {k:AV→Aa→Prop}
theorem Ac.make {R:Nat→AV→Es→Prop} (h:Aj P f args Aa.emp fun v m'=>∃b x,R b v x∧m'=Aa.emp.set b x) (hk:∀b v x,R b v x→m b=none→¬av b→k v (m.set b x)):Ac P av f args m k:=by
 refine .inl ⟨Aa.emp,_,fun c y hy=>(by cases hy),h,?_⟩;rintro v g' ⟨b,x,hr,rfl⟩ hf;have hb:=hf b (by simp);rcases hb with hb | ⟨h1,h2⟩
 ·exact absurd rfl hb
 ·have e:Ec m Aa.emp (Aa.emp.set b x)=m.set b x:=by
   funext c
   unfold Ec;simp only[A2,Az];by_cases hc:c=b
   ·simp[hc]
   ·simp[hc]
  rw[e];exact hk b v x hr h1 h2
end
def Qf0:AV:=.agg [.bool false,.nil,.bool false,.nil]
def Kc (l:List RR) (i n:Nat):List AV:=Cp (l.take i)++List.replicate (n-i) Qf0
theorem Rs (l:List RR) (n:Nat):Kc l 0 n=List.replicate n Qf0:=by simp[Kc]
theorem Ss (l:List RR):Kc l l.length l.length=Cp l:=by simp[Kc]
theorem R3 (l:List RR) (i:Nat) (h:i<l.length):(Kc l i l.length).set i (rr l i).av=Kc l (i+1) l.length:=by
 unfold Kc;have hl:(Cp (l.take i)).length=i:=by simp;omega
 rw[List.set_append_right _ _ (by omega),hl,Nat.sub_self,show l.length-i=(l.length-(i+1))+1 by omega,List.replicate_succ,List.set_cons_zero];have e:l.take (i+1)=l.take i++[l[i]]:=by rw[List.take_add_one,List.getElem?_eq_getElem h];rfl
 rw[e];simp only[Cp,List.map_append,List.append_assoc,List.map_cons,List.map_nil,List.cons_append,List.nil_append,Ll h]
@[simp] theorem fillL_get? {l:List RR} {i:Nat} (h:i<l.length):(Kc l i l.length)[i]?=some Qf0:=by
 unfold Kc;have hl:(Cp (l.take i)).length=i:=by simp;omega
 rw[List.getElem?_append_right (by omega),hl,Nat.sub_self,show l.length-i=(l.length-(i+1))+1 by omega,List.replicate_succ];rfl
theorem X3 (n:Nat) (hn:n<2^40):Aj Tryz.prog 109 [.int .i64 n] Aa.emp fun v m=>∃b x,(v=.osl b 4 0 n∧x=⟨44,4,Cp (List.replicate n (Bd 0))⟩)∧m=Aa.emp.set b x:=by
 have hw:=Mg 0 (by omega) (by omega);rw[Ir]at hw;generalize hl:List.replicate n (Bd 0)=l at *;have hlen:l.length=n:=by rw[←hl];simp
 have hget:∀i,i<n→rr l i=Bd 0:=by
  intro i hi;rw[Ll (by omega)];subst hl;simp
 generalize Bd 0=z at *;clear hl;subst hlen;refine Ad Tryz.func109 rfl rfl 18 rfl (Nat.le_of_ble_eq_true rfl) ?_;(repeat refine AW.seq_k fun K hK=>?_);refine AW.rg ?_;simp[Ak];try (refine hK _ rfl ?_;clear hK K)
 (repeat refine AW.seq_k fun K hK=>?_);refine AW.rg ?_;simp[-Int.natCast_mul];try (refine hK _ rfl ?_;clear hK K)
 refine⟨by omega,Ai.intro fun b _=>?_⟩;refine hK _ rfl ?_;clear hK K;refine AW.seq_has [(3,.osl b 4 0 l.length)] (Aa.emp.set b ⟨44,4,Cp l⟩) ?_ ?_
 ·(repeat refine AW.seq_k fun K hK=>?_);refine AW.rg ?_;simp;try (refine hK _ rfl ?_;clear hK K)
  refine AW.block (AW.loopS (ι:=Nat) (fun i=>[(3,.osl b 4 0 l.length),(8,.int .i64 (l.length:Nat)),(9,.int .i64 (i:Nat))]) (fun i=>Aa.emp.set b ⟨44,4,Kc l i l.length⟩)
   (fun i=>i≤l.length) (fun i=>l.length-i) 0 (by simp) (by rw[Rs];rfl) (by simp) ?_)
  intro i h1;(repeat refine AW.seq_k fun K hK=>?_);refine AW.rg ?_;simp;try (refine hK _ rfl ?_;clear hK K)
  refine AW.seq_k fun K hK=>?_;(repeat refine AW.seq ?_);refine AW.cs (fun hi=>?_) (fun hi=>?_) rfl<;>(try simp at hi)
  ·refine AW.skip ?_;try simp
   refine hK _ rfl ?_;clear hK K;have w1:=Aq (i+1) (by omega);(repeat refine AW.seq ?_);refine AW.block ?_;(repeat refine AW.seq_k fun K hK=>?_);refine AW.rg ?_;simp;try (refine hK _ rfl ?_;clear hK K)
   (repeat refine AW.seq_k fun K hK=>?_);refine AW.rg ?_;simp[hi];try (refine hK _ rfl ?_;clear hK K)
   refine Ac.val hw ?_;simp[hi,Qf0];rw[←hget i hi,R3 l i hi];(repeat refine AW.seq_k fun K hK=>?_);refine AW.rg ?_;simp[-Int.natCast_add,w1];try (refine hK _ rfl ?_;clear hK K)
   exact⟨i+1,hi,by omega,rfl,rfl⟩
  ·refine AW.exit ?_;try simp
   have:i=l.length:=by omega
   subst this;rw[Ss]
 (repeat refine AW.seq_k fun K hK=>?_);refine AW.rg ?_;simp;try (refine hK _ rfl ?_;clear hK K)
 exact AW.ret (Bx rfl (Q7 (Og l)) ⟨b,_,⟨rfl,rfl⟩,rfl⟩)
theorem Yc (l:List RR) (hl:∀x∈l,x.l1.length<2^40∧x.l2.length<2^40) (hn:l.length<2^40):Aj Tryz.prog 143 [A6 l] Aa.emp fun v m=>∃b x,(v=.osl b 4 0 l.length∧x=⟨44,4,Cp l⟩)∧m=Aa.emp.set b x:=by
 refine Ad Tryz.func143 rfl rfl 23 rfl (Nat.le_of_ble_eq_true rfl) ?_;(repeat refine AW.seq_k fun K hK=>?_);refine AW.rg ?_;simp[Ak];try (refine hK _ rfl ?_;clear hK K)
 (repeat refine AW.seq_k fun K hK=>?_);refine AW.rg ?_;simp[-Int.natCast_mul];try (refine hK _ rfl ?_;clear hK K)
 refine⟨by omega,Ai.intro fun b _=>?_⟩;refine hK _ rfl ?_;clear hK K;refine AW.seq_has [(3,.osl b 4 0 l.length)] (Aa.emp.set b ⟨44,4,Cp l⟩) ?_ ?_
 ·(repeat refine AW.seq_k fun K hK=>?_);refine AW.rg ?_;simp;try (refine hK _ rfl ?_;clear hK K)
  refine AW.block (AW.loopS (ι:=Nat) (fun i=>[(0,A6 l),(3,.osl b 4 0 l.length),(9,.int .i64 (l.length:Nat)),(10,.int .i64 (i:Nat))]) (fun i=>Aa.emp.set b ⟨44,4,Kc l i l.length⟩)
   (fun i=>i≤l.length) (fun i=>l.length-i) 0 (by simp) (by rw[Rs];rfl) (by simp) ?_)
  intro i h1;(repeat refine AW.seq_k fun K hK=>?_);refine AW.rg ?_;simp;try (refine hK _ rfl ?_;clear hK K)
  refine AW.seq_k fun K hK=>?_;(repeat refine AW.seq ?_);refine AW.cs (fun hi=>?_) (fun hi=>?_) rfl<;>(try simp at hi)
  ·refine AW.skip ?_;try simp
   refine hK _ rfl ?_;clear hK K;have w1:=Aq (i+1) (by omega);have hx:=hl (rr l i) (by rw[Ll hi];exact List.getElem_mem hi);have ho:=Qha (rr l i) hx.1 hx.2;(repeat refine AW.seq ?_);refine AW.block ?_;(repeat refine AW.seq_k fun K hK=>?_);refine AW.rg ?_;simp;try (refine hK _ rfl ?_;clear hK K)
   (repeat refine AW.seq_k fun K hK=>?_);refine AW.rg ?_;simp[hi];try (refine hK _ rfl ?_;clear hK K)
   refine Ac.val ho ?_;simp[hi,Qf0];rw[R3 l i hi];(repeat refine AW.seq_k fun K hK=>?_);refine AW.rg ?_;simp[-Int.natCast_add,w1];try (refine hK _ rfl ?_;clear hK K)
   exact⟨i+1,hi,by omega,rfl,rfl⟩
  ·refine AW.exit ?_;try simp
   have:i=l.length:=by omega
   subst this;rw[Ss]
 (repeat refine AW.seq_k fun K hK=>?_);refine AW.rg ?_;simp;try (refine hK _ rfl ?_;clear hK K)
 exact AW.ret (Bx rfl (Q7 (Og l)) ⟨b,_,⟨rfl,rfl⟩,rfl⟩)
end Go.Av
end
section
namespace Go.Av
open Go.Proofs
def Gi (bs:List Nat) (rows:List (List RR)):List AV:=List.zipWith (fun b (r:List RR)=>.osl b 4 0 r.length) bs rows
def nb (bs:List Nat) (i:Nat):Nat:=bs.getD i 0
theorem Iu {bs:List Nat} {i:Nat} (h:i<bs.length):nb bs i=bs[i]:=by unfold nb;rw[List.getD_eq_getElem?_getD,List.getElem?_eq_getElem h];rfl
theorem Ez {bs:List Nat} {i:Nat} (h:i<bs.length):nb bs i∈bs:=by rw[Iu h];exact List.getElem_mem h
theorem Ct {bs:List Nat} {rows:List (List RR)} (h:bs.length=rows.length):(Gi bs rows).length=rows.length:=by simp[Gi,h]
theorem hdrs_get? {bs:List Nat} {rows:List (List RR)} (h:bs.length=rows.length) {i:Nat} (hi:i<rows.length):(Gi bs rows)[i]?=some (.osl (nb bs i) 4 0 (Am rows i).length):=by
 unfold Gi;rw[List.getElem?_zipWith,List.getElem?_eq_getElem (by omega),List.getElem?_eq_getElem hi,Iu (by omega),Gc hi]
structure D9 (M:Aa) (B:Nat) (bs:List Nat) (rows:List (List RR)):Prop where
 top:M B=some ⟨51,1,Gi bs rows⟩
 len:bs.length=rows.length
 row:∀i,i<rows.length→M (nb bs i)=some ⟨44,4,Cp (Am rows i)⟩
 nd:bs.Nodup
 nB:B ∉ bs
theorem Qhz {bs:List Nat} (hnd:bs.Nodup) {i j:Nat} (hi:i<bs.length) (hj:j<bs.length) (h:nb bs i=nb bs j):i=j:=by
 rw[Iu hi,Iu hj]at h;exact(List.getElem_inj hnd).1 h
section
variable {M:Aa} {B:Nat} {bs:List Nat} {rows:List (List RR)}
theorem D9.ne (h:D9 M B bs rows) {i:Nat} (hi:i<rows.length):nb bs i≠B:=fun e=>h.nB (e ▸ Ez (by rw[h.len];exact hi))
theorem D9.get (h:D9 M B bs rows) {i:Nat} (hi:i<rows.length):(Gi bs rows)[i]?=some (.osl (nb bs i) 4 0 (Am rows i).length):=hdrs_get? h.len hi
theorem Qd0 {bs:List Nat} {rows:List (List RR)} (i:Nat) (r:List RR) (hr:r.length=(Am rows i).length):Gi bs (rows.set i r)=Gi bs rows:=by
 unfold Gi;refine List.ext_getElem? fun k=>?_;rw[List.getElem?_zipWith,List.getElem?_zipWith,List.getElem?_set];by_cases hk:i=k
 ·subst hk;rw[if_pos rfl];by_cases hi:i<rows.length
  ·rw[if_pos hi,List.getElem?_eq_getElem hi];cases bs[i]? with
   |none=>rfl
   |some b=>simp[hr,Gc hi]
  ·rw[if_neg hi,List.getElem?_eq_none (l:=rows) (by omega)]
 ·rw[if_neg hk]
theorem Hm {α:Type} {rows:List (List α)} {i:Nat} (hi:i<rows.length) (r:List α) (k:Nat):Am (rows.set i r) k=if k=i then r else Am rows k:=by
 unfold Am;rw[List.getD_eq_getElem?_getD,List.getElem?_set];by_cases h:i=k
 ·subst h;simp[hi]
 ·rw[if_neg h,if_neg (Ne.symm h),←List.getD_eq_getElem?_getD]
theorem D9.setRow (h:D9 M B bs rows) {i:Nat} (hi:i<rows.length) (r:List RR) (hr:r.length=(Am rows i).length):D9 (M.set (nb bs i) ⟨44,4,Cp r⟩) B bs (rows.set i r):=by
 refine⟨?_,by simpa using h.len,fun k hk=>?_,h.nd,h.nB⟩
 ·rw[Qd0 i r hr];simp only[A2];rw[if_neg (Ne.symm (h.ne hi))];exact h.top
 ·have hk':k<rows.length:=by simpa using hk
  simp only[A2];rw[Hm hi];by_cases hki:k=i
  ·subst hki;simp
  ·have:nb bs k≠nb bs i:=fun e=>hki (Qhz h.nd (by rw[h.len];exact hk') (by rw[h.len];exact hi) e);rw[if_neg this,if_neg hki];exact h.row k hk'
theorem D9.other (h:D9 M B bs rows) {c:Nat} (h1:c≠B) (h2:c ∉ bs) (x:Es):D9 (M.set c x) B bs rows:=by
 refine⟨?_,h.len,fun k hk=>?_,h.nd,h.nB⟩
 ·simp only[A2];rw[if_neg (Ne.symm h1)];exact h.top
 ·have:nb bs k≠c:=fun e=>h2 (e ▸ Ez (by rw[h.len];exact hk));simp only[A2];rw[if_neg this];exact h.row k hk
theorem Tw (bs:List Nat) (rows:List (List RR)):∀v∈Gi bs rows,v.cells.all AV.one=true:=by
 intro v hv;unfold Gi at hv;obtain⟨k,hk⟩:=List.getElem?_of_mem hv;rw[List.getElem?_zipWith]at hk;cases h1:bs[k]?<;>cases h2:rows[k]?<;>simp[h1,h2]at hk
 subst hk;rfl
theorem D9.view (h:D9 M B bs rows):Bw M Aa.emp (.osl B 1 0 rows.length) (A8 rows):=by
 refine .osl B 1 0 rows.length _ _ h.top rfl rfl (by simp) (by simp[Ct h.len]) fun k v v' h1 h2=>?_;simp only[Nat.zero_add]at h1;have hk:k<rows.length:=by
  have:=(List.getElem?_eq_some_iff.1 h2).1;simpa using this
 rw[h.get hk]at h1;rw[List.getElem?_map,List.getElem?_eq_getElem hk]at h2;cases h1;cases h2;rw[←Gc hk];refine .osl (nb bs k) 4 0 _ _ _ (h.row k hk) rfl rfl (by simp) (by simp) fun j u u' g1 g2=>?_;simp only[Nat.zero_add]at g1;rw[g1]at g2;cases g2;exact .same _
end
def Dq (M:Aa) (l:List Nat):Prop:=∀b,M b≠none→b∈l
theorem Dq.none {M:Aa} {l:List Nat} (h:Dq M l) {b:Nat} (hb:b ∉ l):M b=Option.none:=by
 cases hx:M b with
 |none=>rfl
 |some x=>exact absurd (h b (by rw[hx];simp)) hb
theorem D9.ones {M:Aa} {B:Nat} {bs:List Nat} {rows:List (List RR)} (h:D9 M B bs rows) {l:List Nat} (ho:Dq M (l++B::bs)) (hl:∀c∈l,∀x,M c=some x→∀v∈x.l,v.cells.all AV.one=true):∀(b:Nat) (x:Es),M b=some x→∀v∈x.l,v.cells.all AV.one=true:=by
 intro b x hx;have:=ho b (by rw[hx];simp);rcases List.mem_append.1 this with h1 | h1
 ·exact hl b h1 x hx
 ·rcases List.mem_cons.1 h1 with rfl|h1
  ·rw[h.top]at hx;cases hx;exact Tw bs rows
  ·obtain⟨i,hi⟩:=List.getElem?_of_mem h1;have hib:i<bs.length:=(List.getElem?_eq_some_iff.1 hi).1;have hir:i<rows.length:=by rw[←h.len];exact hib
   have e:nb bs i=b:=by rw[Iu hib];exact(List.getElem?_eq_some_iff.1 hi).2
   have:=h.row i hir;rw[e,hx]at this;cases this;exact Og _
structure Qd1 (M:Aa) (B:Nat) (bs:List Nat) (rows:List (List RR)) (k:Nat):Prop where
 top:M B=some ⟨51,1,Gi bs rows++List.replicate k AV.nil⟩
 len:bs.length=rows.length
 row:∀i,i<rows.length→M (nb bs i)=some ⟨44,4,Cp (Am rows i)⟩
 nd:bs.Nodup
 nB:B ∉ bs
 only:Dq M (B::bs)
theorem Ur {bs:List Nat} {rows:List (List RR)} (h:bs.length=rows.length) (b:Nat) (r:List RR):Gi (bs++[b]) (rows++[r])=Gi bs rows++[.osl b 4 0 r.length]:=by
 unfold Gi;rw[List.zipWith_append h];rfl
theorem Ud {α:Type} (rows:List (List α)) (r:List α) (i:Nat) (hi:i<rows.length+1):Am (rows++[r]) i=if i<rows.length then Am rows i else r:=by
 unfold Am;rw[List.getD_eq_getElem?_getD];by_cases h:i<rows.length
 ·rw[if_pos h,List.getElem?_append_left h,←List.getD_eq_getElem?_getD]
 ·rw[if_neg h,List.getElem?_append_right (by omega),show i-rows.length=0 by omega];rfl
theorem Qch (bs:List Nat) (b:Nat) (i:Nat) (hi:i<bs.length+1):nb (bs++[b]) i=if i<bs.length then nb bs i else b:=by
 unfold nb;rw[List.getD_eq_getElem?_getD];by_cases h:i<bs.length
 ·rw[if_pos h,List.getElem?_append_left h,←List.getD_eq_getElem?_getD]
 ·rw[if_neg h,List.getElem?_append_right (by omega),show i-bs.length=0 by omega];rfl
theorem Qd1.step {M:Aa} {B:Nat} {bs:List Nat} {rows:List (List RR)} {k:Nat} (h:Qd1 M B bs rows (k+1)) {b:Nat} (hb:M b=none) (r:List RR) :
  Qd1 ((M.set b ⟨44,4,Cp r⟩).set B ⟨51,1,(Gi bs rows++List.replicate (k+1) AV.nil).set rows.length (.osl b 4 0 r.length)⟩) B (bs++[b]) (rows++[r]) k:=by
 have hbB:b≠B:=by rintro rfl;rw[h.top]at hb;cases hb
 have hbb:b ∉ bs:=by
  intro hm;obtain⟨i,hi⟩:=List.getElem?_of_mem hm;have hib:i<bs.length:=(List.getElem?_eq_some_iff.1 hi).1;have e:nb bs i=b:=by rw[Iu hib];exact(List.getElem?_eq_some_iff.1 hi).2
  have:=h.row i (by rw[←h.len];exact hib);rw[e,hb]at this;cases this
 refine⟨?_,by simp[h.len],fun i hi=>?_,?_,?_,fun c hc=>?_⟩
 ·simp only[A2,if_true];rw[Ur h.len,List.set_append_right _ _ (by rw[Ct h.len];omega),Ct h.len,Nat.sub_self,List.replicate_succ,List.set_cons_zero];simp
 ·have hi':i<rows.length+1:=by simpa using hi
  rw[Qch bs b i (by rw[h.len];exact hi'),Ud rows r i hi',h.len];by_cases hlt:i<rows.length
  ·rw[if_pos hlt,if_pos hlt];have n1:nb bs i≠B:=fun e=>h.nB (e ▸ Ez (by rw[h.len];exact hlt));have n2:nb bs i≠b:=fun e=>hbb (e ▸ Ez (by rw[h.len];exact hlt));simp only[A2];rw[if_neg n1,if_neg n2];exact h.row i hlt
  ·rw[if_neg hlt,if_neg hlt];simp[hbB]
 ·rw[List.nodup_append];exact⟨h.nd,by simp,fun x hx y hy=>by simp at hy;subst hy;exact fun e=>hbb (e ▸ hx)⟩
 ·simp only[List.mem_append,List.mem_singleton,not_or];exact⟨h.nB,Ne.symm hbB⟩
 ·simp only[A2]at hc;by_cases h1:c=B
  ·simp[h1]
  ·rw[if_neg h1]at hc;by_cases h2:c=b
   ·simp[h2]
   ·rw[if_neg h2]at hc;have:=h.only c hc;simp at this ⊢;rcases this with h3 | h3
    ·exact absurd h3 h1
    ·exact .inr (.inl h3)
theorem Qd1.full {M:Aa} {B:Nat} {bs:List Nat} {rows:List (List RR)} (h:Qd1 M B bs rows 0):D9 M B bs rows∧Dq M (B::bs) :=
 ⟨⟨by rw[h.top];simp,h.len,h.row,h.nd,h.nB⟩,h.only⟩
def Qg1 (m:List (List RR)):Prop:=∀r∈m,∀x∈r,x.l1.length<2^40∧x.l2.length<2^40
theorem Qa5 (m:List (List RR)) (hs:Qg1 m) (h1:m.length<2^40) (h2:∀r∈m,r.length<2^40):Aj Tryz.prog 100 [A8 m] Aa.emp fun v M=>∃B bs,v=.osl B 1 0 m.length∧D9 M B bs m∧Dq M (B::bs):=by
 refine Ad Tryz.func100 rfl rfl 23 rfl (Nat.le_of_ble_eq_true rfl) ?_;(repeat refine AW.seq_k fun K hK=>?_);refine AW.rg ?_;simp[Ak];try (refine hK _ rfl ?_;clear hK K)
 (repeat refine AW.seq_k fun K hK=>?_);refine AW.rg ?_;simp;try (refine hK _ rfl ?_;clear hK K)
 refine⟨by omega,Ai.intro fun B _=>?_⟩;refine hK _ rfl ?_;clear hK K;refine AW.seq_ex (ι:=Aa × List Nat) (fun z=>[(3,.osl B 1 0 m.length)]) (fun z=>z.1) (fun z=>D9 z.1 B z.2 m∧Dq z.1 (B::z.2)) ?_ ?_
 ·(repeat refine AW.seq_k fun K hK=>?_);refine AW.rg ?_;simp;try (refine hK _ rfl ?_;clear hK K)
  refine AW.block (AW.loopS (ι:=Nat × Aa × List Nat) (fun z=>[(0,A8 m),(3,.osl B 1 0 m.length),(9,.int .i64 (m.length:Nat)),(10,.int .i64 (z.1:Nat))]) (fun z=>z.2.1)
   (fun z=>z.1≤m.length∧Qd1 z.2.1 B z.2.2 (m.take z.1) (m.length-z.1)) (fun z=>m.length-z.1) (0,Aa.emp.set B ⟨51,1,List.replicate m.length .nil⟩,[]) ⟨by simp,⟨by simp[Gi],rfl,fun i hi=>(by simp at hi),by simp,by simp,fun b hb=>by
    simp only[A2,Az]at hb;by_cases h:b=B
    ·simp[h]
    ·simp[h]at hb⟩⟩ rfl (by simp) ?_)
  rintro⟨i,M,bs⟩ ⟨g1,g2⟩;simp only at g1 g2;(repeat refine AW.seq_k fun K hK=>?_);refine AW.rg ?_;simp;try (refine hK _ rfl ?_;clear hK K)
  refine AW.seq_k fun K hK=>?_;(repeat refine AW.seq ?_);refine AW.cs (fun hi=>?_) (fun hi=>?_) rfl<;>(try simp at hi)
  ·refine AW.skip ?_;try simp
   refine hK _ rfl ?_;clear hK K;have w1:=Aq (i+1) (by omega);obtain⟨k,hk⟩:∃k,m.length-i=k+1:=⟨m.length-i-1,by omega⟩;rw[hk]at g2;have hmem:Am m i∈m:=by rw[Gc hi];exact List.getElem_mem hi
   have ho:=Yc (Am m i) (hs _ hmem) (h2 _ hmem);have htl:(m.take i).length=i:=by simp;omega
   have hlen:(Gi bs (m.take i)++List.replicate (k+1) AV.nil)[i]?=some .nil:=by
    rw[List.getElem?_append_right (by rw[Ct g2.len];omega),Ct g2.len,htl,Nat.sub_self];rfl
   (repeat refine AW.seq ?_);refine AW.block ?_;(repeat refine AW.seq_k fun K hK=>?_);refine AW.rg ?_;simp;try (refine hK _ rfl ?_;clear hK K)
   (repeat refine AW.seq_k fun K hK=>?_);refine AW.rg ?_;simp[hi];try (refine hK _ rfl ?_;clear hK K)
   refine Ac.make ho ?_;rintro b _ _ ⟨rfl,rfl⟩ hb _;have hbB:B≠b:=by rintro rfl;rw[g2.top]at hb;cases hb
   simp[hi,hbB,g2.top,hlen];have hst:=g2.step hb (Am m i);rw[htl]at hst;(repeat refine AW.seq_k fun K hK=>?_);refine AW.rg ?_;simp[-Int.natCast_add,w1];try (refine hK _ rfl ?_;clear hK K)
   refine⟨i+1,_,⟨hi,bs++[b],?_⟩,by omega,rfl,rfl⟩;have e:m.take (i+1)=m.take i++[Am m i]:=by rw[List.take_add_one,List.getElem?_eq_getElem hi,Gc hi];rfl
   rw[e,show m.length-(i+1)=k by omega];exact hst
  ·refine AW.exit ?_;try simp
   have:i=m.length:=by omega
   subst this;rw[Nat.sub_self,List.take_length]at g2;exact⟨bs,g2.full⟩
 rintro⟨M,bs⟩ ⟨g1,g2⟩;simp only at g1 g2;(repeat refine AW.seq_k fun K hK=>?_);refine AW.rg ?_;simp;try (refine hK _ rfl ?_;clear hK K)
 refine AW.ret (Bx rfl ?_ ⟨B,bs,rfl,g1,g2⟩);exact g1.ones (l:=[]) g2 (by simp)
end Go.Av
end
section
namespace Go.Av
open Go.Proofs
def Bc {α:Type} (f:Nat→α→Option α):Nat→α→Option α
 |0,s=>some s
 |n+1,s=>(Bc f n s).bind (f n)
theorem Ef {α:Type} (f:Nat→α→Option α) (n:Nat) (s:α):Bc f (n+1) s=(Bc f n s).bind (f n):=rfl
theorem R7 {α:Type} {f:Nat→α→Option α} {n:Nat} {s:α} (h:Bc f n s=none):∀k,Bc f (n+k) s=none
 |0=>h
 |k+1=>by rw[←Nat.add_assoc,Ef,R7 h k];rfl
theorem Yo {α:Type} {f:Nat→α→Option α} {n m:Nat} {s:α} (h:Bc f n s=none) (hm:n≤m):Bc f m s=none:=by
 have:=R7 h (m-n)
 rwa [Nat.add_sub_cancel' hm]at this
def Dw (r:List Rat) (i:Nat):Rat:=r.getD i 0
def I3 (M:List (List Rat)) (i j:Nat):Rat:=Dw (Am M i) j
def Cm (M:List (List Rat)):List (List RR):=M.map fun r=>r.map Bd
def Dz (M:List (List Rat)):Prop:=∀r∈M,∀q∈r,B2 q
def Dd {α:Type} (l:List (List α)) (i j:Nat):List (List α):=(l.set i (Am l j)).set j (Am l i)
def H0 (op:Rat→Nat→Option Rat) (k:Nat) (row:List Rat):Option (List Rat):=(op (Dw row k) k).map (row.set k)
def Cq (d:Rat):Nat→List Rat→Option (List Rat):=H0 fun q _=>Gp q d
def T6 (a f b:Rat):Option Rat:=(Er b f).bind (Di a)
def Ft (by_:List Rat) (f:Rat):Nat→List Rat→Option (List Rat):=H0 fun q k=>T6 q f (Dw by_ k)
def Cg (r j i:Nat) (M:List (List Rat)):Option (List (List Rat)) :=
 if i=r∨I3 M i j=0 then some M else (Bc (Ft (Am M r) (I3 M i j)) (Am M i).length (Am M i)).map (M.set i)
def J6 (M:List (List Rat)) (j r:Nat):Option (List (List Rat)) :=
 (Bc (Cq (I3 M r j)) (Am M r).length (Am M r)).bind fun row=>Bc (Cg r j) M.length (M.set r row)
def Qbo (M:List (List Rat)) (j r:Nat):Option Nat:=(List.range M.length).find? fun i=>decide (r≤i)&&!decide (I3 M i j=0)
def C9 (j:Nat) (z:List (List Rat) × List Nat):Option (List (List Rat) × List Nat) :=
 match Qbo z.1 j z.2.length with
 |none=>some z
 |some i=>(J6 (Dd z.1 i z.2.length) j z.2.length).map fun M=>(M,z.2++[j])
def Ge (M:List (List Rat)):Option (List (List Rat) × List Nat):=Bc C9 (Am M 0).length (M,[])
/-! ### The numbers in memory -/
theorem Bh (M:List (List Rat)):(Cm M).length=M.length:=by simp[Cm]
theorem Ce (M:List (List Rat)) (i:Nat):Am (Cm M) i=(Am M i).map Bd:=by
 unfold Am Cm;rw[List.getD_eq_getElem?_getD,List.getD_eq_getElem?_getD,List.getElem?_map];cases M[i]?<;>rfl
theorem Iy {r:List Rat} {i:Nat} (h:i<r.length):rr (r.map Bd) i=Bd (Dw r i):=by
 unfold rr Dw;rw[List.getD_eq_getElem?_getD,List.getD_eq_getElem?_getD,List.getElem?_map,List.getElem?_eq_getElem h];rfl
theorem Mt (M:List (List Rat)) (i:Nat) (r:List Rat):Cm (M.set i r)=(Cm M).set i (r.map Bd):=by simp[Cm,List.map_set]
theorem Xx (M:List (List Rat)) (i j:Nat):Cm (Dd M i j)=Dd (Cm M) i j:=by
 unfold Dd;rw[Mt,Mt,Ce,Ce]
theorem Dz.at {M:List (List Rat)} (h:Dz M) {i j:Nat} (hj:j<(Am M i).length):B2 (I3 M i j):=by
 unfold I3 Dw;have hi:i<M.length:=by
  rcases Nat.lt_or_ge i M.length with h|h
  ·exact h
  ·unfold Am at hj;rw[List.getD_eq_getElem?_getD,List.getElem?_eq_none h]at hj;simp at hj
 rw[List.getD_eq_getElem?_getD,List.getElem?_eq_getElem hj];refine h (Am M i) ?_ _ (List.getElem_mem hj);rw[Gc hi];exact List.getElem_mem hi
theorem Dz.set {M:List (List Rat)} (h:Dz M) (i:Nat) {r:List Rat} (hr:∀q∈r,B2 q):Dz (M.set i r):=by
 intro x hx q hq;rcases List.mem_or_eq_of_mem_set hx with h1 | rfl
 ·exact h x h1 q hq
 ·exact hr q hq
theorem Dz.row {M:List (List Rat)} (h:Dz M) (i:Nat):∀q∈Am M i,B2 q:=by
 intro q hq;unfold Am at hq;rw[List.getD_eq_getElem?_getD]at hq;cases hm:M[i]? with
 |none=>rw[hm]at hq;cases hq
 |some r=>rw[hm]at hq;exact h r (List.mem_of_getElem? hm) q hq
theorem Ym {r:List Rat} (h:∀q∈r,B2 q) (k:Nat) {x:Rat} (hx:B2 x):∀q∈r.set k x,B2 q:=by
 intro q hq;rcases List.mem_or_eq_of_mem_set hq with h1 | rfl
 ·exact h q h1
 ·exact hx
theorem Dz.swap {M:List (List Rat)} (h:Dz M) (i j:Nat):Dz (Dd M i j):=(h.set i (h.row j)).set j (h.row i)
def Jt {α:Type} (M:List (List α)) (w:Nat):Prop:=∀i,i<M.length→(Am M i).length=w
theorem Jt.set {α:Type} {M:List (List α)} {w:Nat} (h:Jt M w) {i:Nat} {r:List α} (hr:r.length=w):Jt (M.set i r) w:=by
 intro k hk;have hk':k<M.length:=by simpa using hk
 by_cases hi:i<M.length
 ·rw[Hm hi];split
  ·exact hr
  ·exact h k hk'
 ·rw[List.set_eq_of_length_le (by omega)];exact h k hk'
theorem Jt.swap {α:Type} {M:List (List α)} {w:Nat} (h:Jt M w) {i j:Nat} (hi:i<M.length) (hj:j<M.length):Jt (Dd M i j) w:=(h.set (h j hj)).set (h i hi)
theorem I0 {α:Type} (M:List (List α)) (i j:Nat):(Dd M i j).length=M.length:=by simp[Dd]
theorem Qcq {M:List (List Rat)} {w:Nat} (h:Jt M w):Jt (Cm M) w:=by
 intro i hi;rw[Ce,List.length_map];exact h i (by simpa[Cm]using hi)
theorem Vh (M:List (List Rat)):Zd (Cm M):=by
 intro r hr x hx;obtain⟨s,_,rfl⟩:=List.mem_map.1 hr;obtain⟨q,_,rfl⟩:=List.mem_map.1 hx;exact F7 q
theorem Zd.set {M:List (List RR)} (h:Zd M) (i:Nat) {r:List RR} (hr:∀x∈r,x.Lb):Zd (M.set i r):=by
 intro x hx q hq;rcases List.mem_or_eq_of_mem_set hx with h1 | rfl
 ·exact h x h1 q hq
 ·exact hr q hq
theorem Qqf {r:List RR} (h:∀x∈r,x.Lb) (k:Nat) {y:RR} (hy:y.Lb):∀x∈r.set k y,x.Lb:=by
 intro x hx;rcases List.mem_or_eq_of_mem_set hx with h1 | rfl
 ·exact h x h1
 ·exact hy
theorem Zd.swap {M:List (List RR)} (h:Zd M) (i j:Nat):Zd (Dd M i j):=(h.set i (h.row j)).set j (h.row i)
def Tc (e:Int) (rows:List (List RR)) (X:Option (List (List Rat))):Prop :=
 match X with
 |some M=>e=0∧rows=Cm M∧Dz M
 |none=>e=2
theorem Qhm {op:Rat→Nat→Option Rat} (hop:∀q k x,op q k=some x→B2 x) {X:Option (List (List Rat))} {n w r k:Nat} {e e':Int} {rows:List (List RR)} {y:RR} (hn:rows.length=n) (hr:r<n) (hd:Jt rows w) (hk:k<w)
  {Z:Option (List (List Rat) × List Rat)} (hZ:X=Z.map fun z=>z.1.set r z.2) (hM:Tc e rows X) (h1:e≠0→e'=e) (h2:e=0→match op (rr (Am rows r) k).q k with | some z=>e'=0∧y=Bd z | none=>e'=2) :
  Tc e' (rows.set r ((Am rows r).set k y)) (Z.bind fun z=>(H0 op k z.2).map fun row=>z.1.set r row):=by
 cases Z with
 |none =>
  subst hZ;have:e=2:=hM;exact(h1 (by omega)).trans this
 |some z =>
  subst hZ;obtain⟨M,row⟩:=z;obtain⟨m1,m2,m3⟩:e=0∧rows=Cm (M.set r row)∧Dz (M.set r row):=hM;have hMl:M.length=n:=by rw[m2]at hn;simpa[Cm]using hn
  have hrow:Am rows r=row.map Bd:=by rw[m2,Ce,Hm (by omega),if_pos rfl]
  have hkr:k<row.length:=by
   have:=hd r (by omega);rw[hrow,List.length_map]at this;omega
  have hq:(rr (Am rows r) k).q=Dw row k:=by rw[hrow,Iy hkr,Gu]
  have h2:=h2 m1;rw[hq]at h2;show Tc e' _ ((H0 op k row).map fun row=>M.set r row)
  unfold H0;cases ho:op (Dw row k) k with
  |none=>rw[ho]at h2;exact h2
  |some z =>
   rw[ho]at h2;obtain⟨e1,e2⟩:=h2;refine⟨e1,?_,?_⟩
   ·rw[e2,hrow,m2,Mt,Mt,List.set_set,List.map_set]
   ·have:=m3.set r (r:=row.set k z) (Ym (by have:=m3.row r;rwa [Hm (by omega),if_pos rfl]at this) k (hop _ _ _ ho))
    rwa [List.set_set]at this
theorem Me {q:Rat}:Qb7 q=0↔q=0:=by
 unfold Qb7;constructor
 ·intro h;split at h
  ·cases h
  ·split at h
   ·rename_i h2;exact Rat.num_eq_zero.1 h2
   ·cases h
 ·rintro rfl;rfl
def Qaq (rows:List (List RR)) (j r:Nat):Option Nat:=(List.range rows.length).find? fun i=>decide (r≤i)&&!decide (De (rr (Am rows i) j)=0)
theorem Q8 {α:Type} {p q:α→Bool}:∀{l:List α},(∀x∈l,p x=q x)→l.find? p=l.find? q
 |[],_=>rfl
 |a::l,h=>by
  rw[List.find?_cons,List.find?_cons,h a (by simp),Q8 fun x hx=>h x (by simp[hx])]
theorem Qgq {M:List (List Rat)} (hg:Dz M) {w j:Nat} (hd:Jt M w) (hj:j<w) (r:Nat):Qaq (Cm M) j r=Qbo M j r:=by
 unfold Qaq Qbo;rw[Bh];refine Q8 ?_;intro i hi;have hi':i<M.length:=List.mem_range.1 hi;have hl:j<(Am M i).length:=by rw[hd i hi'];exact hj
 rw[Ce,Iy hl,show Dw (Am M i) j=I3 M i j from rfl,N4 (hg.at hl)]
 congr 2
 simp only[Me]
theorem Qbs {n:Nat} {p:Nat→Bool} {i:Nat} (h:(List.range n).find? p=some i):i<n∧p i=true∧∀k,k<i→p k=false:=by
 rw[List.find?_range_eq_some]at h;exact⟨List.mem_range.1 h.2.1,h.1,fun k hk=>by simpa using h.2.2 k hk⟩
end Go.Av
end
section
namespace Go.Av
open Go.Proofs
section
variable {P:Program} {av:Nat→Prop} {f:FuncId} {args:List AV} {m:Aa} {k:AV→Aa→Prop}
def Aa.only (m:Aa) (l:List Nat):Aa:=fun b=>if b∈l then m b else none
def Aa.back (m:Aa) (l:List Nat) (g:Aa):Aa:=fun b=>match g b with
 |some x=>some x
 |none=>if b∈l then none else m b
theorem Bv {l:List Nat} {b:Nat} (h:b∈l):m.only l b=m b:=if_pos h
theorem Bp {l:List Nat} {b:Nat} (h:b ∉ l):m.only l b=none:=if_neg h
theorem Tt {l:List Nat} {g:Aa} {b:Nat} {x:Es} (h:g b=some x):m.back l g b=some x:=by unfold Aa.back;rw[h]
theorem He {l:List Nat} {g:Aa} {b:Nat} (h:g b=none) (hb:b ∉ l):m.back l g b=m b:=by unfold Aa.back;rw[h];exact if_neg hb
theorem Qcy {l:List Nat} {g:Aa} {b:Nat} (hb:b∈l):m.back l g b=g b:=by
 unfold Aa.back;cases h:g b with
 |none=>exact if_pos hb
 |some x=>rfl
theorem Ac.hand {R:AV→Aa→Prop} (l:List Nat) (hl:∀b∈l,¬av b) (h:Aj P f args (m.only l) R) (hk:∀v g,R v g→(∀b,g b≠none→b∈l∨(m b=none∧¬av b))→k v (m.back l g)):Ac P av f args m k:=by
 refine .inl ⟨m.only l,R,fun c y hy=>?_,h,?_⟩
 ·by_cases hc:c∈l
  ·rw[Bv hc]at hy;exact⟨hy,hl c hc⟩
  ·rw[Bp hc]at hy;cases hy
 ·intro v g hr hf;have e:Ec m (m.only l) g=m.back l g:=by
   funext c
   unfold Ec Aa.back;cases g c with
   |some x=>rfl
   |none =>
    by_cases hc:c∈l
    ·rw[Bv hc,if_pos hc];cases hm:m c<;>rfl
    ·rw[Bp hc,if_neg hc]
  rw[e];refine hk v g hr fun b hb=>?_;rcases hf b hb with h1 | h1
  ·by_cases hc:b∈l
   ·exact .inl hc
   ·exact absurd (Bp hc) h1
  ·exact .inr h1
end
theorem D9.only {M:Aa} {B:Nat} {bs:List Nat} {rows:List (List RR)} (h:D9 M B bs rows) {l:List Nat} (hl:∀b,b=B∨b∈bs→b∈l):D9 (M.only l) B bs rows :=
 ⟨by rw[Bv (hl B (.inl rfl))];exact h.top,h.len,fun i hi=>by rw[Bv (hl _ (.inr (Ez (by rw[h.len];exact hi))))];exact h.row i hi,h.nd,h.nB⟩
theorem Qaw (M:Aa) (l:List Nat):Dq (M.only l) l:=by
 intro b hb;rcases Classical.em (b∈l)with h | h
 ·exact h
 ·exact absurd (Bp h) hb
theorem D9.back {M g:Aa} {B:Nat} {bs:List Nat} {rows:List (List RR)} (h:D9 g B bs rows) (l:List Nat):D9 (M.back l g) B bs rows :=
 ⟨Tt h.top,h.len,fun i hi=>Tt (h.row i hi),h.nd,h.nB⟩
theorem Qe8 {M:Aa} {l:List Nat} (h:Dq M l):M.only l=M:=by
 funext b
 by_cases hb:b∈l
 ·exact Bv hb
 ·rw[Bp hb,h.none hb]
def Fg (bs:List Nat) (i r:Nat):List Nat:=(bs.set i (nb bs r)).set r (nb bs i)
theorem Qg4 {bs:List Nat} {i:Nat} (hi:i<bs.length) (b k:Nat):nb (bs.set i b) k=if k=i then b else nb bs k:=by
 unfold nb;rw[List.getD_eq_getElem?_getD,List.getElem?_set];by_cases h:i=k
 ·subst h;simp[hi]
 ·rw[if_neg h,if_neg (Ne.symm h),←List.getD_eq_getElem?_getD]
theorem Hr {bs:List Nat} {i r:Nat} (hi:i<bs.length) (hr:r<bs.length) (k:Nat):nb (Fg bs i r) k=if k=r then nb bs i else if k=i then nb bs r else nb bs k:=by
 unfold Fg;rw[Qg4 (by simpa using hr),Qg4 hi]
theorem K4 {α:Type} {rows:List (List α)} {i r:Nat} (hi:i<rows.length) (hr:r<rows.length) (k:Nat):Am (Dd rows i r) k=if k=r then Am rows i else if k=i then Am rows r else Am rows k:=by
 unfold Dd;rw[Hm (by simpa using hr),Hm hi]
theorem K7 {bs:List Nat} {i r:Nat} (hi:i<bs.length) (hr:r<bs.length) (b:Nat):b∈Fg bs i r↔b∈bs:=by
 have hl:(Fg bs i r).length=bs.length:=by simp[Fg]
 constructor
 ·intro h;obtain⟨k,hk,e⟩:=List.mem_iff_getElem.1 h;rw[←e,←Iu hk,Hr hi hr];rw[hl]at hk;split
  ·exact Ez hi
  ·split
   ·exact Ez hr
   ·exact Ez hk
 ·intro h;obtain⟨k,hk,e⟩:=List.mem_iff_getElem.1 h;rw[←e,←Iu hk];have key:∀k',k'<bs.length→nb (Fg bs i r) k'∈Fg bs i r:=fun k' h'=>Ez (by rw[hl];exact h');by_cases h1:k=i
  ·have:=key r hr;rw[Hr hi hr,if_pos rfl]at this;rw[h1];exact this
  ·by_cases h2:k=r
   ·have:=key i hi;rw[Hr hi hr]at this;rw[h2];by_cases h3:i=r
    ·rw[if_pos h3]at this;rw[←h3];rw[←h3]at this;exact this
    ·rw[if_neg h3,if_pos rfl]at this;exact this
   ·have:=key k hk
    rwa [Hr hi hr,if_neg h2,if_neg h1]at this
theorem Qfd {bs:List Nat} {i r:Nat} (hi:i<bs.length) (hr:r<bs.length) (h:bs.Nodup):(Fg bs i r).Nodup:=by
 have hl:(Fg bs i r).length=bs.length:=by simp[Fg]
 unfold List.Nodup;rw[List.pairwise_iff_getElem];intro x y hx hy hxy;rw[←Iu hx,←Iu hy,Hr hi hr,Hr hi hr];rw[hl]at hy hx;intro e;have inj:∀{a b},a<bs.length→b<bs.length→nb bs a=nb bs b→a=b:=fun ha hb=>Qhz h ha hb;split at e<;>split at e<;>(try split at e)<;>(try split at e)<;>have:=inj (by omega) (by omega) e<;>omega
theorem Qdt {bs:List Nat} {rows:List (List RR)} (h:bs.length=rows.length) {i r:Nat} (hi:i<rows.length) (hr:r<rows.length) :
  ((Gi bs rows).set i (.osl (nb bs r) 4 0 (Am rows r).length)).set r (.osl (nb bs i) 4 0 (Am rows i).length)=Gi (Fg bs i r) (Dd rows i r):=by
 have hl:(Fg bs i r).length=(Dd rows i r).length:=by simp[Fg,Dd,h]
 have h0:(Dd rows i r).length=rows.length:=I0 _ _ _;refine List.ext_getElem? fun k=>?_;by_cases hk:k<rows.length
 ·rw[hdrs_get? hl (by rw[h0];exact hk),Hr (by omega) (by omega),K4 hi hr,List.getElem?_set,List.getElem?_set,hdrs_get? h hk];have e:=Ct h;simp only[List.length_set,e,hi,hr,if_true];by_cases h1:r=k
  ·subst h1;simp
  ·rw[if_neg h1,if_neg (Ne.symm h1),if_neg (Ne.symm h1)];by_cases h2:i=k
   ·subst h2;simp
   ·rw[if_neg h2,if_neg (Ne.symm h2),if_neg (Ne.symm h2)]
 ·rw[List.getElem?_eq_none (by simp[Ct h];omega),List.getElem?_eq_none (by rw[Ct hl,h0];omega)]
theorem D9.swap {M:Aa} {B:Nat} {bs:List Nat} {rows:List (List RR)} (h:D9 M B bs rows) {i r:Nat} (hi:i<rows.length) (hr:r<rows.length) :
  D9 (M.set B ⟨51,1,((Gi bs rows).set i (.osl (nb bs r) 4 0 (Am rows r).length)).set r (.osl (nb bs i) 4 0 (Am rows i).length)⟩) B (Fg bs i r) (Dd rows i r):=by
 have h0:(Dd rows i r).length=rows.length:=I0 _ _ _;have hi':i<bs.length:=by rw[h.len];exact hi
 have hr':r<bs.length:=by rw[h.len];exact hr
 refine⟨by rw[Qdt h.len hi hr];simp,by rw[h0,←h.len];simp[Fg],fun k hk=>?_,Qfd hi' hr' h.nd,fun hm=>h.nB ((K7 hi' hr' B).1 hm)⟩;rw[h0]at hk;rw[Hr hi' hr',K4 hi hr];have key:∀k,k<rows.length→(M.set B ⟨51,1,((Gi bs rows).set i (.osl (nb bs r) 4 0 (Am rows r).length)).set r (.osl (nb bs i) 4 0 (Am rows i).length)⟩) (nb bs k)=some ⟨44,4,Cp (Am rows k)⟩:=fun k hk=>by
  simp only[A2];rw[if_neg (h.ne hk)];exact h.row k hk
 split
 ·exact key i hi
 ·split
  ·exact key r hr
  ·exact key k hk
attribute [simp high] rrs_get?
theorem Dq.set {M:Aa} {l:List Nat} (h:Dq M l) {b:Nat} (hb:b∈l) (x:Es):Dq (M.set b x) l:=by
 intro c hc;simp only[A2]at hc;by_cases e:c=b
 ·rw[e];exact hb
 ·rw[if_neg e]at hc;exact h c hc
theorem Dq.sub {M:Aa} {l l':List Nat} (h:Dq M l) (hs:∀b∈l,b∈l'):Dq M l':=fun c hc=>hs c (h c hc)
theorem Qeg {rows:List (List RR)} {j r:Nat} (h:∀k,r≤k→k<rows.length→De (rr (Am rows k) j)=0):Qaq rows j r=none:=by
 unfold Qaq;rw[List.find?_eq_none];intro k hk;have hk:=List.mem_range.1 hk;by_cases hr:r≤k
 ·simp[h k hr hk]
 ·simp[hr]
theorem Qde {rows:List (List RR)} {j r i:Nat} (h:∀k,r≤k→k<i→De (rr (Am rows k) j)=0) (hr:r≤i) (hi:i<rows.length) (hs:¬De (rr (Am rows i) j)=0):Qaq rows j r=some i:=by
 unfold Qaq;rw[List.find?_range_eq_some];refine⟨by simp[hr,hs],List.mem_range.2 hi,fun k hk=>?_⟩;by_cases hrk:r≤k
 ·simp[h k hrk hk]
 ·simp[hrk]
def Ux (M:Aa) (B:Nat) (bs:List Nat) (rows:List (List RR)) (j r:Nat) (v:AV) (M':Aa):Prop :=
 match Qaq rows j r with
 |none=>v=.tup [.bool false,.bool false]∧M'=M
 |some i=>v=.tup [.bool true,.bool (decide (i≠r))]∧D9 M' B (Fg bs i r) (Dd rows i r)∧Dq M' (B::bs)
theorem Qa6 (M:Aa) (B:Nat) (bs:List Nat) (rows:List (List RR)) (hM:D9 M B bs rows) (hO:Dq M (B::bs)) (hlb:Zd rows) (w j r:Nat) (hd:Jt rows w) (hj:j<w) (h1:rows.length<2^40) (h2:w<2^40) (h3:r<2^40) :
  Aj Tryz.prog 144 [.osl B 1 0 rows.length,.int .i64 j,.int .i64 r] M (Ux M B bs rows j r):=by
 have hones:=hM.ones (l:=[]) hO (by simp);refine Ad Tryz.func144 rfl rfl 42 rfl (Nat.le_of_ble_eq_true rfl) ?_;(repeat refine AW.seq_k fun K hK=>?_);refine AW.rg ?_;simp[Ak];try (refine hK _ rfl ?_;clear hK K)
 refine AW.scope (AW.seq (AW.label ?_));intro _;refine AW.seq_ex (ι:=Unit) (fun _=>[]) (fun _=>M) (fun _=>∀k,r≤k→k<rows.length→De (rr (Am rows k) j)=0) ?_ ?_
 ·(repeat refine AW.seq_k fun K hK=>?_);refine AW.rg ?_;simp;try (refine hK _ rfl ?_;clear hK K)
  refine AW.block (AW.loopS (ι:=Nat) (fun i=>[(0,.osl B 1 0 rows.length),(1,.int .i64 j),(2,.int .i64 r),(8,.int .i64 (i:Nat))]) (fun _=>M) (fun i=>r≤i∧∀k,r≤k→k<i→De (rr (Am rows k) j)=0) (fun i=>rows.length-i) r ⟨by omega,by omega⟩ rfl (by simp) ?_);rintro i ⟨g1,g2⟩;(repeat refine AW.seq_k fun K hK=>?_);refine AW.rg ?_;simp;try (refine hK _ rfl ?_;clear hK K)
  (repeat refine AW.seq ?_);refine AW.cs (fun hi=>?_) (fun hi=>?_) rfl<;>(try simp at hi)
  ·refine AW.skip ?_;try simp
   refine hK _ rfl ?_;clear hK K;have w1:=Aq (i+1) (by omega);have hri:r<rows.length:=by omega
   have hwi:=hd i hi;refine AW.seq_ex (ι:=Unit) (fun _=>[(0,.osl B 1 0 rows.length),(1,.int .i64 j),(2,.int .i64 r),(8,.int .i64 (i:Nat))]) (fun _=>M) (fun _=>De (rr (Am rows i) j)=0) ?_ ?_
   ·(repeat refine AW.seq ?_);refine AW.block ?_;have hs:=Mh (rr (Am rows i) j) (Lq (hlb.row i) j);refine AW.seq_ex (ι:=Unit) (fun _=>[(0,.osl B 1 0 rows.length),(1,.int .i64 j),(2,.int .i64 r),(8,.int .i64 (i:Nat))]) (fun _=>M) (fun _=>¬De (rr (Am rows i) j)=0) ?_ ?_
    ·(repeat refine AW.seq_k fun K hK=>?_);refine AW.rg ?_;simp[hi,hM.top,↓hM.get hi,hM.row i hi,hwi,hj];try (refine hK _ rfl ?_;clear hK K)
     refine Ac.val hs ?_;simp;refine hK _ rfl ?_;clear hK K;(repeat refine AW.seq ?_);refine AW.cs (fun h0=>?_) (fun h0=>?_) rfl<;>(try simp at h0)
     ·refine AW.exit ?_;try simp
      exact h0
     ·refine AW.skip ?_;try simp
      exact h0
    rintro _ h0;(repeat refine AW.seq_k fun K hK=>?_);refine AW.rdA B [0,1,2,3,4,5,6,7,8,9,10,11,12,13,14,15] Dm (by simp[hi,hri,hM.top,↓hM.get hi,↓hM.get hri,Ct hM.len]) ?_;simp[hi,hri,hM.top,↓hM.get hi,↓hM.get hri,Ct hM.len];try (refine hK _ rfl ?_;clear hK K)
    (repeat refine AW.seq_k fun K hK=>?_);refine AW.rg ?_;simp;try (refine hK _ rfl ?_;clear hK K)
    have hO':Dq (M.set B ⟨51,1,((Gi bs rows).set i (.osl (nb bs r) 4 0 (Am rows r).length)).set r (.osl (nb bs i) 4 0 (Am rows i).length)⟩) (B::bs):=hO.set (by simp) _;have hb:∀b,b∈B::Fg bs i r↔b∈B::bs:=fun b=>by simp[K7 (bs:=bs) (i:=i) (r:=r) (by rw[hM.len];exact hi) (by rw[hM.len];exact hri) b]
    refine AW.ret (Bx rfl ?_ ?_)
    ·exact(hM.swap hi hri).ones (l:=[]) (hO'.sub fun b h=>(hb b).2 h) (by simp)
    ·unfold Ux;rw[Qde g2 g1 hi h0];refine⟨?_,hM.swap hi hri,hO'⟩;by_cases e:i=r
     ·simp[e]
     ·simp[e]
   ·rintro _ h0;(repeat refine AW.seq_k fun K hK=>?_);refine AW.rg ?_;simp[-Int.natCast_add,w1];try (refine hK _ rfl ?_;clear hK K)
    refine⟨⟨by omega,fun k hk1 hk2=>?_⟩,by omega⟩;rcases Nat.lt_succ_iff_lt_or_eq.1 hk2 with h | rfl
    ·exact g2 k hk1 h
    ·exact h0
  ·refine AW.exit ?_;try simp
   exact fun k a b=>g2 k a (by omega)
 rintro _ hno;(repeat refine AW.seq_k fun K hK=>?_);refine AW.rg ?_;simp;try (refine hK _ rfl ?_;clear hK K)
 refine AW.ret (Bx rfl hones ?_);unfold Ux;rw[Qeg hno];exact⟨rfl,rfl⟩
end Go.Av
end
section
namespace Go.Av
open Go.Proofs
theorem Bl.sub {m m':Aa} (h:∀b x,m' b=some x→m b=some x∧∀v∈x.l,v.cells.all AV.one=true):Bl m m':=by
 refine⟨fun c y hy=>⟨y,(h c y hy).1,rfl,rfl,rfl,fun k v v' q1 q2=>?_⟩⟩;rw[q1]at q2;cases q2;exact⟨.same _,(h c y hy).2 v (List.mem_of_getElem? q1)⟩
theorem Bl.drop {m:Aa} {b:Nat} {x:Es} (hb:m b=none) (h1:∀c y,m c=some y→∀v∈y.l,v.cells.all AV.one=true):Bl (m.set b x) m :=
 Bl.sub fun c y hy=>⟨by
  simp only[A2];rw[if_neg (by rintro rfl;rw[hb]at hy;cases hy)];exact hy,h1 c y hy⟩
theorem Kv {M:Aa} {b z:Nat} {e:TypeId} {cs:List AV} (hb:M b=none):Bw (M.set b ⟨e,z,[.agg cs]⟩) M (.ptr b z 0 0) (.rptr cs) :=
 Bw.ptr b z 0 0 ⟨e,z,[.agg cs]⟩ (.agg cs) (Aa.set_same _ _ _) hb rfl rfl
section
variable {av:Nat→Prop} {m:Aa} {k:AV→Aa→Prop} {c:Nat} {x:AV} {e:Int} {a b:RR}
theorem Qfj (hc:m c=some ⟨118,1,[x]⟩) (hv:¬av c) (hx:Gf x e) (ha:a.Lb) (hb:b.Lb) (h:e=0→a.ok=true∧b.ok=true) (hk:∀x',Gf x' (Cw e a (Di a.q b.q)).1→k (Cw e a (Di a.q b.q)).2.av (m.set c ⟨118,1,[x']⟩)):Ac Tryz.prog av 146 [.ptr c 1 0 0,a.av,b.av] m k :=
 Ac.grant (R:=fun v y=>v=(Cw e a (Di a.q b.q)).2.av∧∃x',Gf x' (Cw e a (Di a.q b.q)).1∧y=⟨118,1,[x']⟩) c _ hc hv ((Qe4 c x e hx a b ha hb h).mono fun v m ⟨h1,x',h2,h3⟩=>⟨_,⟨h1,x',h2,rfl⟩,h3⟩) (by rintro _ _ ⟨rfl,x',hx',rfl⟩;exact hk x' hx')
theorem Qox (hc:m c=some ⟨118,1,[x]⟩) (hv:¬av c) (hx:Gf x e) (ha:a.Lb) (hb:b.Lb) (h:e=0→a.ok=true∧b.ok=true) (hk:∀x',Gf x' (Cw e a (Er a.q b.q)).1→k (Cw e a (Er a.q b.q)).2.av (m.set c ⟨118,1,[x']⟩)):Ac Tryz.prog av 111 [.ptr c 1 0 0,a.av,b.av] m k :=
 Ac.grant (R:=fun v y=>v=(Cw e a (Er a.q b.q)).2.av∧∃x',Gf x' (Cw e a (Er a.q b.q)).1∧y=⟨118,1,[x']⟩) c _ hc hv ((Qd8 c x e hx a b ha hb h).mono fun v m ⟨h1,x',h2,h3⟩=>⟨_,⟨h1,x',h2,rfl⟩,h3⟩) (by rintro _ _ ⟨rfl,x',hx',rfl⟩;exact hk x' hx')
theorem Qp4 (hc:m c=some ⟨118,1,[x]⟩) (hv:¬av c) (hx:Gf x e) (ha:a.Lb) (hb:b.Lb) (h:e=0→a.ok=true∧b.ok=true∧b.q≠0) (hk:∀x',Gf x' (Cw e a (Gp a.q b.q)).1→k (Cw e a (Gp a.q b.q)).2.av (m.set c ⟨118,1,[x']⟩)):Ac Tryz.prog av 145 [.ptr c 1 0 0,a.av,b.av] m k :=
 Ac.grant (R:=fun v y=>v=(Cw e a (Gp a.q b.q)).2.av∧∃x',Gf x' (Cw e a (Gp a.q b.q)).1∧y=⟨118,1,[x']⟩) c _ hc hv ((Qes c x e hx a b ha hb h).mono fun v m ⟨h1,x',h2,h3⟩=>⟨_,⟨h1,x',h2,rfl⟩,h3⟩) (by rintro _ _ ⟨rfl,x',hx',rfl⟩;exact hk x' hx')
end
theorem V0 {e:Int} {rows:List (List RR)} {Z:Option (List (List Rat))} (h:Tc e rows Z) (he:e=0) {i j:Nat} (hj:j<(Am rows i).length):(rr (Am rows i) j).ok=true:=by
 cases Z with
 |none=>have:e=2:=h;omega
 |some M =>
  obtain⟨_,m2,m3⟩:e=0∧rows=Cm M∧Dz M:=h;subst m2;rw[Ce,List.length_map]at hj;rw[Ce,Iy hj];exact Ew (m3.at hj)
theorem Ky {e:Int} {a:RR} {q:Option Rat} (h:e≠0):Cw e a q=(e,a):=if_neg h
theorem Qct {e:Int} {a:RR} {q:Option Rat} (h:e=0):match q with | some z=>(Cw e a q).1=0∧(Cw e a q).2=Bd z | none=>(Cw e a q).1=2:=by
 unfold Cw;rw[if_pos h];cases q with
 |none=>rfl
 |some z=>exact⟨rfl,rfl⟩
theorem N3 {e:Int} {a:RR} (h:e=0):Cw e a none=(2,S5):=if_pos h
theorem Kx {e:Int} {a:RR} {z:Rat} (h:e=0):Cw e a (some z)=(0,Bd z):=if_pos h
def Ao (l:List Nat):List AV:=l.map fun p=>.int .i64 (p:Nat)
@[simp] theorem Jy (l:List Nat):(Ao l).length=l.length:=by simp[Ao]
theorem Ch (l:List Nat):∀v∈Ao l,v.cells.all AV.one=true:=by
 intro v hv;obtain⟨p,_,rfl⟩:=List.mem_map.1 hv;rfl
theorem D2 (l:List Nat) (p:Nat):Ao (l++[p])=Ao l++[.int .i64 (p:Nat)]:=by simp[Ao]
def Vk (M:Aa) (pv:AV) (pb ps:List Nat):Prop :=
 (ps=[]∧pb=[]∧pv=.nil)∨∃b,pb=[b]∧pv=.osl b 1 0 ps.length∧M b=some ⟨3,1,Ao ps⟩
theorem Vk.keep {M M':Aa} {pv:AV} {pb ps:List Nat} (h:Vk M pv pb ps) (hm:∀b∈pb,M' b=M b):Vk M' pv pb ps:=by
 rcases h with h|⟨b,h1,h2,h3⟩
 ·exact .inl h
 ·exact .inr ⟨b,h1,h2,by rw[hm b (by simp[h1])];exact h3⟩
theorem Vk.len {M:Aa} {pv:AV} {pb ps:List Nat} (h:Vk M pv pb ps) (size bytes:Nat) (e:TypeId) (zero:AV) (fs:List (Nat × Nat × Option Bool)):Jr ⟨size,bytes,.slice e,zero,fs⟩ pv=some (.int .i64 ps.length):=by
 rcases h with⟨rfl,_,rfl⟩|⟨b,_,rfl,_⟩
 ·simp
 ·simp
theorem Vk.view {M:Aa} {pv:AV} {pb ps:List Nat} (h:Vk M pv pb ps):Bw M Aa.emp pv (.sl 1 (Ao ps)):=by
 rcases h with⟨rfl,_,rfl⟩|⟨b,_,rfl,h⟩
 ·exact .nilsl 1
 ·refine .osl b 1 0 ps.length _ _ h rfl rfl (by simp) (by simp) fun j u u' g1 g2=>?_;simp only[Nat.zero_add]at g1;rw[g1]at g2;cases g2;exact .same _
structure Dj (M:Aa) (c B:Nat) (bs:List Nat) (rows:List (List RR)) (x pv:AV) (pb ps:List Nat):Prop where
 mat:D9 M B bs rows
 cell:M c=some ⟨118,1,[x]⟩
 piv:Vk M pv pb ps
 only:Dq M (c::B::(bs++pb))
 cB:c≠B
 cb:c ∉ bs
 pB:B ∉ pb
 pc:c ∉ pb
 pd:∀b∈pb,b ∉ bs
section
variable {M:Aa} {c B:Nat} {bs:List Nat} {rows:List (List RR)} {x pv:AV} {pb ps:List Nat}
theorem Qbz {x:AV} {e:Int} (h:Gf x e):x.cells.all AV.one=true:=by unfold Gf at h;rw[h];rfl
theorem Dj.nc (h:Dj M c B bs rows x pv pb ps) {i:Nat} (hi:i<rows.length):nb bs i≠c:=fun e=>h.cb (e ▸ Ez (by rw[h.mat.len];exact hi))
theorem Dj.np (h:Dj M c B bs rows x pv pb ps) {i:Nat} (hi:i<rows.length):nb bs i ∉ pb:=fun e=>h.pd _ e (Ez (by rw[h.mat.len];exact hi))
theorem Dj.setE (h:Dj M c B bs rows x pv pb ps) (x':AV):Dj (M.set c ⟨118,1,[x']⟩) c B bs rows x' pv pb ps :=
 ⟨h.mat.other h.cB h.cb _,by simp,h.piv.keep fun b hb=>by simp only[A2];rw[if_neg (by rintro rfl;exact h.pc hb)],h.only.set (by simp) _,h.cB,h.cb,h.pB,h.pc,h.pd⟩
theorem Dj.setRow (h:Dj M c B bs rows x pv pb ps) {i:Nat} (hi:i<rows.length) (r:List RR) (hr:r.length=(Am rows i).length):Dj (M.set (nb bs i) ⟨44,4,Cp r⟩) c B bs (rows.set i r) x pv pb ps :=
 ⟨h.mat.setRow hi r hr,by simp only[A2];rw[if_neg (Ne.symm (h.nc hi))];exact h.cell,h.piv.keep fun b hb=>by simp only[A2];rw[if_neg (by rintro rfl;exact h.np hi hb)],
  h.only.set (by simp[Ez (show i<bs.length by rw[h.mat.len];exact hi)]) _,h.cB,h.cb,h.pB,h.pc,h.pd⟩
theorem Dj.ones (h:Dj M c B bs rows x pv pb ps) {e:Int} (hx:Gf x e):∀(b:Nat) (y:Es),M b=some y→∀v∈y.l,v.cells.all AV.one=true:=by
 refine h.mat.ones (l:=c::pb) (h.only.sub fun b hb=>by simp at hb ⊢;rcases hb with h | h | h | h<;>simp[h]) fun b hb y hy=>?_
 rcases List.mem_cons.1 hb with rfl|hb
 ·rw[h.cell]at hy;cases hy;intro v hv;simp at hv;subst hv;exact Qbz hx
 ·rcases h.piv with⟨_,h1,_⟩|⟨b',h1,_,h3⟩
  ·rw[h1]at hb;cases hb
  ·rw[h1]at hb;simp at hb;subst hb;rw[h3]at hy;cases hy;exact Ch ps
theorem Dj.back (h:Dj M c B bs rows x pv pb ps) {g:Aa} {bs':List Nat} {rows':List (List RR)} (hg:D9 g B bs' rows') (ho:Dq g (B::bs)) (hb:∀b,b∈bs'↔b∈bs):Dj (M.back (B::bs) g) c B bs' rows' x pv pb ps:=by
 have hout:∀b,b ∉ B::bs→(M.back (B::bs) g) b=M b:=fun b hb=>He (ho.none hb) hb;refine⟨hg.back _,by rw[hout c (by simp[h.cB,h.cb])];exact h.cell,h.piv.keep fun b hb'=>hout b ?_,fun b hb'=>?_,h.cB,fun hh=>h.cb ((hb _).1 hh),h.pB,h.pc,fun b h1 h2=>h.pd b h1 ((hb _).1 h2)⟩
 ·simp only[List.mem_cons,not_or];exact⟨by rintro rfl;exact h.pB hb',h.pd b hb'⟩
 ·by_cases hm:b∈B::bs
  ·simp only[List.mem_cons,List.mem_append,hb]at hm ⊢;rcases hm with h | h<;>simp[h]
  ·rw[hout b hm]at hb';have:=h.only b hb';simp only[List.mem_cons,List.mem_append,hb]at this ⊢;exact this
theorem Dj.matOnly (h:Dj M c B bs rows x pv pb ps):D9 (M.only (B::bs)) B bs rows∧Dq (M.only (B::bs)) (B::bs) :=
 ⟨h.mat.only fun b hb=>by simpa using hb,Qaw _ _⟩
theorem Dj.fresh (h:Dj M c B bs rows x pv pb ps) {b:Nat} (hb:M b=none):b≠c∧b≠B∧b ∉ bs∧b ∉ pb:=by
 refine⟨(by rintro rfl;rw[h.cell]at hb;cases hb),(by rintro rfl;rw[h.mat.top]at hb;cases hb),fun hm=>?_,fun hm=>?_⟩
 ·obtain⟨i,hi,e⟩:=List.mem_iff_getElem.1 hm;rw[←Iu hi]at e;have:=h.mat.row i (by rw[←h.mat.len];exact hi);rw[e,hb]at this;cases this
 ·rcases h.piv with⟨_,h1,_⟩|⟨b',h1,_,h3⟩
  ·rw[h1]at hm;cases hm
  ·rw[h1]at hm;simp at hm;subst hm;rw[h3]at hb;cases hb
theorem Dj.push0 (h:Dj M c B bs rows x .nil [] []) {b:Nat} (hb:M b=none) (j:Nat):Dj (M.set b ⟨3,1,[.int .i64 (j:Nat)]⟩) c B bs rows x (.osl b 1 0 1) [b] [j]:=by
 obtain⟨f1,f2,f3,_⟩:=h.fresh hb;refine⟨h.mat.other f2 f3 _,by simp only[A2];rw[if_neg (Ne.symm f1)];exact h.cell,.inr ⟨b,rfl,rfl,by simp[Ao]⟩,?_,h.cB,h.cb,by simpa using Ne.symm f2,by simpa using Ne.symm f1,by simpa using f3⟩;exact(h.only.sub fun a ha=>by simp at ha ⊢;rcases ha with h | h | h<;>simp[h]).set (by simp) _
theorem Dj.push1 {b0:Nat} (h:Dj M c B bs rows x (.osl b0 1 0 ps.length) [b0] ps) {b:Nat} (hb:(M.del b0) b=none) (j:Nat):Dj ((M.del b0).set b ⟨3,1,Ao ps++[.int .i64 (j:Nat)]⟩) c B bs rows x (.osl b 1 0 (ps.length+1)) [b] (ps++[j]):=by
 have hB:B≠b0:=by have:=h.pB;simpa using this
 have hc:c≠b0:=by have:=h.pc;simpa using this
 have hd:b0 ∉ bs:=h.pd b0 (by simp);have hh:Dj (M.del b0) c B bs rows x .nil [] []:=by
  have hdel:∀a,a≠b0→(M.del b0) a=M a:=fun a ha=>if_neg ha;refine⟨⟨by rw[hdel B hB];exact h.mat.top,h.mat.len,fun i hi=>?_,h.mat.nd,h.mat.nB⟩,by rw[hdel c hc];exact h.cell,.inl ⟨rfl,rfl,rfl⟩,fun a ha=>?_,h.cB,h.cb,by simp,by simp,by simp⟩
  ·rw[hdel _ (fun e=>hd (e ▸ Ez (by rw[h.mat.len];exact hi)))];exact h.mat.row i hi
  ·have h1:a≠b0:=by
    rintro rfl;exact ha (if_pos rfl)
   rw[hdel a h1]at ha;have:=h.only a ha;simp at this ⊢;rcases this with h | h | h | h
   ·exact .inl h
   ·exact .inr (.inl h)
   ·exact .inr (.inr h)
   ·exact absurd h h1
 obtain⟨f1,f2,f3,_⟩:=hh.fresh hb;refine⟨hh.mat.other f2 f3 _,by simp only[A2];rw[if_neg (Ne.symm f1)];exact hh.cell,.inr ⟨b,rfl,by simp,by simp[D2]⟩,?_,h.cB,h.cb,by simpa using Ne.symm f2,by simpa using Ne.symm f1,by simpa using f3⟩;exact(hh.only.sub fun a ha=>by simp at ha ⊢;rcases ha with h | h | h<;>simp[h]).set (by simp) _
end
end Go.Av
end
section
namespace Go.Av
open Go.Proofs
theorem Qe7 (M:Aa) (l:List Nat):M.back l (M.only l)=M:=by
 funext b
 by_cases hb:b∈l
 ·rw[Qcy hb,Bv hb]
 ·rw[He (Bp hb) hb]
def Qf3 (c B:Nat) (X0:List (List Rat)) (v:AV) (M':Aa):Prop :=
 ∃x',M' c=some ⟨118,1,[x']⟩∧(∀b y,M' b=some y→∀v∈y.l,v.cells.all AV.one=true)∧match Ge X0 with
 |none=>Gf x' 2
 |some z=>Gf x' 0∧∃bs' pb,Dj M' c B bs' (Cm z.1) x' v pb z.2
structure Qo2 where
 X:List (List Rat)
 ps:List Nat
 M:Aa
 bs:List Nat
 pv:AV
 pb:List Nat
 x:AV
structure Vb where
 M:Aa
 rows:List (List RR)
 x:AV
 e:Int
def Qu5 (X0:List (List Rat)) (c B w j:Nat) (s:Qo2):Prop :=
 Bc C9 j (X0,[])=some (s.X,s.ps)∧Dz s.X∧Jt s.X w∧s.X.length=X0.length∧s.ps.length≤j∧Dj s.M c B s.bs (Cm s.X) s.x s.pv s.pb s.ps∧Gf s.x 0
def Js (c B:Nat) (bs:List Nat) (pv:AV) (pb ps:List Nat) (w n:Nat) (Z:Option (List (List Rat))) (s:Vb):Prop :=
 Dj s.M c B bs s.rows s.x pv pb ps∧Gf s.x s.e∧Zd s.rows∧Jt s.rows w∧s.rows.length=n∧Tc s.e s.rows Z
theorem Js.row {op:Rat→Nat→Option Rat} (hop:∀q k x,op q k=some x→B2 x) {c B:Nat} {bs:List Nat} {pv:AV} {pb ps:List Nat} {w n:Nat} {Z0:Option (List (List Rat))} {s:Vb} (h:Js c B bs pv pb ps w n Z0 s) {i k:Nat} (hi:i<n) (hk:k<w)
  {Z:Option (List (List Rat) × List Rat)} (hZ:Z0=Z.map fun z=>z.1.set i z.2) {e':Int} {y:RR} {x':AV} (hx:Gf x' e') (hy:y.Lb) (h1:s.e≠0→e'=s.e) (h2:s.e=0→match op (rr (Am s.rows i) k).q k with | some z=>e'=0∧y=Bd z | none=>e'=2) :
  Js c B bs pv pb ps w n (Z.bind fun z=>(H0 op k z.2).map fun row=>z.1.set i row) ⟨(s.M.set c ⟨118,1,[x']⟩).set (nb bs i) ⟨44,4,Cp ((Am s.rows i).set k y)⟩,s.rows.set i ((Am s.rows i).set k y),x',e'⟩:=by
 obtain⟨g1,g2,g3,g4,g5,g6⟩:=h;exact⟨(g1.setE x').setRow (by omega) _ (by simp),hx,g3.set i (Qqf (g3.row i) k hy),g4.set (by rw[List.length_set];exact g4 i (by omega)),by simp[g5],Qhm hop g5 hi g4 hk hZ g6 h1 h2⟩
theorem Tc.mono {e:Int} {rows:List (List RR)} {Z Z':Option (List (List Rat))} (h:Tc e rows Z) (hZ:Z'=Z):Tc e rows Z':=hZ ▸ h
theorem Js.to {c B:Nat} {bs:List Nat} {pv:AV} {pb ps:List Nat} {w n:Nat} {Z Z':Option (List (List Rat))} {s:Vb} (h:Js c B bs pv pb ps w n Z s) (hZ:Z'=Z):Js c B bs pv pb ps w n Z' s:=hZ ▸ h
theorem Qgc {e:Int} {a b f:RR} {bq fq:Rat} (hb:e=0→b.q=bq∧f.q=fq) {e1:Int} {p:RR} (hp:Cw e b (Er b.q f.q)=(e1,p)) :
  (e≠0→(Cw e1 a (Di a.q p.q)).1=e)∧(e=0→match T6 a.q fq bq with | some z=>(Cw e1 a (Di a.q p.q)).1=0∧(Cw e1 a (Di a.q p.q)).2=Bd z | none=>(Cw e1 a (Di a.q p.q)).1=2):=by
 constructor
 ·intro he;rw[Ky he]at hp;cases hp;rw[Ky he]
 ·intro he;obtain⟨h1,h2⟩:=hb he;unfold T6;rw[h1,h2]at hp;cases hm:Er bq fq with
  |none =>
   rw[hm,N3 he]at hp;cases hp;show(Cw 2 a _).1=2
   rw[Ky (by omega)]
  |some m =>
   rw[hm,Kx he]at hp;cases hp;rw[Gu];exact Qct rfl
theorem Qkz {e:Int} {b f:RR} (hg:∀z,Er b.q f.q=some z→B2 z) {e1:Int} {p:RR} (hp:Cw e b (Er b.q f.q)=(e1,p)) (h1:e1=0):e=0∧p.ok=true:=by
 by_cases he:e=0
 ·refine⟨he,?_⟩;cases hm:Er b.q f.q with
  |none=>rw[hm,N3 he]at hp;cases hp;omega
  |some m =>
   rw[hm,Kx he]at hp;cases hp;exact Ew (hg m hm)
 ·rw[Ky he]at hp;cases hp;exact absurd h1 he
theorem Tr {a f b c:Rat} (h:T6 a f b=some c):B2 c:=by
 unfold T6 at h;cases hm:Er b f with
 |none=>rw[hm]at h;cases h
 |some m=>rw[hm]at h;exact Yk h
theorem Tn {M:List (List Rat)} {j r i:Nat} (h:Qbo M j r=some i):i<M.length∧r≤i∧I3 M i j≠0:=by
 obtain⟨h1,h2,_⟩:=Qbs h;simp at h2;exact⟨h1,h2.1,h2.2⟩
theorem Vm (M0:Aa) (c B:Nat) (bs0:List Nat) (X0:List (List Rat)) (x0:AV) (w:Nat) (hR0:Dj M0 c B bs0 (Cm X0) x0 .nil [] []) (hx0:Gf x0 0) (hg0:Dz X0) (hd0:Jt X0 w) (hw:w=(Am X0 0).length) (hn:X0.length<2^40) (hw2:w<2^40) :
  Aj Tryz.prog 101 [.ptr c 1 0 0,.osl B 1 0 X0.length] M0 (Qf3 c B X0):=by
 have hwid:=So (Cm X0);have e0:(Am (Cm X0) 0).length=w:=by rw[Ce,List.length_map,hw]
 have hv0:=hR0.mat.view;rw[Bh]at hv0;rw[e0]at hwid;have hq:Ge X0=Bc C9 w (X0,[]):=by unfold Ge;rw[hw]
 generalize hN:X0.length=n at *;refine Ad Tryz.func101 rfl rfl 129 rfl (Nat.le_of_ble_eq_true rfl) ?_;(repeat refine AW.seq_k fun K hK=>?_);refine AW.rg ?_;simp[Ak];try (refine hK _ rfl ?_;clear hK K)
 refine AW.scope ?_;(repeat refine AW.seq_k fun K hK=>?_);refine AW.rg ?_;simp;try (refine hK _ rfl ?_;clear hK K)
 refine AW.seq (AW.label ?_);intro _;refine AW.seq_ex (ι:=Aa × AV) (fun z=>[(5,z.2)]) (fun z=>z.1) (fun z=>Qf3 c B X0 z.2 z.1) ?_ ?_
 ·(repeat refine AW.seq_k fun K hK=>?_);refine AW.rg ?_;simp;try (refine hK _ rfl ?_;clear hK K)
  refine Ac.borrow [A8 (Cm X0)] (by simpa using hv0) hwid ?_;rintro _ rfl;refine⟨rfl,?_⟩;simp;refine hK _ rfl ?_;clear hK K;refine AW.block (AW.loopS (ι:=Nat × Qo2) (fun z=>[(0,.ptr c 1 0 0),(1,.osl B 1 0 n),(5,z.2.pv),(16,.int .i64 w),(17,.int .i64 (z.1:Nat))]) (fun z=>z.2.M) (fun z=>z.1≤w∧Qu5 X0 c B w z.1 z.2) (fun z=>w-z.1) (0,⟨X0,[],M0,bs0,.nil,[],x0⟩) ⟨by simp,rfl,hg0,hd0,rfl,by simp,hR0,hx0⟩ rfl (by simp) ?_);rintro⟨j,X,ps,M,bs,pv,pb,x⟩ ⟨hjw,i1,i2,i3,i4,i5,i6,i7⟩;simp only at hjw i1 i2 i3 i4 i5 i6 i7;rw[hN]at i4;simp only
  (repeat refine AW.seq_k fun K hK=>?_);refine AW.rg ?_;simp;try (refine hK _ rfl ?_;clear hK K)
  (repeat refine AW.seq ?_);refine AW.cs (fun hj=>?_) (fun hj=>?_) rfl<;>(try simp at hj)
  ·refine AW.skip ?_;try simp
   have w1:=Aq (j+1) (by omega);have hlen:=i6.piv.len;refine AW.seq_ex (ι:=Qo2) (fun s=>[(0,.ptr c 1 0 0),(1,.osl B 1 0 n),(5,s.pv),(16,.int .i64 w),(17,.int .i64 (j:Nat))]) (fun s=>s.M) (fun s=>Qu5 X0 c B w (j+1) s) ?_ ?_
   ·(repeat refine AW.seq ?_);refine AW.block ?_;(repeat refine AW.seq_k fun K hK=>?_);refine AW.rg ?_;simp;try (refine hK _ rfl ?_;clear hK K)
    (repeat refine AW.seq_k fun K hK=>?_);refine AW.rg ?_;simp[hlen];try (refine hK _ rfl ?_;clear hK K)
    have hp:=Qa6 _ B bs (Cm X) i6.matOnly.1 i6.matOnly.2 (Vh X) w j ps.length (Qcq i3) hj (by rw[Bh];omega) hw2 (by omega);rw[Bh,i4]at hp;(repeat refine AW.seq_k fun K hK=>?_);refine AW.rg ?_;simp;try (refine hK _ rfl ?_;clear hK K)
    refine Ac.hand (B::bs) (by simp) hp ?_;intro v g hv _;unfold Ux at hv;rw[Qgq i2 i3 hj]at hv;have hcol:Bc C9 (j+1) (X0,[])=C9 j (X,ps):=by rw[Ef,i1];rfl
    cases hpq:Qbo X j ps.length with
    |none =>
     rw[hpq]at hv;obtain⟨rfl,rfl⟩:=hv;rw[Qe7];simp;refine hK _ rfl ?_;clear hK K;(repeat refine AW.seq_k fun K hK=>?_);refine AW.rg ?_;simp;try (refine hK _ rfl ?_;clear hK K)
     refine AW.yes ?_ rfl;refine AW.exit ?_;try simp
     refine⟨⟨X,ps,M,bs,pv,pb,x⟩,⟨?_,i2,i3,by rw[hN];exact i4,by show ps.length≤j+1;omega,i6,i7⟩,by simp⟩;rw[hcol];unfold C9;simp only[hpq]
    |some i =>
     rw[hpq]at hv;obtain⟨rfl,hg1,hg2⟩:=hv;obtain⟨p1,p2,p3⟩:=Tn hpq;rw[i4]at p1;have hr:ps.length<n:=by omega
     have hR1:=i6.back hg1 hg2 (fun b=>K7 (bs:=bs) (i:=i) (r:=ps.length) (by rw[i6.mat.len,Bh,i4];exact p1) (by rw[i6.mat.len,Bh,i4];exact hr) b);rw[←Xx]at hR1;have hcol:Bc C9 (j+1) (X0,[])=(J6 (Dd X i ps.length) j ps.length).map fun M=>(M,ps++[j]):=by rw[hcol];unfold C9;simp only[hpq]
     have hX1:Dz (Dd X i ps.length):=i2.swap _ _;have hd1:Jt (Dd X i ps.length) w:=i3.swap (by omega) (by omega);have hn1:(Dd X i ps.length).length=n:=by rw[I0,i4]
     have hdq:I3 (Dd X i ps.length) ps.length j≠0:=by
      unfold I3;rw[K4 (by omega) (by omega),if_pos rfl];exact p3
     generalize Dd X i ps.length=X1 at *;generalize M.back (B::bs) g=M1 at *;generalize Fg bs i ps.length=bs1 at *;generalize decide (i≠ps.length)=sw;simp;refine hK _ rfl ?_;clear hK K;(repeat refine AW.seq_k fun K hK=>?_);refine AW.rg ?_;simp;try (refine hK _ rfl ?_;clear hK K)
     refine AW.no ?_ rfl;refine AW.skip ?_;try simp
     refine hK _ rfl ?_;clear hK K;have hrl:(Am (Cm X1) ps.length).length=w:=by rw[Ce,List.length_map];exact hd1 _ (by omega)
     have hre:ps.length<(Cm X1).length:=by rw[Bh,hn1];exact hr
     have hde:rr (Am (Cm X1) ps.length) j=Bd (I3 X1 ps.length j):=by rw[Ce,Iy (by rw[hd1 _ (by omega)];exact hj)];rfl
     have hd0:B2 (I3 X1 ps.length j):=hX1.at (by rw[hd1 _ (by omega)];exact hj);(repeat refine AW.seq_k fun K hK=>?_);refine AW.rg ?_;simp[hr,hR1.mat.top,↓hR1.mat.get hre,hR1.mat.row ps.length hre,hrl,hj];try (refine hK _ rfl ?_;clear hK K)
     refine Ai.intro fun b10 hb10=>?_;refine hK _ rfl ?_;clear hK K;have hdlb:(rr (Am (Cm X1) ps.length) j).Lb:=Lq ((Vh X1).row _) j;generalize hrr:ps.length=r at *;generalize hdr:rr (Am (Cm X1) r) j=dr at *;refine AW.turn [(0,.ptr c 1 0 0),(1,.osl B 1 0 n),(5,pv),(16,.int .i64 w),(17,.int .i64 (j:Nat)),(6,.int .i64 (j:Nat)),(7,.int .i64 r),(10,.rptr [.bool dr.n1,Al dr.l1,.bool dr.n2,Al dr.l2])] M1 (Bl.drop hb10 (hR1.ones i7)) ?_ ?_
     ·simp[Kv hb10]
     generalize hrow0:Am X1 r=row0 at *;generalize hd:I3 X1 r j=d at *;refine AW.seq_ex (ι:=Vb) (fun s=>[(0,.ptr c 1 0 0),(1,.osl B 1 0 n),(5,pv),(16,.int .i64 w),(17,.int .i64 (j:Nat)),(6,.int .i64 (j:Nat)),(7,.int .i64 r),(10,.rptr [.bool dr.n1,Al dr.l1,.bool dr.n2,Al dr.l2])]) (fun s=>s.M) (fun s=>Js c B bs1 pv pb ps w n ((Bc (Cq d) w row0).map fun row=>X1.set r row) s) ?_ ?_
     ·(repeat refine AW.seq_k fun K hK=>?_);refine AW.rg ?_;simp[hr,hR1.mat.top,↓hR1.mat.get hre,hrl];try (refine hK _ rfl ?_;clear hK K)
      refine AW.block (AW.loopS (ι:=Nat × Vb) (fun z=>[(0,.ptr c 1 0 0),(1,.osl B 1 0 n),(5,pv),(16,.int .i64 w),(17,.int .i64 (j:Nat)),(6,.int .i64 (j:Nat)),(7,.int .i64 r),(10,.rptr [.bool dr.n1,Al dr.l1,.bool dr.n2,Al dr.l2]),(42,.int .i64 w),(43,.int .i64 (z.1:Nat))]) (fun z=>z.2.M) (fun z=>z.1≤w∧Js c B bs1 pv pb ps w n ((Bc (Cq d) z.1 row0).map fun row=>X1.set r row) z.2) (fun z=>w-z.1) (0,⟨M1,Cm X1,x,0⟩) ⟨by simp,hR1,i7,Vh X1,Qcq hd1,by rw[Bh,hn1],?_⟩ rfl (by simp) ?_)
      ·show Tc 0 (Cm X1) (some (X1.set r row0))
       rw[←hrow0,Gc (by omega),List.set_getElem_self];exact⟨rfl,rfl,hX1⟩
      rintro⟨k,M,rows,x,e⟩ ⟨g1,g2,g3,g4,g5,g6,g7⟩;simp only at g1 g2 g3 g4 g5 g6 g7;(repeat refine AW.seq_k fun K hK=>?_);refine AW.rg ?_;simp;try (refine hK _ rfl ?_;clear hK K)
      (repeat refine AW.seq ?_);refine AW.cs (fun hk=>?_) (fun hk=>?_) rfl<;>(try simp at hk)
      ·refine AW.skip ?_;try simp
       (repeat refine AW.seq ?_);refine AW.block ?_;(repeat refine AW.seq_k fun K hK=>?_);refine AW.rg ?_;simp;try (refine hK _ rfl ?_;clear hK K)
       have hrr':r<rows.length:=by omega
       have hlr:=g5 r hrr';(repeat refine AW.seq_k fun K hK=>?_);refine AW.rdT [] [10] [] [B,nb bs1 r] [0,1,2,3,4,5,6,7,8,9,10,11,12,13,14,15,16] Dm (by simp[hr,hk,g2.mat.top,↓g2.mat.get hrr',g2.mat.row r hrr',hlr]) (by simp[hr,hk,g2.mat.top,↓g2.mat.get hrr',g2.mat.row r hrr',hlr]) (by simp[hr,hk,g2.mat.top,↓g2.mat.get hrr',g2.mat.row r hrr',hlr]) (by simp[hr,hk,g2.mat.top,↓g2.mat.get hrr',g2.mat.row r hrr',hlr]) (by simp[hr,hk,g2.mat.top,↓g2.mat.get hrr',g2.mat.row r hrr',hlr]) ?_;simp[hr,hk,g2.mat.top,↓g2.mat.get hrr',g2.mat.row r hrr',hlr]
       try (refine hK _ rfl ?_;clear hK K)
       have nB:=Ne.symm g2.cB;have nR:=g2.nc hrr';have n0:=g2.mat.ne hrr';refine Qp4 (a:=rr (Am rows r) k) (b:=dr) g2.cell (by simp[nB,Ne.symm nR,g2.cB]) g3 (Lq (g4.row r) k) hdlb (fun he=>⟨V0 g7 he (by rw[hlr];exact hk),by rw[hde];exact Ew hd0,by rw[hde,Gu];exact hdq⟩) ?_;intro x' hx';simp[hr,hk,nR,n0,g2.mat.row r hrr',hlr];have w2:=Aq (k+1) (by omega);(repeat refine AW.seq_k fun K hK=>?_);refine AW.rg ?_;simp[-Int.natCast_add,w2];try (refine hK _ rfl ?_;clear hK K)
       have hs:=Js.row (op:=fun q _=>Gp q d) (y:=(Cw e (rr (Am rows r) k) (Gp (rr (Am rows r) k).q dr.q)).2) (fun q k x hx=>Xa hdq hx) (s:=⟨M,rows,x,e⟩) ⟨g2,g3,g4,g5,g6,g7⟩ hr hk (Z:=(Bc (Cq d) k row0).map fun row=>(X1,row)) (by cases Bc (Cq d) k row0<;>rfl) hx' (Vp (Lq (g4.row r) k)) (fun he=>by rw[Ky he]) (fun he=>by
        have:=Qct (a:=rr (Am rows r) k) (q:=Gp (rr (Am rows r) k).q dr.q) he;rw[hde,Gu]at this ⊢;exact this)
       exact⟨k+1,_,⟨hk,hs.to (by rw[Ef];cases Bc (Cq d) k row0<;>rfl)⟩,by omega,rfl,rfl⟩
      ·refine AW.exit ?_;try simp
       have:k=w:=by omega
       subst this;exact⟨⟨M,rows,x,e⟩,⟨g2,g3,g4,g5,g6,g7⟩,rfl⟩
     rintro⟨M2,rows2,x2,e2⟩ hs2;simp only;refine AW.seq_ex (ι:=Vb) (fun s=>[(0,.ptr c 1 0 0),(1,.osl B 1 0 n),(5,pv),(16,.int .i64 w),(17,.int .i64 (j:Nat)),(6,.int .i64 (j:Nat)),(7,.int .i64 r),(10,.rptr [.bool dr.n1,Al dr.l1,.bool dr.n2,Al dr.l2])]) (fun s=>s.M) (fun s=>Js c B bs1 pv pb ps w n ((Bc (Cq d) w row0).bind fun row=>Bc (Cg r j) n (X1.set r row)) s) ?_ ?_
     ·(repeat refine AW.seq_k fun K hK=>?_);refine AW.rg ?_;simp;try (refine hK _ rfl ?_;clear hK K)
      refine AW.block (AW.loopS (ι:=Nat × Vb) (fun z=>[(0,.ptr c 1 0 0),(1,.osl B 1 0 n),(5,pv),(16,.int .i64 w),(17,.int .i64 (j:Nat)),(6,.int .i64 (j:Nat)),(7,.int .i64 r),(10,.rptr [.bool dr.n1,Al dr.l1,.bool dr.n2,Al dr.l2]),(64,.int .i64 n),(65,.int .i64 (z.1:Nat))]) (fun z=>z.2.M) (fun z=>z.1≤n∧Js c B bs1 pv pb ps w n ((Bc (Cq d) w row0).bind fun row=>Bc (Cg r j) z.1 (X1.set r row)) z.2) (fun z=>n-z.1) (0,⟨M2,rows2,x2,e2⟩) ⟨by simp,hs2.to (by cases Bc (Cq d) w row0<;>rfl)⟩ rfl (by simp) ?_)
      rintro⟨i,M,rows,x,e⟩ ⟨g1,g2,g3,g4,g5,g6,g7⟩;simp only at g1 g2 g3 g4 g5 g6 g7;generalize hZ:((Bc (Cq d) w row0).bind fun row=>Bc (Cg r j) i (X1.set r row))=Z at g7;have hZ1:((Bc (Cq d) w row0).bind fun row=>Bc (Cg r j) (i+1) (X1.set r row))=Z.bind (Cg r j i):=by
       rw[←hZ];cases Bc (Cq d) w row0<;>rfl
      (repeat refine AW.seq_k fun K hK=>?_);refine AW.rg ?_;simp;try (refine hK _ rfl ?_;clear hK K)
      (repeat refine AW.seq ?_);refine AW.cs (fun hi=>?_) (fun hi=>?_) rfl<;>(try simp at hi)
      ·refine AW.skip ?_;try simp
       have hi':i<rows.length:=by omega
       have hr':r<rows.length:=by omega
       have hli:=g5 i hi';have hlr:=g5 r hr';have w3:=Aq (i+1) (by omega);refine AW.seq_ex (ι:=Vb) (fun s=>[(0,.ptr c 1 0 0),(1,.osl B 1 0 n),(5,pv),(16,.int .i64 w),(17,.int .i64 (j:Nat)),(6,.int .i64 (j:Nat)),(7,.int .i64 r),(10,.rptr [.bool dr.n1,Al dr.l1,.bool dr.n2,Al dr.l2]),(64,.int .i64 n),(65,.int .i64 (i:Nat))]) (fun s=>s.M) (fun s=>Js c B bs1 pv pb ps w n ((Bc (Cq d) w row0).bind fun row=>Bc (Cg r j) (i+1) (X1.set r row)) s) ?_ ?_
       ·(repeat refine AW.seq ?_);refine AW.block ?_;(repeat refine AW.seq_k fun K hK=>?_);refine AW.rg ?_;simp;try (refine hK _ rfl ?_;clear hK K)
        (repeat refine AW.seq_k fun K hK=>?_);refine AW.rg ?_;simp[hi,g2.mat.top,↓g2.mat.get hi',g2.mat.row i hi',hli,hj];try (refine hK _ rfl ?_;clear hK K)
        refine Ai.intro fun b13 hb13=>?_;refine hK _ rfl ?_;clear hK K;have hflb:(rr (Am rows i) j).Lb:=Lq (g4.row i) j;have hfq:∀X',Z=some X'→rr (Am rows i) j=Bd (I3 X' i j)∧B2 (I3 X' i j):=by
         intro X' hX';subst hX';obtain⟨_,m2,m3⟩:e=0∧rows=Cm X'∧Dz X':=g7;subst m2;have hjl:j<(Am X' i).length:=by rw[Ce,List.length_map]at hli;omega
         exact⟨by rw[Ce,Iy hjl];rfl,m3.at hjl⟩
        have hsg:=Mh _ hflb;generalize hfr:rr (Am rows i) j=fr at *;refine AW.turn [(0,.ptr c 1 0 0),(1,.osl B 1 0 n),(5,pv),(16,.int .i64 w),(17,.int .i64 (j:Nat)),(6,.int .i64 (j:Nat)),(7,.int .i64 r),(10,.rptr [.bool dr.n1,Al dr.l1,.bool dr.n2,Al dr.l2]),(64,.int .i64 n),(65,.int .i64 (i:Nat)),(12,.int .i64 (i:Nat)),(13,.rptr [.bool fr.n1,Al fr.l1,.bool fr.n2,Al fr.l2])] M (Bl.drop hb13 (g2.ones g3)) ?_ ?_
        ·simp[Kv hb13]
        have hskip:i=r∨De fr=0→((Bc (Cq d) w row0).bind fun row=>Bc (Cg r j) (i+1) (X1.set r row))=Z:=by
         intro h;rw[hZ1];cases Z with
         |none=>rfl
         |some X' =>
          obtain⟨q1,q2⟩:=hfq X' rfl;have:i=r∨I3 X' i j=0:=h.imp id fun h=>by rw[q1,N4 q2]at h;exact Me.1 h
          exact if_pos this
        refine AW.seq_ex (ι:=Unit) (fun _=>[(0,.ptr c 1 0 0),(1,.osl B 1 0 n),(5,pv),(16,.int .i64 w),(17,.int .i64 (j:Nat)),(6,.int .i64 (j:Nat)),(7,.int .i64 r),(10,.rptr [.bool dr.n1,Al dr.l1,.bool dr.n2,Al dr.l2]),(64,.int .i64 n),(65,.int .i64 (i:Nat)),(12,.int .i64 (i:Nat)),(13,.rptr [.bool fr.n1,Al fr.l1,.bool fr.n2,Al fr.l2])]) (fun _=>M) (fun _=>i≠r∧De fr≠0) ?_ ?_
        ·by_cases hir:i=r
         ·(repeat refine AW.seq_k fun K hK=>?_);refine AW.rg ?_;simp[hir];try (refine hK _ rfl ?_;clear hK K)
          refine AW.yes ?_ rfl;refine AW.exit ?_;try simp
          exact⟨⟨M,rows,x,e⟩,Js.to ⟨g2,g3,g4,g5,g6,g7⟩ (hskip (.inl hir)),by simp[hir]⟩
         ·(repeat refine AW.seq_k fun K hK=>?_);refine AW.rg ?_;simp[hir];try (refine hK _ rfl ?_;clear hK K)
          refine Ac.val hsg ?_;simp;refine hK _ rfl ?_;clear hK K;(repeat refine AW.seq ?_);refine AW.cs (fun h0=>?_) (fun h0=>?_) rfl<;>(try simp at h0)
          ·refine AW.exit ?_;try simp
           exact⟨⟨M,rows,x,e⟩,Js.to ⟨g2,g3,g4,g5,g6,g7⟩ (hskip (.inr h0)),by simp⟩
          ·refine AW.skip ?_;try simp
           exact⟨hir,h0⟩
        rintro _ ⟨h1,h2⟩;have hgo:∀X',Z=some X'→Cg r j i X'=(Bc (Ft (Am X' r) (I3 X' i j)) (Am X' i).length (Am X' i)).map (X'.set i):=by
         intro X' hX';obtain⟨q1,q2⟩:=hfq X' hX';refine if_neg ?_;rintro(h | h)
         ·exact h1 h
         ·exact h2 (by rw[q1,N4 q2];exact Me.2 h)
        clear hskip;have hZl:∀X',Z=some X'→X'.length=n∧∀k,k<n→(Am X' k).length=w:=by
         intro X' hX';subst hX';obtain⟨_,m2,_⟩:e=0∧rows=Cm X'∧Dz X':=g7;subst m2;rw[Bh]at g6;exact⟨g6,fun k hk=>by have:=g5 k (by rw[Bh];omega);rwa [Ce,List.length_map]at this⟩
        have hend:((Bc (Cq d) w row0).bind fun row=>Bc (Cg r j) (i+1) (X1.set r row))=Z.bind fun X'=>(Bc (Ft (Am X' r) (I3 X' i j)) w (Am X' i)).map (X'.set i):=by
         rw[hZ1];cases hZ2:Z with
         |none=>rfl
         |some X' =>
          show Cg r j i X'=_
          rw[hgo X' hZ2,(hZl X' hZ2).2 i hi];rfl
        have hbeg:(Z.bind fun X'=>(Bc (Ft (Am X' r) (I3 X' i j)) 0 (Am X' i)).map (X'.set i))=Z:=by
         cases hZ2:Z with
         |none=>rfl
         |some X' =>
          have:=(hZl X' hZ2).1;show some (X'.set i (Am X' i))=some X'
          rw[Gc (by omega),List.set_getElem_self]
        (repeat refine AW.seq_k fun K hK=>?_);refine AW.rg ?_;simp[hi,g2.mat.top,↓g2.mat.get hi',hli];try (refine hK _ rfl ?_;clear hK K)
        refine AW.block (AW.loopS (ι:=Nat × Vb) (fun z=>[(0,.ptr c 1 0 0),(1,.osl B 1 0 n),(5,pv),(16,.int .i64 w),(17,.int .i64 (j:Nat)),(6,.int .i64 (j:Nat)),(7,.int .i64 r),(10,.rptr [.bool dr.n1,Al dr.l1,.bool dr.n2,Al dr.l2]),(64,.int .i64 n),(65,.int .i64 (i:Nat)),(12,.int .i64 (i:Nat)),(13,.rptr [.bool fr.n1,Al fr.l1,.bool fr.n2,Al fr.l2]),(87,.int .i64 w),(88,.int .i64 (z.1:Nat))]) (fun z=>z.2.M) (fun z=>z.1≤w∧Js c B bs1 pv pb ps w n (Z.bind fun X'=>(Bc (Ft (Am X' r) (I3 X' i j)) z.1 (Am X' i)).map (X'.set i)) z.2) (fun z=>w-z.1) (0,⟨M,rows,x,e⟩) ⟨by simp,Js.to ⟨g2,g3,g4,g5,g6,g7⟩ hbeg⟩ rfl (by simp) ?_)
        clear hbeg;clear g2 g3 g4 g5 g6 hi' hr' hli hlr;rintro⟨k,M,rows,x,e⟩ ⟨g1,g2,g3,g4,g5,g6,g8⟩;simp only at g1 g2 g3 g4 g5 g6 g8;(repeat refine AW.seq_k fun K hK=>?_);refine AW.rg ?_;simp;try (refine hK _ rfl ?_;clear hK K)
        (repeat refine AW.seq ?_);refine AW.cs (fun hk=>?_) (fun hk=>?_) rfl<;>(try simp at hk)
        ·refine AW.skip ?_;try simp
         (repeat refine AW.seq ?_);refine AW.block ?_;(repeat refine AW.seq_k fun K hK=>?_);refine AW.rg ?_;simp;try (refine hK _ rfl ?_;clear hK K)
         have hi':i<rows.length:=by omega
         have hr':r<rows.length:=by omega
         have hli:=g5 i hi';have hlr:=g5 r hr';have nB:=Ne.symm g2.cB;have nI:=g2.nc hi';have nR:=g2.nc hr';have n0:=g2.mat.ne hi';have hb:e=0→(rr (Am rows r) k).q=Dw (Am (Z.getD []) r) k∧fr.q=I3 (Z.getD []) i j:=by
          intro he;cases hZ2:Z with
          |none=>rw[hZ2]at g8;have:e=2:=g8;omega
          |some X' =>
           rw[hZ2]at g8;obtain⟨q1,q2⟩:=hfq X' hZ2;show _=Dw (Am X' r) k∧fr.q=I3 X' i j
           refine⟨?_,by rw[q1,Gu]⟩;replace g8:Tc e rows ((Bc (Ft (Am X' r) (I3 X' i j)) k (Am X' i)).map (X'.set i)):=g8;cases hit:Bc (Ft (Am X' r) (I3 X' i j)) k (Am X' i)with
           |none=>rw[hit]at g8;have:e=2:=g8;omega
           |some row =>
            rw[hit]at g8;obtain⟨_,m2,_⟩:e=0∧rows=Cm (X'.set i row)∧Dz (X'.set i row):=g8;rw[m2,Ce,Hm (by rw[(hZl X' hZ2).1];exact hi),if_neg (Ne.symm h1),Iy (by rw[(hZl X' hZ2).2 r hr];exact hk),Gu]
         (repeat refine AW.seq_k fun K hK=>?_);refine AW.rdT [] [13] [] [B,nb bs1 i,nb bs1 r] [0,1,2,3,4,5,6,7,8,9,10,11,12,13,14,15,16,17,18,19,20,21,22,23,24,25] Dm (by simp[hi,hr,hk,g2.mat.top,↓g2.mat.get hi',↓g2.mat.get hr',g2.mat.row i hi',g2.mat.row r hr',hli,hlr]) (by simp[hi,hr,hk,g2.mat.top,↓g2.mat.get hi',↓g2.mat.get hr',g2.mat.row i hi',g2.mat.row r hr',hli,hlr]) (by simp[hi,hr,hk,g2.mat.top,↓g2.mat.get hi',↓g2.mat.get hr',g2.mat.row i hi',g2.mat.row r hr',hli,hlr]) (by simp[hi,hr,hk,g2.mat.top,↓g2.mat.get hi',↓g2.mat.get hr',g2.mat.row i hi',g2.mat.row r hr',hli,hlr]) (by simp[hi,hr,hk,g2.mat.top,↓g2.mat.get hi',↓g2.mat.get hr',g2.mat.row i hi',g2.mat.row r hr',hli,hlr]) ?_
         simp[hi,hr,hk,g2.mat.top,↓g2.mat.get hi',↓g2.mat.get hr',g2.mat.row i hi',g2.mat.row r hr',hli,hlr];try (refine hK _ rfl ?_;clear hK K)
         have hfok:e=0→fr.ok=true:=by
          intro he;cases hZ2:Z with
          |none=>rw[hZ2]at g8;have:e=2:=g8;omega
          |some X'=>obtain⟨q1,q2⟩:=hfq X' hZ2;rw[q1];exact Ew q2
         refine Qox (a:=rr (Am rows r) k) (b:=fr) g2.cell (by simp[nB,Ne.symm nR,Ne.symm nI,g2.cB]) g3 (Lq (g4.row r) k) hflb (fun he=>⟨V0 g8 he (by rw[hlr];exact hk),hfok he⟩) ?_;intro x1 hx1;have hplb:(Cw e (rr (Am rows r) k) (Er (rr (Am rows r) k).q fr.q)).2.Lb:=Vp (Lq (g4.row r) k);have hlo:=Qgc (a:=rr (Am rows i) k) hb (e1:=(Cw e (rr (Am rows r) k) (Er (rr (Am rows r) k).q fr.q)).1) (p:=(Cw e (rr (Am rows r) k) (Er (rr (Am rows r) k).q fr.q)).2) rfl;have hlk:=Qkz (b:=rr (Am rows r) k) (f:=fr) (e:=e) (fun z hz=>Qf2 hz) (e1:=(Cw e (rr (Am rows r) k) (Er (rr (Am rows r) k).q fr.q)).1) (p:=(Cw e (rr (Am rows r) k) (Er (rr (Am rows r) k).q fr.q)).2) rfl
         generalize(Cw e (rr (Am rows r) k) (Er (rr (Am rows r) k).q fr.q))=ep at *;obtain⟨e1,p⟩:=ep;simp only at hx1 hplb hlo hlk;simp;refine Qfj (a:=rr (Am rows i) k) (b:=p) (Aa.set_same _ _ _) (by simp[nB,Ne.symm nR,Ne.symm nI,g2.cB]) hx1 (Lq (g4.row i) k) hplb (fun he=>⟨V0 g8 (hlk he).1 (by rw[hli];exact hk),(hlk he).2⟩) ?_;intro x2 hx2;simp[hi,hk,nI,nR,n0,g2.mat.row i hi',hli];have w2:=Aq (k+1) (by omega);(repeat refine AW.seq_k fun K hK=>?_);refine AW.rg ?_;simp[-Int.natCast_add,w2];try (refine hK _ rfl ?_;clear hK K)
         have hs:=Js.row (op:=fun q k=>T6 q (I3 (Z.getD []) i j) (Dw (Am (Z.getD []) r) k)) (y:=(Cw e1 (rr (Am rows i) k) (Di (rr (Am rows i) k).q p.q)).2) (fun q k x hx=>Tr hx) (s:=⟨M,rows,x,e⟩) ⟨g2,g3,g4,g5,g6,g8⟩ hi hk (Z:=Z.bind fun X'=>(Bc (Ft (Am X' r) (I3 X' i j)) k (Am X' i)).map fun row=>(X',row)) (by
          cases Z with
          |none=>rfl
          |some X' =>
           show(Bc _ k (Am X' i)).map _=_
           cases hit:Bc (Ft (Am X' r) (I3 X' i j)) k (Am X' i)<;>simp[hit]) hx2 (Vp (Lq (g4.row i) k)) hlo.1 hlo.2
         exact⟨k+1,_,⟨hk,hs.to (by
          cases Z with
          |none=>rfl
          |some X' =>
           show(Bc _ (k+1) (Am X' i)).map _=_
           rw[Ef];cases hit:Bc (Ft (Am X' r) (I3 X' i j)) k (Am X' i)with
           |none=>simp[hit]
           |some row=>simp[hit];rfl)⟩,by omega,rfl,rfl⟩
        ·refine AW.exit ?_;try simp
         have:k=w:=by omega
         subst this;exact⟨⟨M,rows,x,e⟩,Js.to ⟨g2,g3,g4,g5,g6,g8⟩ hend,rfl⟩
       rintro⟨M3,rows3,x3,e3⟩ hs3;(repeat refine AW.seq_k fun K hK=>?_);refine AW.rg ?_;simp[-Int.natCast_add,w3];try (refine hK _ rfl ?_;clear hK K)
       exact⟨i+1,⟨M3,rows3,x3,e3⟩,⟨hi,hs3⟩,by omega,rfl,rfl⟩
      ·refine AW.exit ?_;try simp
       have:i=n:=by omega
       subst this;exact⟨⟨M,rows,x,e⟩,⟨g2,g3,g4,g5,g6,hZ ▸ g7⟩,rfl⟩
     rintro⟨M3,rows3,x3,e3⟩ ⟨g1,g2,g3,g4,g5,g6⟩;simp only at g1 g2 g3 g4 g5 g6;simp only;have hcl:J6 X1 j r=(Bc (Cq d) w row0).bind fun row=>Bc (Cg r j) n (X1.set r row):=by
      unfold J6;rw[hd,hrow0,hn1,show row0.length=w by rw[←hrow0];exact hd1 r (by omega)]
     rw[hcl]at hcol;refine AW.seq_ex (ι:=Aa × Nat) (fun z=>[(0,.ptr c 1 0 0),(1,.osl B 1 0 n),(5,.osl z.2 1 0 (r+1)),(16,.int .i64 w),(17,.int .i64 (j:Nat))]) (fun z=>z.1) (fun z=>Dj z.1 c B bs1 rows3 x3 (.osl z.2 1 0 (r+1)) [z.2] (ps++[j])) ?_ ?_
     ·rcases g1.piv with⟨z1,z2,z3⟩|⟨b0,z2,z3,z4⟩
      ·subst z1 z2 z3;have hr0:r=0:=hrr.symm;subst hr0;(repeat refine AW.seq_k fun K hK=>?_);refine AW.rgR [120] ?_;simp;try (refine hK _ rfl ?_;clear hK K)
       exact⟨by unfold maxLen;omega,Ai.intro fun b hb=>g1.push0 hb j⟩
      ·subst z2 z3;have hps:ps.length<2^40:=by omega
       (repeat refine AW.seq_k fun K hK=>?_);refine AW.rgR [120] ?_;simp[z4];try (refine hK _ rfl ?_;clear hK K)
       refine⟨by omega,by unfold maxLen;omega,Ai.intro fun b hb=>⟨_,b,?_,rfl,rfl,hrr⟩⟩;have:=g1.push1 hb j
       rwa [hrr]at this
     rintro⟨M4,b4⟩ hR4;simp only at hR4;have hx3:x3.cells=[.int .i64 e3]:=g2;(repeat refine AW.seq_k fun K hK=>?_);refine AW.rg ?_;simp[hR4.cell,hx3];try (refine hK _ rfl ?_;clear hK K)
     (repeat refine AW.seq ?_);refine AW.cs (fun he=>?_) (fun he=>?_) rfl<;>(try simp at he)
     ·refine AW.exit ?_;try simp
      have hno:Bc C9 (j+1) (X0,[])=none:=by
       rw[hcol];generalize((Bc (Cq d) w row0).bind fun row=>Bc (Cg r j) n (X1.set r row))=Z at g6;cases Z with
       |none=>rfl
       |some Y=>exact absurd g6.1 he
      have he2:e3=2:=by
       generalize((Bc (Cq d) w row0).bind fun row=>Bc (Cg r j) n (X1.set r row))=Z at g6;cases Z with
       |none=>exact g6
       |some Y=>exact absurd g6.1 he
      refine⟨x3,hR4.cell,hR4.ones g2,?_⟩;rw[hq,Yo hno (by omega)];rw[he2]at g2;exact g2
     ·refine AW.skip ?_;try simp
      generalize((Bc (Cq d) w row0).bind fun row=>Bc (Cg r j) n (X1.set r row))=Z at g6 hcol;cases Z with
      |none=>have:e3=2:=g6;omega
      |some Y =>
       obtain⟨_,m2,m3⟩:e3=0∧rows3=Cm Y∧Dz Y:=g6;subst m2;refine⟨⟨Y,ps++[j],M4,bs1,.osl b4 1 0 (r+1),[b4],x3⟩,⟨hcol,m3,?_,?_,by simp[hrr];omega,hR4,he ▸ g2⟩,rfl,rfl⟩
       ·intro i hi;have:=g4 i (by rw[Bh];exact hi)
        rwa [Ce,List.length_map]at this
       ·rw[Bh]at g5;rw[hN];exact g5
   rintro⟨X,ps,M,bs,pv,pb,x⟩ hs;(repeat refine AW.seq_k fun K hK=>?_);refine AW.rg ?_;simp[-Int.natCast_add,w1];try (refine hK _ rfl ?_;clear hK K)
   exact⟨j+1,⟨X,ps,M,bs,pv,pb,x⟩,⟨hj,hs⟩,by omega,by simp⟩
  ·refine AW.exit ?_;try simp
   have:j=w:=by omega
   subst this;refine⟨x,i6.cell,i6.ones i7,?_⟩;rw[hq,i1];exact⟨i7,bs,pb,i6⟩
 rintro⟨M,pv⟩ hs;(repeat refine AW.seq_k fun K hK=>?_);refine AW.rg ?_;simp;try (refine hK _ rfl ?_;clear hK K)
 obtain⟨x',h1,h2,h3⟩:=hs;exact AW.ret (Bx rfl h2 ⟨x',h1,h2,h3⟩)
end Go.Av
end
section
namespace Go.Av
open Go.Proofs
section
variable {P:Program} {av:Nat→Prop} {f:FuncId} {args:List AV} {m:Aa} {k:AV→Aa→Prop}
theorem Ac.news {R:AV→Aa→Prop} (h:Aj P f args Aa.emp R) (hk:∀v g,R v g→(∀b,g b≠none→m b=none∧¬av b)→k v (m.back [] g)):Ac P av f args m k:=by
 have e:m.only []=Aa.emp:=by funext b;rfl
 refine Ac.hand [] (by simp) (by rw[e];exact h) fun v g hr hf=>hk v g hr fun b hb=>?_;rcases hf b hb with h | h
 ·cases h
 ·exact h
theorem Ac.whole {R:AV→Aa→Prop} (hav:∀b,¬av b) (h:Aj P f args m R) (hk:∀v g,R v g→k v g):Ac P av f args m k:=by
 refine .inl ⟨m,R,fun c y hy=>⟨hy,hav c⟩,h,fun v g hr _=>?_⟩;have e:Ec m m g=g:=by
  funext c
  unfold Ec;cases g c with
  |some x=>rfl
  |none=>cases hm:m c<;>rfl
 rw[e];exact hk v g hr
end
def V8 (m:List (List RR)):List (List Rat):=m.map fun r=>r.map RR.q
theorem I6 (m:List (List RR)):(V8 m).length=m.length:=by simp[V8]
theorem K2 (m:List (List RR)) (i:Nat):Am (V8 m) i=(Am m i).map RR.q:=by
 unfold Am V8;rw[List.getD_eq_getElem?_getD,List.getD_eq_getElem?_getD,List.getElem?_map];cases m[i]?<;>rfl
theorem Qg5 {m:List (List RR)} (h:Ze m=0):¬(64<m.length∨J8 m)∧Ou m:=by
 by_cases h1:64<m.length∨J8 m
 ·rw[Va h1]at h;omega
 ·refine⟨h1,?_⟩;by_cases h2:Ou m
  ·exact h2
  ·rw[U5 h1 h2]at h;omega
theorem Qb1 {m:List (List RR)} {r:List RR} (h:r∈m):∃i,i<m.length∧Am m i=r:=by
 obtain⟨i,hi,e⟩:=List.mem_iff_getElem.1 h;exact⟨i,hi,by rw[Gc hi,e]⟩
theorem Qqk {r:List RR} {x:RR} (h:x∈r):∃j,j<r.length∧rr r j=x:=by
 obtain⟨j,hj,e⟩:=List.mem_iff_getElem.1 h;exact⟨j,hj,by rw[Ll hj,e]⟩
theorem Qb4 {m:List (List RR)} (hm:Zd m) (h:Ze m=0):m=Cm (V8 m)∧Dz (V8 m)∧Jt (V8 m) (Am (V8 m) 0).length∧m.length≤64∧(Am (V8 m) 0).length≤64:=by
 obtain⟨h1,h2⟩:=Qg5 h;have hok:∀r∈m,∀x∈r,x.ok=true:=by
  intro r hr x hx;obtain⟨i,hi,rfl⟩:=Qb1 hr;obtain⟨j,hj,rfl⟩:=Qqk hx;exact(h2 i hi).2 j hj
 refine⟨?_,?_,?_,?_,?_⟩
 ·unfold Cm V8;rw[List.map_map]
  conv=>lhs;rw[←List.map_id m]
  refine List.map_congr_left fun r hr=>?_;show r=(r.map RR.q).map Bd
  rw[List.map_map]
  conv=>lhs;rw[←List.map_id r]
  refine List.map_congr_left fun x hx=>?_;exact(Ek (hm r hr x hx) (hok r hr x hx)).2
 ·intro r hr q hq;obtain⟨s,hs,rfl⟩:=List.mem_map.1 hr;obtain⟨x,hx,rfl⟩:=List.mem_map.1 hq;exact(Ek (hm s hs x hx) (hok s hs x hx)).1
 ·intro i hi;rw[K2,K2,List.length_map,List.length_map];exact(h2 i (by rwa [I6]at hi)).1
 ·rcases Nat.lt_or_ge 64 m.length with h|h
  ·exact absurd (.inl h) h1
  ·exact h
 ·rw[K2,List.length_map];rcases Nat.lt_or_ge 64 (Am m 0).length with h | h
  ·rcases Nat.eq_zero_or_pos m.length with h0|h0
   ·have:m=[]:=List.eq_nil_of_length_eq_zero h0;subst this;simp[Am]at h
   ·exact absurd (.inr ⟨0,h0,h⟩) h1
  ·exact h
/-! ### What the steps keep -/
def Gd (r:List Rat):Prop:=∀q∈r,B2 q
theorem Ob {α:Type} {f:Nat→α→Option α} {p:α→Prop} (h:∀i s t,p s→f i s=some t→p t):∀{n:Nat} {s t:α},p s→Bc f n s=some t→p t
 |0,s,t,hs,he=>by cases he;exact hs
 |n+1,s,t,hs,he=>by
  rw[Ef]at he;cases hm:Bc f n s with
  |none=>rw[hm]at he;cases he
  |some u=>rw[hm]at he;exact h n u t (Ob h hs hm) he
theorem Nx {op:Rat→Nat→Option Rat} (hop:∀q k x,op q k=some x→B2 x) {w k:Nat} {row row':List Rat} (h:Gd row∧row.length=w) (he:H0 op k row=some row'):Gd row'∧row'.length=w:=by
 unfold H0 at he;cases ho:op (Dw row k) k with
 |none=>rw[ho]at he;cases he
 |some z=>rw[ho]at he;cases he;exact⟨Ym h.1 k (hop _ _ _ ho),by simpa using h.2⟩
def C7 (n w:Nat) (M:List (List Rat)):Prop:=Dz M∧Jt M w∧M.length=n
theorem C7.set {n w:Nat} {M:List (List Rat)} (h:C7 n w M) (i:Nat) {r:List Rat} (hr:Gd r∧r.length=w):C7 n w (M.set i r) :=
 ⟨h.1.set i hr.1,h.2.1.set hr.2,by simpa using h.2.2⟩
theorem C7.row {n w:Nat} {M:List (List Rat)} (h:C7 n w M) {i:Nat} (hi:i<n):Gd (Am M i)∧(Am M i).length=w:=⟨h.1.row i,h.2.1 i (by rw[h.2.2];exact hi)⟩
theorem C7.swap {n w:Nat} {M:List (List Rat)} (h:C7 n w M) {i j:Nat} (hi:i<n) (hj:j<n):C7 n w (Dd M i j):=(h.set i (h.row hj)).set j (h.row hi)
theorem Qdo {n w r j i:Nat} {M M':List (List Rat)} (hi:i<n) (h:C7 n w M) (he:Cg r j i M=some M'):C7 n w M':=by
 unfold Cg at he;split at he
 ·cases he;exact h
 ·cases hm:Bc (Ft (Am M r) (I3 M i j)) (Am M i).length (Am M i)with
  |none=>rw[hm]at he;cases he
  |some row =>
   rw[hm]at he;cases he;exact h.set i (Ob (p:=fun row=>Gd row∧row.length=w) (fun k s t hs hst=>Nx (fun q k x hx=>Tr hx) hs hst) (h.row hi) hm)
theorem Qw {α:Type} {f:Nat→α→Option α} {p:α→Prop}:∀{n:Nat} (h:∀i s t,i<n→p s→f i s=some t→p t) {s t:α},p s→Bc f n s=some t→p t
 |0,_,s,t,hs,he=>by cases he;exact hs
 |n+1,h,s,t,hs,he=>by
  rw[Ef]at he;cases hm:Bc f n s with
  |none=>rw[hm]at he;cases he
  |some u=>rw[hm]at he;exact h n u t (by omega) (Qw (fun i s t hi=>h i s t (by omega)) hs hm) he
theorem Zw {n w r j:Nat} {M M':List (List Rat)} (hr:r<n) (h:C7 n w M) (hd:I3 M r j≠0) (he:J6 M j r=some M'):C7 n w M':=by
 unfold J6 at he;cases hm:Bc (Cq (I3 M r j)) (Am M r).length (Am M r)with
 |none=>rw[hm]at he;cases he
 |some row =>
  rw[hm]at he;have h1:=Ob (p:=fun row=>Gd row∧row.length=w) (fun k s t hs hst=>Nx (fun q k x hx=>Xa hd hx) hs hst) (h.row hr) hm;have he':Bc (Cg r j) n (M.set r row)=some M':=by rw[←h.2.2];exact he
  exact Qw (p:=C7 n w) (fun i s t hi hs hst=>Qdo hi hs hst) (h.set r h1) he'
def I1 (n w j:Nat) (z:List (List Rat) × List Nat):Prop:=C7 n w z.1∧z.2.length≤n∧z.2.length≤j∧∀p∈z.2,p<j
theorem Qg3 {n w j:Nat} {z z':List (List Rat) × List Nat} (h:I1 n w j z) (he:C9 j z=some z'):I1 n w (j+1) z':=by
 obtain⟨h1,h2,h3,h4⟩:=h;unfold C9 at he;cases hp:Qbo z.1 j z.2.length with
 |none=>simp only[hp]at he;cases he;exact⟨h1,h2,by omega,fun p hp=>by have:=h4 p hp;omega⟩
 |some i =>
  simp only[hp]at he;obtain⟨p1,p2,p3⟩:=Tn hp;rw[h1.2.2]at p1;have hr:z.2.length<n:=by omega
  cases hc:J6 (Dd z.1 i z.2.length) j z.2.length with
  |none=>rw[hc]at he;cases he
  |some M =>
   rw[hc]at he;cases he;refine⟨Zw hr (h1.swap p1 hr) ?_ hc,by simp;omega,by simp;omega,fun p hp=>?_⟩
   ·unfold I3;rw[K4 (by rw[h1.2.2];exact p1) (by rw[h1.2.2];exact hr),if_pos rfl];exact p3
   ·simp at hp;rcases hp with hp | rfl
    ·have:=h4 p hp;omega
    ·omega
theorem Ov {n w:Nat} {z0:List (List Rat) × List Nat} (h:I1 n w 0 z0):∀{j:Nat} {z:List (List Rat) × List Nat},Bc C9 j z0=some z→I1 n w j z
 |0,z,he=>by cases he;exact h
 |j+1,z,he=>by
  rw[Ef]at he;cases hm:Bc C9 j z0 with
  |none=>rw[hm]at he;cases he
  |some u=>rw[hm]at he;exact Qg3 (Ov h hm) he
theorem O2 {n w:Nat} {M:List (List Rat)} (h:C7 n w M) {z:List (List Rat) × List Nat} (he:Ge M=some z):I1 n (w) ((Am M 0).length) z :=
 Ov (z0:=(M,[])) ⟨h,by simp,by simp,by simp⟩ he
/-! ### Reduce -/
theorem Qda {X:List (List Rat)} (h:Dz X):Qg1 (Cm X):=by
 intro r hr x hx;obtain⟨s,hs,rfl⟩:=List.mem_map.1 hr;obtain⟨q,hq,rfl⟩:=List.mem_map.1 hx;have:=h s hs q hq;have key:∀n,n<Be→(An n).length<2^40:=fun n hn=>by
  have:=Bb hn;omega
 exact⟨key _ this.1,key _ this.2⟩
noncomputable def H5 (m:List (List RR)):Int × List (List Rat) × List Nat :=
 if Ze m≠0 then (Ze m,[],[]) else match Ge (V8 m)with
  |none=>(2,[],[])
  |some z=>(0,z.1,z.2)
theorem Dj.start {X:List (List Rat)} {c:Nat} {x:AV} {g:Aa} {B:Nat} {bs:List Nat} (hg:D9 g B bs (Cm X)) (ho:Dq g (B::bs)) (hf:∀b,g b≠none→(Aa.emp.set c ⟨118,1,[x]⟩) b=none) :
  Dj ((Aa.emp.set c ⟨118,1,[x]⟩).back [] g) c B bs (Cm X) x .nil [] []:=by
 have hc:g c=none:=by
  cases h:g c with
  |none=>rfl
  |some y=>have:=hf c (by rw[h];simp);simp at this
 refine⟨hg.back _,by rw[He hc (by simp)];simp,.inl ⟨rfl,rfl,rfl⟩,fun b hb=>?_,?_,fun hm=>?_,by simp,by simp,by simp⟩
 ·cases h:g b with
  |some y=>have:=ho b (by rw[h];simp);simp at this ⊢;exact .inr this
  |none =>
   rw[He h (by simp)]at hb;by_cases e:b=c
   ·simp[e]
   ·simp[e]at hb
 ·rintro rfl;rw[hg.top]at hc;cases hc
 ·obtain⟨i,hi,e⟩:=List.mem_iff_getElem.1 hm;rw[←Iu hi]at e;have:=hg.row i (by rw[←hg.len];exact hi);rw[e,hc]at this;cases this
theorem U4 (m:List (List RR)) (hm:Zd m):Aj Tryz.prog 66 [A8 m] Aa.emp fun v mm=>v=.tup [A8 (Cm (H5 m).2.1),.sl 1 (Ao (H5 m).2.2),.int .i64 (H5 m).1]∧mm=Aa.emp:=by
 have hck:=Qab m hm;by_cases h0:Ze m=0
 ·obtain⟨h1,h2,h3,h4,h5⟩:=Qb4 hm h0;have hR:H5 m=match Ge (V8 m)with
   |none=>(2,[],[])
   |some z=>(0,z.1,z.2):=by unfold H5;rw[if_neg (by simp[h0])]
  have hlen:=I6 m;rw[h0]at hck;have hcl:=Qa5 m (by rw[h1];exact Qda h2) (by omega) (fun r hr=>by
   obtain⟨i,hi,rfl⟩:=Qb1 hr;have:=h3 i (by rw[hlen];exact hi);rw[K2,List.length_map]at this;omega)
  rw[hR];clear hR;generalize V8 m=X at *;subst h1;rw[Bh]at *;have hrd:=fun(M0:Aa) (c B:Nat) (bs0:List Nat) (x0:AV) (hR0:Dj M0 c B bs0 (Cm X) x0 .nil [] []) (hx0:Gf x0 0)=>Vm M0 c B bs0 X x0 _ hR0 hx0 h2 h3 rfl (by omega) (by omega);refine Ad Tryz.func66 rfl rfl 32 rfl (Nat.le_of_ble_eq_true rfl) ?_;(repeat refine AW.seq_k fun K hK=>?_);refine AW.rg ?_;simp[Ak];try (refine hK _ rfl ?_;clear hK K)
  (repeat refine AW.seq_k fun K hK=>?_);refine AW.rg ?_;simp;try (refine hK _ rfl ?_;clear hK K)
  refine Ac.val hck ?_;simp;refine hK _ rfl ?_;clear hK K;(repeat refine AW.seq_k fun K hK=>?_);refine AW.rg ?_;simp;try (refine hK _ rfl ?_;clear hK K)
  refine AW.no ?_ rfl;refine AW.skip ?_;try simp
  refine hK _ rfl ?_;clear hK K;(repeat refine AW.seq_k fun K hK=>?_);refine AW.rg ?_;simp;try (refine hK _ rfl ?_;clear hK K)
  refine Ai.intro fun c hc=>?_;refine hK _ rfl ?_;clear hK K;(repeat refine AW.seq_k fun K hK=>?_);refine AW.rg ?_;simp;try (refine hK _ rfl ?_;clear hK K)
  refine Ac.news hcl ?_;rintro _ g ⟨B,bs,rfl,g1,g2⟩ hf;have hM:=Dj.start g1 g2 (c:=c) (x:=.agg [.int .i64 0]) (fun b hb=>(hf b hb).1);generalize(Aa.emp.set c ⟨118,1,[.agg [.int .i64 0]]⟩).back [] g=M at *;simp;refine hK _ rfl ?_;clear hK K;(repeat refine AW.seq_k fun K hK=>?_);refine AW.rg ?_;simp;try (refine hK _ rfl ?_;clear hK K)
  refine Ac.whole (by simp) (hrd M c B bs _ hM rfl) ?_;rintro v M' ⟨x',q1,q2,q3⟩;simp;refine hK _ rfl ?_;clear hK K;cases hq:Ge X with
  |none =>
   rw[hq]at q3;have hx':x'.cells=[.int .i64 2]:=q3;(repeat refine AW.seq_k fun K hK=>?_);refine AW.rg ?_;simp[q1,hx'];try (refine hK _ rfl ?_;clear hK K)
   refine AW.yes ?_ rfl;(repeat refine AW.seq_k fun K hK=>?_);refine AW.rdA c [0,1,2,3,4,5,6] Dm (by simp[q1,hx']) ?_;simp[q1,hx'];try (refine hK _ rfl ?_;clear hK K)
   exact AW.ret (Ah [A8 [],.sl 1 [],.int .i64 2] rfl ⟨.nilsl 1,.nilsl 1,.same _,trivial⟩ ⟨rfl,rfl⟩)
  |some z =>
   obtain⟨Y,ps⟩:=z;rw[hq]at q3;obtain⟨q3,bs',pb,q4⟩:=q3;have hx':x'.cells=[.int .i64 0]:=q3;(repeat refine AW.seq_k fun K hK=>?_);refine AW.rg ?_;simp[q1,hx'];try (refine hK _ rfl ?_;clear hK K)
   refine AW.no ?_ rfl;refine AW.skip ?_;try simp
   refine hK _ rfl ?_;clear hK K;(repeat refine AW.seq_k fun K hK=>?_);refine AW.rg ?_;simp;try (refine hK _ rfl ?_;clear hK K)
   have hk:=O2 ⟨h2,h3,rfl⟩ hq;have hv:=q4.mat.view;rw[Bh,hk.1.2.2]at hv;exact AW.ret (Ah [A8 (Cm Y),.sl 1 (Ao ps),.int .i64 0] rfl ⟨hv,q4.piv.view,.same _,trivial⟩ ⟨rfl,rfl⟩)
 ·have hR:H5 m=(Ze m,[],[]):=by unfold H5;rw[if_pos h0]
  rw[hR];generalize Ze m=e at *;refine Ad Tryz.func66 rfl rfl 32 rfl (Nat.le_of_ble_eq_true rfl) ?_;(repeat refine AW.seq_k fun K hK=>?_);refine AW.rg ?_;simp[Ak];try (refine hK _ rfl ?_;clear hK K)
  (repeat refine AW.seq_k fun K hK=>?_);refine AW.rg ?_;simp;try (refine hK _ rfl ?_;clear hK K)
  refine Ac.val hck ?_;simp;refine hK _ rfl ?_;clear hK K;(repeat refine AW.seq_k fun K hK=>?_);refine AW.rg ?_;simp[h0];try (refine hK _ rfl ?_;clear hK K)
  refine AW.yes ?_ rfl;(repeat refine AW.seq_k fun K hK=>?_);refine AW.rg ?_;simp;try (refine hK _ rfl ?_;clear hK K)
  exact AW.ret (Ah [A8 [],.sl 1 [],.int .i64 e] rfl ⟨.nilsl 1,.nilsl 1,.same _,trivial⟩ ⟨rfl,rfl⟩)
end Go.Av
end
section
namespace Go.Av
open Go.Proofs
@[simp high] theorem Qfr (P:Program) (size bytes:Nat) (e:TypeId) (zero:AV) (fs:List (Nat × Nat × Option Bool)) (k:IntKind) (n:Int) (l:List Nat):Br P ⟨size,bytes,.slice e,zero,fs⟩ (.sl 1 (Ao l)) (.int k n)=(Ag P e).bind fun te=>if 1=te.size∧0≤n∧n<l.length then some (.rptr [.int .i64 ((l.getD n.toNat 0:Nat):Int)]) else none:=by
 rw[G5]
 congr 1
 funext te
 rw[Jy];by_cases h:1=te.size∧0≤n∧n<l.length
 ·rw[if_pos h,if_pos h];have h1:n.toNat<l.length:=by omega
  unfold Ao;rw[List.getD_eq_getElem?_getD,List.getD_eq_getElem?_getD,List.getElem?_map,List.getElem?_eq_getElem h1];rfl
 ·rw[if_neg h,if_neg h]
theorem Yz {M M':Aa} {b n:Nat} {e:TypeId} {r:List RR} (hb:M b=some ⟨e,4,Cp r⟩) (hb':M' b=none) (hn:r.length=n):Bw M M' (.osl b 4 0 n) (A6 r):=by
 refine .osl b 4 0 n _ _ hb hb' rfl (by simp[hn]) (by simp[hn]) fun j u u' g1 g2=>?_;simp only[Nat.zero_add]at g1;rw[g1]at g2;cases g2;exact .same _
theorem Aa.set_self {m:Aa} {b:Nat} {x:Es} (h:m b=some x):m.set b x=m:=by
 funext k
 simp only[A2];split
 ·rename_i e;rw[e,h]
 ·rfl
theorem Sn {m:Aa} {b c:Nat} (h:c≠b) (x x' y y':Es):(((m.set c x).set b y).set c x').set b y'=(m.set c x').set b y':=by
 funext k
 simp only[A2];by_cases h1:k=b
 ·simp[h1]
 ·by_cases h2:k=c
  ·subst h2;simp[h]
  ·simp[h1,h2]
def My (M:Aa) (ty:TypeId) (z:Nat) (ov:AV) (ob:List Nat) (l:List AV):Prop :=
 (l=[]∧ob=[]∧ov=.nil)∨∃b,ob=[b]∧ov=.osl b z 0 l.length∧M b=some ⟨ty,z,l⟩
theorem My.keep {M M':Aa} {ty:TypeId} {z:Nat} {ov:AV} {ob:List Nat} {l:List AV} (h:My M ty z ov ob l) (hm:∀b∈ob,M' b=M b):My M' ty z ov ob l:=by
 rcases h with h|⟨b,h1,h2,h3⟩
 ·exact .inl h
 ·exact .inr ⟨b,h1,h2,by rw[hm b (by simp[h1])];exact h3⟩
theorem My.len {M:Aa} {ty:TypeId} {z:Nat} {ov:AV} {ob:List Nat} {l:List AV} (h:My M ty z ov ob l) (size bytes:Nat) (e:TypeId) (zero:AV) (fs:List (Nat × Nat × Option Bool)):Jr ⟨size,bytes,.slice e,zero,fs⟩ ov=some (.int .i64 l.length):=by
 rcases h with⟨rfl,_,rfl⟩|⟨b,_,rfl,_⟩
 ·simp
 ·simp
theorem My.view {M M':Aa} {ty:TypeId} {z:Nat} {ov:AV} {ob:List Nat} {l:List AV} (h:My M ty z ov ob l) (hm:∀b∈ob,M' b=none):Bw M M' ov (.sl z l):=by
 rcases h with⟨rfl,_,rfl⟩|⟨b,h1,rfl,h⟩
 ·exact .nilsl z
 ·refine .osl b z 0 l.length _ _ h (hm b (by simp[h1])) rfl rfl (by simp) fun j u u' g1 g2=>?_;simp only[Nat.zero_add]at g1;rw[g1]at g2;cases g2;exact .same _
structure Ik (M:Aa) (c:Nat) (x:AV) (ty:TypeId) (z:Nat) (ov:AV) (ob:List Nat) (l:List AV):Prop where
 cell:M c=some ⟨118,1,[x]⟩
 lst:My M ty z ov ob l
 only:Dq M (c::ob)
 pc:c ∉ ob
section
variable {M:Aa} {c:Nat} {x ov:AV} {ty:TypeId} {z:Nat} {ob:List Nat} {l:List AV}
theorem Ik.setE (h:Ik M c x ty z ov ob l) (x':AV):Ik (M.set c ⟨118,1,[x']⟩) c x' ty z ov ob l :=
 ⟨by simp,h.lst.keep fun b hb=>by simp only[A2];rw[if_neg (by rintro rfl;exact h.pc hb)],h.only.set (by simp) _,h.pc⟩
theorem Ik.fresh (h:Ik M c x ty z ov ob l) {b:Nat} (hb:M b=none):b≠c∧b ∉ ob:=by
 refine⟨(by rintro rfl;rw[h.cell]at hb;cases hb),fun hm=>?_⟩;rcases h.lst with⟨_,h1,_⟩ | ⟨b',h1,_,h3⟩
 ·rw[h1]at hm;cases hm
 ·rw[h1]at hm;simp at hm;subst hm;rw[h3]at hb;cases hb
theorem Ik.ones (h:Ik M c x ty z ov ob l) {e:Int} (hx:Gf x e) (hl:∀v∈l,v.cells.all AV.one=true):∀(b:Nat) (y:Es),M b=some y→∀v∈y.l,v.cells.all AV.one=true:=by
 intro b y hy;have:=h.only b (by rw[hy];simp);rcases List.mem_cons.1 this with rfl | hb
 ·rw[h.cell]at hy;cases hy;intro v hv;simp at hv;subst hv;exact Qbz hx
 ·rcases h.lst with⟨_,h1,_⟩|⟨b',h1,_,h3⟩
  ·rw[h1]at hb;cases hb
  ·rw[h1]at hb;simp at hb;subst hb;rw[h3]at hy;cases hy;exact hl
theorem Ik.start (c:Nat) (x:AV) (ty:TypeId) (z:Nat):Ik (Aa.emp.set c ⟨118,1,[x]⟩) c x ty z .nil [] [] :=
 ⟨by simp,.inl ⟨rfl,rfl,rfl⟩,fun b hb=>by
  by_cases e:b=c
  ·simp[e]
  ·simp[e]at hb,by simp⟩
theorem Ik.push0 (h:Ik M c x ty z .nil [] []) {b:Nat} (hb:M b=none) (v:AV):Ik (M.set b ⟨ty,z,[v]⟩) c x ty z (.osl b z 0 1) [b] [v]:=by
 obtain⟨f1,_⟩:=h.fresh hb;refine⟨by simp only[A2];rw[if_neg (Ne.symm f1)];exact h.cell,.inr ⟨b,rfl,rfl,by simp⟩,?_,by simpa using Ne.symm f1⟩;exact(h.only.sub fun a ha=>by simp at ha ⊢;exact .inl ha).set (by simp) _
theorem Ik.push1 {b0:Nat} (h:Ik M c x ty z (.osl b0 z 0 l.length) [b0] l) {b:Nat} (hb:(M.del b0) b=none) (v:AV):Ik ((M.del b0).set b ⟨ty,z,l++[v]⟩) c x ty z (.osl b z 0 (l.length+1)) [b] (l++[v]):=by
 have hc:c≠b0:=by have:=h.pc;simpa using this
 have hh:Ik (M.del b0) c x ty z .nil [] []:=by
  have hdel:∀a,a≠b0→(M.del b0) a=M a:=fun a ha=>if_neg ha;refine⟨by rw[hdel c hc];exact h.cell,.inl ⟨rfl,rfl,rfl⟩,fun a ha=>?_,by simp⟩;have h1:a≠b0:=by
   rintro rfl;exact ha (if_pos rfl)
  rw[hdel a h1]at ha;have:=h.only a ha;simp at this ⊢;exact this.resolve_right h1
 obtain⟨f1,_⟩:=hh.fresh hb;refine⟨by simp only[A2];rw[if_neg (Ne.symm f1)];exact hh.cell,.inr ⟨b,rfl,by simp,by simp⟩,?_,by simpa using Ne.symm f1⟩;exact(hh.only.sub fun a ha=>by simp at ha ⊢;exact .inl ha).set (by simp) _
end
/-! ### The kernel -/
def Y0 (Y:List (List Rat)) (ps:List Nat) (j:Nat):Nat→List Rat→List Rat
 |0,v=>v
 |k+1,v=>(Y0 Y ps j k v).set (ps.getD k 0) (-(I3 Y k j))
def Xl (Y:List (List Rat)) (ps:List Nat) (w j:Nat):List Rat:=Y0 Y ps j ps.length ((List.replicate w 0).set j 1)
def Li (Y:List (List Rat)) (ps:List Nat) (w j:Nat):List (List Rat):=((List.range j).filter fun i=>decide (i ∉ ps)).map (Xl Y ps w)
theorem Tp (Y:List (List Rat)) (ps:List Nat) (w j:Nat):Li Y ps w (j+1)=if j∈ps then Li Y ps w j else Li Y ps w j++[Xl Y ps w j]:=by
 unfold Li;rw[List.range_succ,List.filter_append];by_cases h:j∈ps
 ·rw[if_pos h];simp[h]
 ·rw[if_neg h];simp[h]
theorem Kb (Y:List (List Rat)) (ps:List Nat) (j:Nat) (v:List Rat):∀k,(Y0 Y ps j k v).length=v.length
 |0=>rfl
 |k+1=>by unfold Y0;rw[List.length_set,Kb]
theorem Xc (Y:List (List Rat)) (ps:List Nat) (w j:Nat):(Xl Y ps w j).length=w:=by unfold Xl;rw[Kb];simp
noncomputable def Uw (m:List (List RR)):Int × List (List Rat) :=
 if (H5 m).1≠0 then ((H5 m).1,[]) else (0,Li (H5 m).2.1 (H5 m).2.2 (Am m 0).length (Am m 0).length)
theorem Pn {n w:Nat} {z0:List (List Rat) × List Nat} (h:I1 n w 0 z0) (hs:z0.2.Pairwise (·<·)):∀{j:Nat} {z:List (List Rat) × List Nat},Bc C9 j z0=some z→z.2.Pairwise (·<·)
 |0,z,he=>by cases he;exact hs
 |j+1,z,he=>by
  rw[Ef]at he;cases hm:Bc C9 j z0 with
  |none=>rw[hm]at he;cases he
  |some u =>
   rw[hm]at he;have h1:=Pn h hs hm;have h2:=Ov h hm;replace he:C9 j u=some z:=he;unfold C9 at he;cases hp:Qbo u.1 j u.2.length with
   |none=>simp only[hp]at he;cases he;exact h1
   |some i =>
    simp only[hp]at he;cases hc:J6 (Dd u.1 i u.2.length) j u.2.length with
    |none=>rw[hc]at he;cases he
    |some M =>
     rw[hc]at he;cases he;rw[List.pairwise_append];exact⟨h1,by simp,fun a ha b hb=>by simp at hb;subst hb;exact h2.2.2.2 a ha⟩
theorem Qhi {q:Rat} (h:B2 q):Di 0 q=some (-q)∧B2 (-q):=by
 have hg:B2 (-q):=by
  unfold B2 at h ⊢;rw[Rat.neg_num,Rat.neg_den,Int.natAbs_neg];exact h
 refine⟨?_,hg⟩;unfold Di;rw[Rat.sub_eq_add_neg,Rat.zero_add];have n0:(0:Rat).num=0:=rfl;have d0:(0:Rat).den=1:=rfl;have hb:0<Be:=by unfold Be;exact Nat.pow_pos (by omega)
 have h1:=h.1;have h2:=h.2;rw[n0,d0,if_pos];unfold C2;generalize Be=b at *;simp only[Bool.and_eq_true,decide_eq_true_eq,Int.zero_mul,Int.natAbs_zero];refine⟨⟨⟨hb,?_⟩,?_⟩,?_⟩<;>omega
theorem Ut:B2 0:=by rw[←Ir];exact Us (by decide)
theorem Qgs:B2 1:=by rw[←Iv];exact Us (by decide)
structure Qjj where
 next:Nat
 x:AV
 M:Aa
 ov:AV
 ob:List Nat
def Qnr (c:Nat) (Y:List (List Rat)) (ps:List Nat) (w j:Nat) (s:Qjj):Prop :=
 Ik s.M c s.x 51 1 s.ov s.ob ((Cm (Li Y ps w j)).map A6)∧Gf s.x 0∧s.next≤ps.length∧(∀i,i<s.next→ps.getD i 0<j)∧∀i,s.next≤i→i<ps.length→j≤ps.getD i 0
theorem Qb6 {ps:List Nat} (h:ps.Pairwise (·<·)) {i j:Nat} (hij:i<j) (hj:j<ps.length):ps.getD i 0<ps.getD j 0:=by
 rw[List.getD_eq_getElem?_getD,List.getD_eq_getElem?_getD,List.getElem?_eq_getElem hj,List.getElem?_eq_getElem (by omega)];exact List.pairwise_iff_getElem.1 h i j (by omega) hj hij
theorem V1 (m:List (List RR)) (hm:Zd m):Aj Tryz.prog 106 [A8 m] Aa.emp fun v mm=>v=.tup [A8 (Cm (Uw m).2),.int .i64 (Uw m).1]∧mm=Aa.emp:=by
 have hr:=U4 m hm;have hwid:=So m;by_cases h0:(H5 m).1=0
 ·have hck:Ze m=0:=by
   by_cases h:Ze m=0
   ·exact h
   ·unfold H5 at h0;rw[if_pos h]at h0;exact absurd h0 h
  have hK:Uw m=(0,Li (H5 m).2.1 (H5 m).2.2 (Am m 0).length (Am m 0).length):=if_neg (by simp[h0]);obtain⟨h1,h2,h3,h4,h5⟩:=Qb4 hm hck;have hcol:∃Y ps,H5 m=(0,Y,ps)∧I1 m.length (Am m 0).length (Am m 0).length (Y,ps)∧ps.Pairwise (·<·):=by
   unfold H5 at h0 ⊢;rw[if_neg (by simp[hck])]at h0 ⊢;cases hq:Ge (V8 m)with
   |none=>rw[hq]at h0;exact absurd h0 (by simp)
   |some z =>
    have e0:(Am (V8 m) 0).length=(Am m 0).length:=by rw[K2,List.length_map]
    have k1:=O2 (n:=m.length) (w:=(Am m 0).length) ⟨h2,e0 ▸ h3,I6 m⟩ hq;rw[e0]at k1;refine⟨z.1,z.2,rfl,k1,?_⟩;exact Pn (n:=m.length) (w:=(Am m 0).length) (z0:=(V8 m,[])) ⟨⟨h2,e0 ▸ h3,I6 m⟩,by simp,by simp,by simp⟩ (by simp) hq
  obtain⟨Y,ps,hred,⟨⟨y1,y2,y3⟩,y4,y5,y6⟩,y7⟩:=hcol;simp only at y1 y2 y3 y4 y5 y6;rw[hK];rw[hred]at hr ⊢;simp only at hr ⊢;have h5:(Am m 0).length≤64:=by rw[K2,List.length_map]at h5;exact h5
  clear h1 h2 h3 hK;generalize hw:(Am m 0).length=w at *;have hvec:=X3 w (by omega);have hone:=Mg 1 (by omega) (by omega);have hzero:=Mg 0 (by omega) (by omega);rw[Iv]at hone;rw[Ir]at hzero;refine Ad Tryz.func106 rfl rfl 87 rfl (Nat.le_of_ble_eq_true rfl) ?_;(repeat refine AW.seq_k fun K hK=>?_);refine AW.rg ?_;simp[Ak];try (refine hK _ rfl ?_;clear hK K)
  (repeat refine AW.seq_k fun K hK=>?_);refine AW.rg ?_;simp;try (refine hK _ rfl ?_;clear hK K)
  refine Ac.val hr ?_;simp;refine hK _ rfl ?_;clear hK K;(repeat refine AW.seq_k fun K hK=>?_);refine AW.rg ?_;simp;try (refine hK _ rfl ?_;clear hK K)
  refine AW.no ?_ rfl;refine AW.skip ?_;try simp
  refine hK _ rfl ?_;clear hK K;(repeat refine AW.seq_k fun K hK=>?_);refine AW.rg ?_;simp;try (refine hK _ rfl ?_;clear hK K)
  refine Ai.intro fun c hc=>?_;refine hK _ rfl ?_;clear hK K;(repeat refine AW.seq_k fun K hK=>?_);refine AW.rg ?_;simp;try (refine hK _ rfl ?_;clear hK K)
  (repeat refine AW.seq_k fun K hK=>?_);refine AW.rg ?_;simp;try (refine hK _ rfl ?_;clear hK K)
  refine AW.seq_ex (ι:=Aa × AV × AV × List Nat) (fun z=>[(7,.ptr c 1 0 0),(8,z.2.2.1)]) (fun z=>z.1) (fun z=>Ik z.1 c z.2.1 51 1 z.2.2.1 z.2.2.2 ((Cm (Li Y ps w w)).map A6)∧Gf z.2.1 0) ?_ ?_
  ·(repeat refine AW.seq_k fun K hK=>?_);refine AW.rg ?_;simp;try (refine hK _ rfl ?_;clear hK K)
   refine Ac.val hwid ?_;simp;refine hK _ rfl ?_;clear hK K;refine AW.block (AW.loopS (ι:=Nat × Qjj) (fun z=>[(0,A8 m),(4,A8 (Cm Y)),(5,.sl 1 (Ao ps)),(7,.ptr c 1 0 0),(8,z.2.ov),(9,.int .i64 (z.2.next:Nat)),(26,.int .i64 w),(27,.int .i64 (z.1:Nat))]) (fun z=>z.2.M) (fun z=>z.1≤w∧Qnr c Y ps w z.1 z.2) (fun z=>w-z.1) (0,⟨0,.agg [.int .i64 0],Aa.emp.set c ⟨118,1,[.agg [.int .i64 0]]⟩,.nil,[]⟩) ⟨by simp,Ik.start _ _ _ _,rfl,by simp,by simp,by simp⟩ rfl (by simp) ?_);rintro⟨j,next,x,M,ov,ob⟩ ⟨g1,g2,g3,g4,g5,g6⟩;simp only at g1 g2 g3 g4 g5 g6
   simp only;(repeat refine AW.seq_k fun K hK=>?_);refine AW.rg ?_;simp;try (refine hK _ rfl ?_;clear hK K)
   (repeat refine AW.seq ?_);refine AW.cs (fun hj=>?_) (fun hj=>?_) rfl<;>(try simp at hj)
   ·refine AW.skip ?_;try simp
    have w1:=Aq (j+1) (by omega);have w2:=Aq (next+1) (by omega);refine AW.seq_ex (ι:=Qjj) (fun s=>[(0,A8 m),(4,A8 (Cm Y)),(5,.sl 1 (Ao ps)),(7,.ptr c 1 0 0),(8,s.ov),(9,.int .i64 (s.next:Nat)),(26,.int .i64 w),(27,.int .i64 (j:Nat))]) (fun s=>s.M) (fun s=>Qnr c Y ps w (j+1) s) ?_ ?_
    ·(repeat refine AW.seq ?_);refine AW.block ?_;(repeat refine AW.seq_k fun K hK=>?_);refine AW.rg ?_;simp;try (refine hK _ rfl ?_;clear hK K)
     refine AW.seq_ex (ι:=Unit) (fun _=>[(0,A8 m),(4,A8 (Cm Y)),(5,.sl 1 (Ao ps)),(7,.ptr c 1 0 0),(8,ov),(9,.int .i64 (next:Nat)),(10,.int .i64 (j:Nat)),(26,.int .i64 w),(27,.int .i64 (j:Nat))]) (fun _=>M) (fun _=>j ∉ ps∧∀i,next≤i→i<ps.length→j+1≤ps.getD i 0) ?_ ?_
     ·by_cases hn:next<ps.length
      ·have hgn:ps.getD next 0=ps[next]:=by rw[List.getD_eq_getElem?_getD,List.getElem?_eq_getElem hn];rfl
       by_cases hp:ps[next]=j
       ·(repeat refine AW.seq_k fun K hK=>?_);refine AW.rg ?_;simp[hn,hp];try (refine hK _ rfl ?_;clear hK K)
        refine AW.yes ?_ rfl;(repeat refine AW.seq_k fun K hK=>?_);refine AW.rg ?_;simp[-Int.natCast_add,w2];try (refine hK _ rfl ?_;clear hK K)
        refine AW.exit ?_;try simp[-Int.natCast_add]
        have hmem:j∈ps:=by rw[←hp];exact List.getElem_mem hn
        rw[←hgn]at hp;refine⟨⟨next+1,x,M,ov,ob⟩,⟨?_,g3,hn,fun i hi=>?_,fun i hi hi2=>?_⟩,by simp⟩
        ·rw[Tp,if_pos hmem];exact g2
        ·rcases Nat.lt_succ_iff_lt_or_eq.1 hi with h|rfl
         ·have:=g5 i h;omega
         ·omega
        ·have hi:next+1≤i:=hi;have:=Qb6 y7 (i:=next) (j:=i) (by omega) hi2;omega
       ·(repeat refine AW.seq_k fun K hK=>?_);refine AW.rg ?_;simp[hn,hp];try (refine hK _ rfl ?_;clear hK K)
        refine AW.no ?_ rfl;refine AW.skip ?_;try simp
        have hge:∀i,next≤i→i<ps.length→j+1≤ps.getD i 0:=fun i hi hi2=>by
         have h1:=g6 next (by omega) hn;rw[←hgn]at hp;rcases Nat.lt_or_eq_of_le hi with h | h
         ·have:=Qb6 y7 (i:=next) (j:=i) h hi2;omega
         ·subst h;omega
        refine⟨fun hm=>?_,hge⟩;obtain⟨i,hi,e⟩:=List.mem_iff_getElem.1 hm;have e:ps.getD i 0=j:=by rw[List.getD_eq_getElem?_getD,List.getElem?_eq_getElem hi];exact e
        rcases Nat.lt_or_ge i next with h|h
        ·have:=g5 i h;omega
        ·have:=hge i h hi;omega
      ·(repeat refine AW.seq_k fun K hK=>?_);refine AW.rg ?_;simp[hn];try (refine hK _ rfl ?_;clear hK K)
       refine AW.no ?_ rfl;refine AW.skip ?_;try simp
       refine⟨fun hm=>?_,fun i hi hi2=>by omega⟩;obtain⟨i,hi,e⟩:=List.mem_iff_getElem.1 hm;have e:ps.getD i 0=j:=by rw[List.getD_eq_getElem?_getD,List.getElem?_eq_getElem hi];exact e
       have:=g5 i (by omega);omega
     rintro _ ⟨hnm,hge⟩;(repeat refine AW.seq_k fun K hK=>?_);refine AW.rg ?_;simp;try (refine hK _ rfl ?_;clear hK K)
     refine Ac.val hwid ?_;simp;refine Ac.make hvec ?_;rintro bv _ _ ⟨rfl,rfl⟩ hbv _;simp;refine hK _ rfl ?_;clear hK K;obtain⟨nbc,nbo⟩:=g2.fresh hbv;(repeat refine AW.seq_k fun K hK=>?_);refine AW.rg ?_;simp;try (refine hK _ rfl ?_;clear hK K)
     refine Ac.val hone ?_;simp[hj];refine hK _ rfl ?_;clear hK K;generalize hv0:(List.replicate w (0:Rat)).set j 1=v0 at *;have hv0l:v0.length=w:=by rw[←hv0];simp
     have hv0e:(Cp (List.replicate w (Bd 0))).set j (Bd 1).av=Cp (v0.map Bd):=by
      rw[Lc,←hv0,List.map_set,List.map_replicate]
     refine AW.seq_ex (ι:=AV) (fun x=>[(0,A8 m),(4,A8 (Cm Y)),(5,.sl 1 (Ao ps)),(7,.ptr c 1 0 0),(8,ov),(9,.int .i64 (next:Nat)),(10,.int .i64 (j:Nat)),(11,.osl bv 4 0 w),(26,.int .i64 w),(27,.int .i64 (j:Nat))]) (fun x=>(M.set c ⟨118,1,[x]⟩).set bv ⟨44,4,Cp ((Xl Y ps w j).map Bd)⟩) (fun x=>Gf x 0) ?_ ?_
     ·(repeat refine AW.seq_k fun K hK=>?_);refine AW.rg ?_;simp;try (refine hK _ rfl ?_;clear hK K)
      refine AW.block (AW.loopS (ι:=Nat × AV) (fun z=>[(0,A8 m),(4,A8 (Cm Y)),(5,.sl 1 (Ao ps)),(7,.ptr c 1 0 0),(8,ov),(9,.int .i64 (next:Nat)),(10,.int .i64 (j:Nat)),(11,.osl bv 4 0 w),(26,.int .i64 w),(27,.int .i64 (j:Nat)),(51,.sl 1 (Ao ps)),(52,.int .i64 ps.length),(53,.int .i64 (z.1:Nat))]) (fun z=>(M.set c ⟨118,1,[z.2]⟩).set bv ⟨44,4,Cp ((Y0 Y ps j z.1 v0).map Bd)⟩) (fun z=>z.1≤ps.length∧Gf z.2 0) (fun z=>ps.length-z.1) (0,x) ⟨by simp,g3⟩ ?_ (by simp) ?_)
      ·show M.set bv _=(M.set c _).set bv _
       rw[Aa.set_self g2.cell];rw[Lc]at hv0e;rw[hv0e];rfl
      rintro⟨k,x⟩ ⟨q1,q2⟩;simp only at q1 q2;(repeat refine AW.seq_k fun K hK=>?_);refine AW.rg ?_;simp;try (refine hK _ rfl ?_;clear hK K)
      (repeat refine AW.seq ?_);refine AW.cs (fun hk=>?_) (fun hk=>?_) rfl<;>(try simp at hk)
      ·refine AW.skip ?_;try simp
       (repeat refine AW.seq ?_);refine AW.block ?_;(repeat refine AW.seq_k fun K hK=>?_);refine AW.rg ?_;simp[hk];try (refine hK _ rfl ?_;clear hK K)
       have hkY:k<Y.length:=by omega
       have hkE:k<(Cm Y).length:=by rw[Bh];exact hkY
       have hlk:(Am (Cm Y) k).length=w:=by rw[Ce,List.length_map];exact y2 k hkY
       have hjl:j<(Am Y k).length:=by rw[y2 k hkY];exact hj
       have hel:rr (Am (Cm Y) k) j=Bd (I3 Y k j):=by rw[Ce,Iy hjl];rfl
       have hgd:B2 (I3 Y k j):=y1.at hjl;obtain⟨n1,n2⟩:=Qhi hgd;have hpk:ps.getD k 0=ps[k]:=by rw[List.getD_eq_getElem?_getD,List.getElem?_eq_getElem hk];rfl
       have hpw:ps[k]<w:=y6 _ (List.getElem_mem hk);have hlf:(Y0 Y ps j k v0).length=w:=by rw[Kb,hv0l]
       have w3:=Aq (k+1) (by omega);(repeat refine AW.seq_k fun K hK=>?_);refine AW.rd [0,1,2,4,5,6,7,8,9,10,3,11,12,13] Dm ?_;simp[hkE,hlk,hj,hel];try (refine hK _ rfl ?_;clear hK K)
       refine Ac.val hzero ?_;simp;refine Qfj (c:=c) (x:=x) (e:=0) (a:=Bd 0) (b:=Bd (I3 Y k j)) (by simp[Ne.symm nbc]) (by simp) q2 (F7 _) (F7 _) (fun _=>⟨Ew Ut,Ew hgd⟩) ?_;rw[Gu,Gu,n1,Kx rfl];intro x' hx';simp[hpw,hlf,nbc];(repeat refine AW.seq_k fun K hK=>?_);refine AW.rg ?_;simp[-Int.natCast_add,w3];try (refine hK _ rfl ?_;clear hK K)
       refine⟨k+1,x',⟨hk,hx'⟩,by omega,?_,rfl⟩;rw[Sn (Ne.symm nbc)];rw[show Y0 Y ps j (k+1) v0=(Y0 Y ps j k v0).set (ps.getD k 0) (-(I3 Y k j)) from rfl,hpk,List.map_set]
      ·refine AW.exit ?_;try simp
       have:k=ps.length:=by omega
       subst this;exact⟨x,q2,by unfold Xl;rw[hv0]⟩
     rintro x' hx';have g2':=g2.setE x';have hM':(M.set c ⟨118,1,[x']⟩) bv=none:=by simp only[A2];rw[if_neg nbc];exact hbv
     refine AW.turn [(0,A8 m),(4,A8 (Cm Y)),(5,.sl 1 (Ao ps)),(7,.ptr c 1 0 0),(8,ov),(9,.int .i64 (next:Nat)),(10,.int .i64 (j:Nat)),(11,A6 ((Xl Y ps w j).map Bd)),(26,.int .i64 w),(27,.int .i64 (j:Nat))] (M.set c ⟨118,1,[x']⟩) (Bl.drop hM' (g2'.ones hx' ?_)) ?_ ?_
     ·intro v hv;obtain⟨r,_,rfl⟩:=List.mem_map.1 hv;rfl
     ·simp;exact Yz (Aa.set_same _ _ _) hM' (by rw[List.length_map,Xc])
     have hfin:∀s:Qjj,s.next=next→Gf s.x 0→Ik s.M c s.x 51 1 s.ov s.ob ((Cm (Li Y ps w j)).map A6++[A6 ((Xl Y ps w j).map Bd)])→Qnr c Y ps w (j+1) s:=by
      intro s h1 h2 h3;refine⟨?_,h2,by rw[h1];exact g4,fun i hi=>?_,by rw[h1];exact hge⟩
      ·rw[Tp,if_neg hnm];simpa[Cm]using h3
      ·rw[h1]at hi;have:=g5 i hi;omega
     have hll:((Cm (Li Y ps w j)).map A6).length≤j:=by
      rw[List.length_map,Bh];unfold Li;rw[List.length_map];exact Nat.le_trans (List.length_filter_le _ _) (by simp)
     generalize(Cm (Li Y ps w j)).map A6=l at *;generalize M.set c ⟨118,1,[x']⟩=M' at *;rcases g2'.lst with⟨z1,z2,z3⟩ | ⟨b0,z2,z3,z4⟩
     ·subst z1 z2 z3;(repeat refine AW.seq_k fun K hK=>?_);refine AW.rgR [74] ?_;simp;try (refine hK _ rfl ?_;clear hK K)
      exact⟨by unfold maxLen;omega,Ai.intro fun b hb=>⟨⟨next,x',_,_,[b]⟩,hfin _ rfl hx' (g2'.push0 hb _),rfl,rfl,rfl⟩⟩
     ·subst z2 z3;have hl2:l.length<2^40:=by omega
      (repeat refine AW.seq_k fun K hK=>?_);refine AW.rgR [74] ?_;simp[z4];try (refine hK _ rfl ?_;clear hK K)
      exact⟨by omega,by unfold maxLen;omega,Ai.intro fun b hb=>⟨⟨next,x',_,_,[b]⟩,hfin _ rfl hx' (g2'.push1 hb _),rfl,rfl,rfl⟩⟩
    rintro⟨next,x,M,ov,ob⟩ hs;(repeat refine AW.seq_k fun K hK=>?_);refine AW.rg ?_;simp[-Int.natCast_add,w1];try (refine hK _ rfl ?_;clear hK K)
    exact⟨j+1,⟨next,x,M,ov,ob⟩,⟨hj,hs⟩,by omega,by simp⟩
   ·refine AW.exit ?_;try simp
    have:j=w:=by omega
    subst this;exact⟨x,⟨ob,g2⟩,g3⟩
  rintro⟨M,x,ov,ob⟩ ⟨g1,g2⟩;simp only at g1 g2;have hx:x.cells=[.int .i64 0]:=g2;(repeat refine AW.seq_k fun K hK=>?_);refine AW.rg ?_;simp[g1.cell,hx];try (refine hK _ rfl ?_;clear hK K)
  refine AW.no ?_ rfl;refine AW.skip ?_;try simp
  refine hK _ rfl ?_;clear hK K;(repeat refine AW.seq_k fun K hK=>?_);refine AW.rg ?_;simp;try (refine hK _ rfl ?_;clear hK K)
  have hv:=g1.lst.view (M':=Aa.emp) (fun _ _=>rfl);exact AW.ret (Ah [A8 (Cm (Li Y ps w w)),.int .i64 0] rfl ⟨hv,.same _,trivial⟩ ⟨rfl,rfl⟩)
 ·have hK:Uw m=((H5 m).1,[]):=if_pos h0;rw[hK];generalize H5 m=z at *;obtain⟨e,Y,ps⟩:=z;simp only at h0 hr ⊢;refine Ad Tryz.func106 rfl rfl 87 rfl (Nat.le_of_ble_eq_true rfl) ?_;(repeat refine AW.seq_k fun K hK=>?_);refine AW.rg ?_;simp[Ak];try (refine hK _ rfl ?_;clear hK K)
  (repeat refine AW.seq_k fun K hK=>?_);refine AW.rg ?_;simp;try (refine hK _ rfl ?_;clear hK K)
  refine Ac.val hr ?_;simp;refine hK _ rfl ?_;clear hK K;(repeat refine AW.seq_k fun K hK=>?_);refine AW.rg ?_;simp[h0];try (refine hK _ rfl ?_;clear hK K)
  refine AW.yes ?_ rfl;(repeat refine AW.seq_k fun K hK=>?_);refine AW.rg ?_;simp;try (refine hK _ rfl ?_;clear hK K)
  exact AW.ret (Ah [A8 [],.int .i64 e] rfl ⟨.nilsl 1,.same _,trivial⟩ ⟨rfl,rfl⟩)
end Go.Av
end
section
namespace Go.Av
section
variable {P:Program} {cf:Dn} {ops:Array Oper}
def Ya (ro:Nat→Bool) (o:Oper):Bool:=match o.op,o.dst with
 |.buildSlice _ _ _,some d=>ro d
 |_,_=>false
theorem Qf8 {o:Oper} (h:Ya cf.ro o=true) (s:St):∃(C:Prop) (v:AV),∀(m:Aa) (k:AV→Aa→Prop),Eb P cf o {s with m:=m} k↔C∧k v m:=by
 unfold Ya at h;split at h
 ·rename_i t len parts d ho hd
  have hev:∀(m:Aa) (x:Operand),({s with m:=m}:St).ev x=s.ev x:=fun m x=>by cases x<;>rfl
  by_cases hc:∃ti e te,Ag P t=some ti∧ti.cls=.slice e∧Ag P e=some te∧0<te.size∧len*te.size≤16777216 ∧
   parts.toList.map (·.1)=List.range len∧((parts.toList.map fun(p:Nat × Operand)=>s.ev p.2).all fun v=>v.cells.length==te.size&&v.cells.all AV.one)=true
  ·obtain⟨ti,e,te,c1,c2,c3,c4,c5,c6,c7⟩:=hc;refine⟨True,.sl te.size (parts.toList.map fun(p:Nat × Operand)=>s.ev p.2),fun m k=>?_⟩;unfold Eb;simp only[ho,hd,h,if_true,hev,true_and];constructor
   ·rintro⟨ti',e',te',d1,d2,d3,d4,d5,d6,d7,d8⟩;rw[c1]at d1;cases d1;rw[c2]at d2;cases d2;rw[c3]at d3;cases d3;exact d8
   ·intro hk;exact⟨ti,e,te,c1,c2,c3,c4,c5,c6,c7,hk⟩
  ·refine⟨False,.any,fun m k=>⟨fun hk=>?_,fun hk=>hk.1.elim⟩⟩;unfold Eb at hk;simp only[ho,hd,h,if_true,hev]at hk;obtain⟨ti,e,te,d1,d2,d3,d4,d5,d6,d7,d8⟩:=hk;exact absurd ⟨ti,e,te,d1,d2,d3,d4,d5,d6,d7⟩ hc
 ·cases h
theorem Qdz {o:Oper} (h:Ya cf.ro o=true) (s:St):∃(C:Prop) (v:AV),∀(m:Aa) (k:AV→Aa→Prop),Cl P cf ops o {s with m:=m} k↔C∧k v m:=by
 rcases Hi (P:=P) (cf:=cf) (ops:=ops) o s with c|c|c
 ·obtain⟨C,v,e⟩:=Qf8 (P:=P) h s;exact⟨C,v,fun m k=>(c m k).trans (e m k)⟩
 ·exact⟨True,.tup [],fun m k=>by rw[c];simp⟩
 ·exact⟨False,.any,fun m k=>⟨fun hk=>(c m k hk).elim,fun hk=>hk.1.elim⟩⟩
theorem Qdj {o1 o2:Oper} (h1:Ya cf.ro o1=true) (s:St) (m0:Aa) (k:AV→AV→Aa→Prop)
  (h:Cl P cf ops o1 {s with m:=m0} fun v1 m1=>Cl P cf ops o2 {s with m:=m1} fun v2 m2=>k v1 v2 m2) :
  Cl P cf ops o2 {s with m:=m0} fun v2 m2=>Cl P cf ops o1 {s with m:=m2} fun v1 m1=>k v1 v2 m1:=by
 obtain⟨C,v,e⟩:=Qdz (P:=P) (ops:=ops) h1 s;rw[e]at h;exact Bj (fun v2 m2 hk=>(e m2 _).2 ⟨h.1,hk⟩) h.2
def Mz (P:Program) (ro:Nat→Bool) (q:G6) (ops:Array Oper) (j i:Nat):Bool :=
 match ops[j]?,ops[i]? with
 |some oj,some oi=>oj.apart ops oi&&((Bf oj).comm (Bf oi)&&(Bf oj != .z || zOk P ro oj)&&(Bf oi != .z || zOk P ro oi) || Rt q oj oi || Ya ro oj)
 |_,_=>false
theorem Qh1 (hdm:cf.dm=true) {q:G6} {blk:Nat→Nat} (hdst:∀(i:Nat) (o:Oper),ops[i]?=some o→I4 q o=true) {i:Nat} {K:St→Prop}:∀(R1 R2:List Nat) (s:St),Im q blk cf.av s→(∀j∈R1,Mz P cf.ro q ops j i=true)→Bz P cf ops (R1++i::R2) K s→Bz P cf ops (i::(R1++R2)) K s
 |[],R2,s,_,_,h=>h
 |j::R1,R2,s,hsep,hp,h=>by
  have hj:=hp j (by simp);unfold Mz at hj;simp only[List.cons_append]at h ⊢;unfold Bz at h;split at h
  ·rename_i oj hoj
   simp only[hoj]at hj;cases hoi:ops[i]? with
   |none=>simp[hoi]at hj
   |some oi =>
    simp only[hoi,Bool.and_eq_true,Bool.or_eq_true,bne_iff_ne]at hj;obtain⟨p1,p2⟩:=hj;have h2:B3 P cf ops oj (B3 P cf ops oi (Bz P cf ops (R1++R2) K)) s:=by
     refine Bj (fun v m hk=>?_) (hsep.step (hdst j oj hoj) h);have:=Qh1 hdm hdst R1 R2 _ hk.1 (fun j' hj'=>hp j' (by simp[hj'])) hk.2;unfold Bz at this;simpa only[hoi]using this
    have h3:B3 P cf ops oi (B3 P cf ops oj (Bz P cf ops (R1++R2) K)) s:=by
     rcases p2 with(⟨⟨p2,p3⟩,p4⟩|p2)|p2
     ·exact T7 hdm p1 p2 (fun e=>p3.resolve_left (fun h=>h e)) (fun e=>p4.resolve_left (fun h=>h e)) h2
     ·exact J5 p1 (fun k hk=>X7 hdm p2 hsep s.m k hk) h2
     ·exact J5 p1 (fun k hk=>Qdj p2 s s.m k hk) h2
    unfold Bz;simp only[hoi];refine Bj (fun v m hk=>?_) h3;unfold Bz;simpa only[hoj]using hk
  ·exact h.elim
def Ld (P:Program) (ro:Nat→Bool) (q:G6) (ops:Array Oper) (plan:List Nat):Bool :=
 ops.toList.all (I4 q)&&(
 (List.range ops.size).all (fun i=>plan.contains i)&&plan.all (fun i=>Nat.blt i ops.size)&&decide (plan.Nodup∧plan.length≤ops.size) &&
 (plan.zipIdx.all fun(i,k)=>(plan.take k).all fun j=>!Hk ops ops.size j i&&(Hk ops ops.size i j || Mz P ro q ops j i)) &&
 ops.toList.zipIdx.all fun(o,i)=>o.after.toList.all fun e=>!Region.binds .any e || (Nat.blt e.on ops.size&&e.on != i))
theorem U6 (hdm:cf.dm=true) {q:G6} {blk:Nat→Nat} {plan:List Nat} (hp:Ld P cf.ro q ops plan=true) {K:St→Prop}:∀(fuel:Nat) (listed:Array Bool) (s:St),Im q blk cf.av s→listed.size=ops.size→Ku ops listed →
  (plan.filter fun i=>!listed.getD i true).length≤fuel→Bz P cf ops (plan.filter fun i=>!listed.getD i true) K s→Lk P cf ops K fuel listed s:=by
 unfold Ld at hp;simp only[Bool.and_eq_true]at hp;obtain⟨p0,⟨⟨⟨p1,p2⟩,p3⟩,p4⟩,p5⟩:=hp;have hdst:∀(i:Nat) (o:Oper),ops[i]?=some o→I4 q o=true:=fun i o ho=>List.all_eq_true.1 p0 o (List.mem_of_getElem? (by rw[Array.getElem?_toList];exact ho));have hnd:plan.Nodup:=(of_decide_eq_true p3).1;have hall:∀i,i<ops.size→i∈plan:=fun i hi=>by
  have:=List.all_eq_true.1 p1 i (List.mem_range.2 hi);simpa using this
 have hlt:∀i∈plan,i<ops.size:=fun i hi=>by
  have:=List.all_eq_true.1 p2 i hi;simpa[Nat.blt_eq]using this
 have hpair:∀R1 R2 i,plan=R1++i::R2→∀j∈R1,Hk ops ops.size j i=false∧(Hk ops ops.size i j=true∨Mz P cf.ro q ops j i=true):=by
  intro R1 R2 i hpl j hj;have h1:=List.all_eq_true.1 p4 (i,R1.length) (by
   rw[List.mem_iff_getElem?];refine⟨R1.length,?_⟩;rw[List.getElem?_zipIdx,hpl];simp)
  have h2:=List.all_eq_true.1 h1 j (by simp[hpl,hj]);simpa using h2
 have hedge:∀i o,ops[i]?=some o→∀e∈o.after.toList,Region.binds .any e=true→e.on<ops.size∧e.on≠i:=by
  intro i o ho e he hb;have h1:=List.all_eq_true.1 p5 (o,i) (by
   rw[List.mem_iff_getElem?];refine⟨i,?_⟩;rw[List.getElem?_zipIdx,Array.getElem?_toList,ho];simp)
  have h2:=List.all_eq_true.1 h1 e he;simpa[hb,Nat.blt_eq]using h2
 -- with nothing ready all has been done
 have hdone:∀(listed:Array Bool),listed.size=ops.size→Region.ready .any ops listed=[]→(plan.filter fun i=>!listed.getD i true)=[]:=by
  intro listed hsz hr;cases hf:plan.filter fun i=>!listed.getD i true with
  |nil=>rfl
  |cons h rest =>
   exfalso
   have hmem:h∈plan.filter fun i=>!listed.getD i true:=by rw[hf];simp
   have hh:=List.mem_filter.1 hmem;have hready:h∈Region.ready .any ops listed:=by
    rw[Dk];refine⟨hlt h hh.1,by simpa using hh.2,fun o ho e he hb=>?_⟩;obtain⟨e1,e2⟩:=hedge h o ho e he hb
    -- what is needed stands ahead in the plan
    cases hl:listed.getD e.on false with
    |true=>rfl
    |false =>
     exfalso
     have hl':listed.getD e.on true=false:=by
      rw[Array.getD_eq_getD_getElem?,Array.getElem?_eq_getElem (by rw[hsz];exact e1)]at hl ⊢;exact hl
     have hin:e.on∈plan.filter fun i=>!listed.getD i true:=List.mem_filter.2 ⟨hall _ e1,by simp[hl']⟩;rw[hf]at hin;have hin2:e.on∈rest:=by
      rcases List.mem_cons.1 hin with q|q
      ·exact absurd q e2
      ·exact q
     -- h stands ahead of e.on in the plan,yet needs it
     obtain⟨A,B,hAB⟩:=List.append_of_mem hin2;have hsub:List.Sublist (h::e.on::[]) plan:=by
      have s1:List.Sublist (h::e.on::[]) (h::rest):=by
       rw[hAB];exact List.Sublist.cons_cons h ((List.Sublist.cons_cons e.on (List.nil_sublist B)).trans (List.sublist_append_right A _))
      rw[←hf]at s1;exact s1.trans List.filter_sublist
     obtain⟨R1,R2,q1⟩:=List.append_of_mem (hall _ e1);have hin1:h∈R1:=by
      rw[q1]at hsub hnd;have:=hnd;rw[List.nodup_append]at this;obtain⟨n1,n2,n3⟩:=this;rcases List.sublist_append_iff.1 hsub with⟨l1,l2,hl12,s1,s2⟩
      cases l1 with
      |cons x xs =>
       have:x=h:=by simp at hl12;exact hl12.1.symm
       subst this;exact s1.subset (by simp)
      |nil =>
       simp at hl12;subst hl12;have hn2:=List.nodup_cons.1 n2;rcases List.sublist_cons_iff.1 s2 with s3 | ⟨r,hr',s3⟩
       ·exact absurd (s3.subset (by simp)) hn2.1
       ·simp at hr';obtain⟨hh1,hh2⟩:=hr';exact absurd hh1.symm (by intro q;exact e2 q)
     have:=(hpair R1 R2 e.on q1 h hin1).1;have hreach:Hk ops ops.size h e.on=true:=by
      have hpos:0<ops.size:=by omega
      obtain⟨f,hf'⟩:∃f,ops.size=f+1:=⟨ops.size-1,by omega⟩;rw[hf'];unfold Hk;rw[ho];simp only[Bool.or_eq_true,List.any_eq_true];exact .inl ⟨e,he,by simp[hb]⟩
     rw[hreach]at this;cases this
   rw[hr]at hready;cases hready
 intro fuel
 induction fuel with
 |zero =>
  intro listed s hsep hsz hc hle hk;have hnil:(plan.filter fun i=>!listed.getD i true)=[]:=List.eq_nil_of_length_eq_zero (by omega);refine⟨?_,by rw[hnil]at hk;exact hk⟩;cases hr:Region.ready .any ops listed with
  |nil=>rfl
  |cons i rest =>
   exfalso
   have hi:i∈Region.ready .any ops listed:=by rw[hr];simp
   rw[Dk]at hi;have:i∈plan.filter fun i=>!listed.getD i true:=List.mem_filter.2 ⟨hall i hi.1,by simp[hi.2.1]⟩;rw[hnil]at this;cases this
 |succ fuel ih =>
  intro listed s hsep hsz hc hle hk;refine⟨fun hr=>by rw[hdone listed hsz hr]at hk;exact hk,fun i hi=>?_⟩;have hi':=Dk.1 hi;have hin:i∈plan.filter fun i=>!listed.getD i true:=List.mem_filter.2 ⟨hall i hi'.1,by simp[hi'.2.1]⟩;obtain⟨R1,R2,hR⟩:=List.append_of_mem hin;have hpass:∀j∈R1,Mz P cf.ro q ops j i=true:=by
   intro j hj;have hjf:j∈plan.filter fun i=>!listed.getD i true:=by rw[hR];simp[hj]
   have hjl:=List.mem_filter.1 hjf
   -- j stands ahead of i in the plan
   have hsub:List.Sublist (j::i::[]) plan:=by
    have s1:List.Sublist (j::i::[]) (R1++i::R2):=by
     obtain⟨A,B,hAB⟩:=List.append_of_mem hj;rw[hAB,List.append_assoc];refine List.Sublist.trans ?_ (List.sublist_append_right A _);exact List.Sublist.cons_cons j ((List.Sublist.cons_cons i (List.nil_sublist R2)).trans (List.sublist_append_right B _))
    rw[←hR]at s1;exact s1.trans List.filter_sublist
   have hij:j≠i:=by
    have hndf:(plan.filter fun i=>!listed.getD i true).Nodup:=List.Nodup.sublist List.filter_sublist hnd;rw[hR,List.nodup_append]at hndf;exact fun e=>hndf.2.2 j hj i (by simp) e
   obtain⟨Q1,Q2,q1⟩:=List.append_of_mem (hall i hi'.1);have hin1:j∈Q1:=by
    have hnd':=hnd;rw[q1]at hsub hnd';rw[List.nodup_append]at hnd';obtain⟨n1,n2,n3⟩:=hnd';rcases List.sublist_append_iff.1 hsub with⟨l1,l2,hl12,s1,s2⟩
    cases l1 with
    |cons x xs =>
     have:x=j:=by simp at hl12;exact hl12.1.symm
     subst this;exact s1.subset (by simp)
    |nil =>
     simp at hl12;subst hl12;have hn2:=List.nodup_cons.1 n2;rcases List.sublist_cons_iff.1 s2 with s3 | ⟨r,hr',s3⟩
     ·exact absurd (s3.subset (by simp)) hn2.1
     ·simp at hr';exact absurd hr'.1 hij
   rcases(hpair Q1 Q2 i q1 j hin1).2 with hreach|hp
   ·have:=I8 hsz hc ops.size i j hi'.2.2 hreach;have hjs:j<listed.size:=by rw[hsz];exact hlt j hjl.1
    rw[Array.getD_eq_getD_getElem?,Array.getElem?_eq_getElem hjs]at this;have h2:=hjl.2;rw[Array.getD_eq_getD_getElem?,Array.getElem?_eq_getElem hjs]at h2;simp at this h2;rw[this]at h2;cases h2
   ·exact hp
  rw[hR]at hk;have hfront:=Qh1 hdm hdst R1 R2 s hsep hpass hk;unfold Bz at hfront;cases hoi:ops[i]? with
  |none=>simp[hoi]at hfront
  |some o =>
   simp only[hoi]at hfront ⊢;refine Bj (fun v m hk3=>?_) (hsep.step (hdst i o hoi) hfront);have hk2:=hk3.2;have hil:i<listed.size:=by rw[hsz];exact hi'.1
   have hfil:(plan.filter fun j=>!(listed.setIfInBounds i true).getD j true)=R1++R2:=by
    have e1:(plan.filter fun j=>!(listed.setIfInBounds i true).getD j true)=(plan.filter fun j=>!listed.getD j true).filter fun j=>j != i:=by
     rw[List.filter_filter];refine List.filter_congr fun j _=>?_;rw[Fe hil];by_cases h:j=i<;>simp[h]
    have hndf:(plan.filter fun i=>!listed.getD i true).Nodup:=List.Nodup.sublist List.filter_sublist hnd;rw[e1,hR];rw[hR,List.nodup_append]at hndf;obtain⟨n1,n2,n3⟩:=hndf;rw[List.filter_append,List.filter_cons];have f1:R1.filter (fun j=>j != i)=R1:=List.filter_eq_self.2 fun j hj=>by
     have:=n3 j hj i (by simp);simpa using this
    have f2:R2.filter (fun j=>j != i)=R2:=List.filter_eq_self.2 fun j hj=>by
     have:=(List.nodup_cons.1 n2).1;have hne:j≠i:=fun e=>this (e ▸ hj);simpa using hne
    rw[f1,f2];simp
   refine ih _ _ hk3.1 (by simpa using hsz) (fun i' o' ho' hl' e he hb=>?_) (by rw[hfil];rw[hR]at hle;simp at hle ⊢;omega) (by rw[hfil];exact hk2);rw[Fe hil]at hl' ⊢;by_cases h1:e.on=i
   ·rw[if_pos h1]
   ·rw[if_neg h1];by_cases h2:i'=i
    ·subst h2;rw[hoi]at ho';cases ho';exact hi'.2.2 o hoi e he hb
    ·rw[if_neg h2]at hl';exact hc i' o' ho' hl' e he hb
theorem AW.drawV {Q:Exit→St→Prop} {s:St} {id:Nat} {ops:Array Oper} (ro:Nat→Bool) (q:G6) (blk:Nat→Nat) (av:Nat→Prop) (hsep:Im q blk av s) (plan:List Nat) (hm:P.follows .mixedOrders=true) (hok:Bo s.n ops=true) (hp:Ld P ro q ops plan=true)
  (hav:∀b,av b→s.m b≠none) (h:Bz P ⟨ro,av,true⟩ ops plan (Q .normal) s):AW P (.region id ops true) Q s:=by
 intro F G w0 a w hr;refine wp_region_any hm ?_;have hok':∀i o,ops[i]?=some o→(Fz s.n o&&H2 ops s.n o)=true:=fun i o ho=>by
  unfold Bo at hok;exact List.all_eq_true.1 hok o (List.mem_of_getElem? (by rw[Array.getElem?_toList];exact ho))
 have hfil:(plan.filter fun i=>!(Array.replicate ops.size false).getD i true)=plan:=by
  refine List.filter_eq_self.2 fun i hi=>?_;have hlt:i<ops.size:=by
   unfold Ld at hp;simp only[Bool.and_eq_true]at hp;have:=List.all_eq_true.1 hp.2.1.1.1.2 i hi;simpa[Nat.blt_eq]using this
  simp[hlt]
 have hlen:plan.length≤ops.size:=by
  unfold Ld at hp;simp only[Bool.and_eq_true]at hp;exact(of_decide_eq_true hp.2.1.1.2).2
 have hany:Lk P ⟨ro,av,true⟩ ops (Q .normal) ops.size (Array.replicate ops.size false) s:=by
  have hcl:Ku ops (Array.replicate ops.size false):=fun i o ho hl e he hb=>by
   have hi:i<ops.size:=(Array.getElem?_eq_some_iff.1 ho).1;rw[Array.getD_eq_getD_getElem?,Array.getElem?_replicate,if_pos hi]at hl;cases hl
  refine U6 (cf:=⟨ro,av,true⟩) rfl hp ops.size _ s hsep Array.size_replicate hcl ?_ ?_
  ·rw[hfil];exact hlen
  ·rw[hfil];exact h
 have hav':∀b,av b→b<w.heap.size:=fun b hb=>hr.lt (hav b hb);have hd:Ds F G w0 s a {w with drawn:=w.drawn+1}:=hr.drew;exact Jh (F:=F) (G:=G) (w0:=w0) (cf:=⟨ro,av,true⟩) s.n w.heap.size hav' (fun a w h=>h) hok' ops.size _ s a {w with drawn:=w.drawn+1} (Nat.le_refl _) rfl hd hany
theorem AW.rdV {Q:Exit→St→Prop} {s:St} {id:Nat} {ops:Array Oper} (ro:List Nat) (plan:List Nat) (hm:P.follows .mixedOrders=true) (h:Bz P ⟨roL ro,fun _=>False,true⟩ ops plan (Q .normal) s)
  (hok:Bo s.n ops=true:=by kernel_rfl) (hp:Ld P (roL ro) G6.no ops plan=true:=by kernel_rfl):AW P (.region id ops true) Q s :=
 AW.drawV (roL ro) G6.no (fun r=>r) (fun _=>False) ⟨fun _ h=>(by cases h),fun _ _ h=>(by cases h),fun _ h=>(by cases h),fun _ h=>(by cases h)⟩ plan hm hok hp (fun _ h=>h.elim) h
end
end Go.Av
end
section
namespace Go.Av
section
variable {P:Program}
def Qnh (o:Oper):Bool:=match o.op with
 |.call c=>match c.callee,c.args.toList with
  |.builtin .min,[_,_,_]=>true
  |_,_=>false
 |_=>false
def Qvj (a b d:Int):Int:=if d<(if b<a then b else a) then d else (if b<a then b else a)
def Qui (o:Oper) (s:St):Option AV:=match o.op with
 |.call c=>match c.callee,c.args.toList with
  |.builtin .min,[x,y,z]=>match s.ev x,s.ev y,s.ev z with
   |.int k a,.int _ b,.int _ d=>some (.int k (Qvj a b d))
   |_,_,_=>none
  |_,_=>none
 |_=>none
def Qt1 (P:Program) (cf:Dn) (o:Oper) (K:St→Prop) (s:St):Prop:=if Qnh o=true then ∃v,Qui o s=some v∧K ({s with m:=s.m}.put o.dst v) else Eg P cf o K s
def Qcd (P:Program) (cf:Dn):List Oper→(St→Prop)→St→Prop
 |[],K,s=>K s
 |o::rest,K,s=>o.guard=none∧Qt1 P cf o (Qcd P cf rest K) s
@[simp] theorem Qr0 (cf:Dn) (K:St→Prop) (s:St):Qcd P cf [] K s=K s:=(rfl)
@[simp] theorem Qph (cf:Dn) (d:Option Tmp) (op:Op) (t:TypeId) (p:String) (a:Array Edge) (l:List Oper) (K:St→Prop) (s:St) :
  Qcd P cf ({dst:=d,op:=op,type:=t,pos:=p,after:=a,guard:=none}::l) K s↔Qt1 P cf {dst:=d,op:=op,type:=t,pos:=p,after:=a,guard:=none} (Qcd P cf l K) s:=by
 show(_∧_)↔_
 simp
end
end Go.Av
end
section
namespace Go.Av
section
variable {P:Program}
def isY (o:Oper):Bool:=match o.op with
 |.slice _ _ (some _) (some _) none=>true
 |.call c=>match c.callee with | .builtin .clear=>true | _=>false
 |_=>false
def Qkg (P:Program) (o:Oper) (s:St) (k:AV→Aa→Prop):Prop:=match o.op with
 |.slice t x (some lo) (some hi) none=>∃ti e te b i n blk k1 k2,∃l h:Nat,Ag P t=some ti∧ti.cls=.slice e∧Ag P e=some te∧s.ev x=.osl b te.size i n∧s.m b=some blk∧blk.z=te.size ∧
   s.ev lo=.int k1 l∧s.ev hi=.int k2 h∧l<h∧i+h≤blk.l.length∧k (.osl b te.size (i+l) (h-l)) s.m
 |.call c=>match c.callee with
  |.builtin .clear=>∃x t ti e te b i n l,c.args.toList=[x]∧c.argTypes.toList=[t]∧Ag P t=some ti∧ti.cls=.slice e∧Ag P e=some te∧te.size=1∧te.zero.one=true ∧
    s.ev x=.osl b 1 i n∧s.m b=some ⟨e,1,l⟩∧0<n∧i+n≤l.length∧k .any (s.m.set b ⟨e,1,l.take i++List.replicate n te.zero++l.drop (i+n)⟩)
  |_=>False
 |_=>False
theorem Tb (z:Value) (hz:z.cells=#[z]) (n:Nat):(Builtin.zeroCells z.cells n).toList=List.replicate n z:=by
 rw[hz];refine List.ext_getElem? fun k=>?_;rw[Array.getElem?_toList,List.getElem?_replicate];simp only[Builtin.zeroCells,List.size_toArray,List.length_cons,List.length_nil,Nat.mul_one,Nat.zero_add,Array.getElem?_map];by_cases h:k<n
 ·rw[if_pos h,Array.getElem?_range,if_pos h];simp[Nat.mod_one]
 ·rw[if_neg h,Array.getElem?_range,if_neg h];rfl
theorem Qbl {F G:Nat→Prop} {w0 w:World} {s:St} {a:Act} (hrel:Ds F G w0 s a w) {o:Oper} (hok:Fz s.n o=true) {K:St→Prop} (h:Qkg P o s fun v m'=>K ({s with m:=m'}.put o.dst v)) (Q:Exit→Act→World→Prop):o.wp P a w (E5 F G w0 s.n K) Q:=by
 have hd:Lo s.n o.dst=true:=by unfold Fz at hok;rw[Bool.and_eq_true]at hok;exact hok.1
 have hall:∀x∈o.op.operands.toList,F0 s.n x=true:=by unfold Fz at hok;rw[Bool.and_eq_true]at hok;exact List.all_eq_true.1 hok.2
 unfold Qkg at h;split at h
 ·rename_i t x lo hi ho
  rw[ho]at hall;obtain⟨ti,e,te,b,i,n,blk,k1,k2,l,hh,ht,hc,hte,hx,hb,hbz,hlo,hhi,hlh,hin,hk⟩:=h;obtain⟨inf,d,z,hinf,hdd,hz,g1,g2,g3,g4,g5⟩:=(Ea ht).get;obtain⟨ie,de,ze,hie,hde,hze,q1,q2,q3,q4,q5⟩:=(Ea hte).get;rw[←g3]at hc;cases d<;>simp only[C3,reduceCtorEq,J9.slice.injEq]at hc
  subst hc;have hxv:=hrel.ev (hall x (by simp[Op.operands]));have hlv:=hrel.ev (hall lo (by simp[Op.operands]));have hhv:=hrel.ev (hall hi (by simp[Op.operands]));rw[hx]at hxv;rw[hlo]at hlv;rw[hhi]at hhv;obtain⟨cx,e1⟩:∃c,a.eval x=c:=⟨_,rfl⟩;obtain⟨cl,e2⟩:∃c,a.eval lo=c:=⟨_,rfl⟩;obtain⟨ch,e3⟩:∃c,a.eval hi=c:=⟨_,rfl⟩;rw[e1]at hxv;rw[e2]at hlv;rw[e3]at hhv;obtain⟨z0,zs,ones,cells,cap,h1,h2,h3,h4,h5⟩:=hrel.heap b blk hb;cases hlv;cases hhv;cases hxv with
  |osl _ _ _ _ c hcn hm =>
   obtain⟨cells',e',m1,m2⟩:=hm;rw[h1]at m1;cases m1;have hcap:i+c=cap:=Nat.eq_of_mul_eq_mul_right (m:=te.size) (by rw[←hbz];exact z0) (by rw[m2,h2,hbz]);have hlc:(l:Int)≤((hh:Nat):Int):=by omega
   have b1:=run_sliceBound (P:=P) w k2 (hh:Int) c BoundsCode.sliceAcap (by omega) (by omega);have b2:=run_sliceBound (P:=P) w k1 (l:Int) ((hh:Int).toNat) BoundsCode.sliceB (by omega) (by omega);refine Db (cv:=.slice (some ⟨b,(i+l)*te.size,none⟩) (hh-l) (c-l)) ?_ ⟨_,hk,Hz _ _ _,hrel.put hd (.osl _ _ _ _ _ (by omega) ⟨_,_,h1,by rw[←m2];congr 1;omega⟩)⟩;unfold execOp;rw[ho];have hne:¬c=l:=by omega
   simp only[Int.toNat_natCast]at b1 b2;simp[e1,e2,e3,Instr.sliceAt,Instr.slice,run_underlying hdd,Instr.sliceBounds,b1,b2,E7 hie,q1,hne,D1,Nat.add_mul]
 ·rename_i c ho
  rw[ho]at hall;split at h
  ·rename_i hcal
   obtain⟨x,t,ti,e,te,b,i,n,l,hxs,hts,ht,hc,hte,hz1,hone,hx,hb,hn0,hin,hk⟩:=h;obtain⟨callee,args,argTypes⟩:=c;simp only at hcal hxs hts;subst hcal;have ha:args=#[x]:=Array.toList_inj.1 hxs;have hat:argTypes=#[t]:=Array.toList_inj.1 hts;subst ha;subst hat;obtain⟨inf,d,z,hinf,hdd,hz,g1,g2,g3,g4,g5⟩:=(Ea ht).get;obtain⟨ie,de,ze,hie,hde,hze,q1,q2,q3,q4,q5⟩:=(Ea hte).get;rw[←g3]at hc;cases d<;>simp only[C3,reduceCtorEq,J9.slice.injEq]at hc
   subst hc
   rename_i e
   have hxv:=hrel.ev (hall x (by simp[Op.operands,Call.operands]));rw[hx]at hxv;obtain⟨cx,e1⟩:∃c,a.eval x=c:=⟨_,rfl⟩;rw[e1]at hxv;obtain⟨z0,zs,ones,cells,cap,h1,h2,h3,h4,h5⟩:=hrel.heap b _ hb;simp only[Nat.mul_one]at z0 zs ones h1 h2 h4 h5;have hzv:VR w (Ck F s.m) te.zero ze:=by rw[←q4];exact Ht w _ ze
   have hzo:=hzv.oneCell hone;have hzc:ze.cells=#[ze]:=by cases ze<;>first | rfl | (simp[Value.oneCell']at hzo)
   cases hxv with
   |osl _ _ _ _ cc hcn hm =>
    have hlen:(List.replicate n ze).length=n:=List.length_replicate;have hfit:i*1+(List.replicate n ze).length≤cells.size:=by rw[hlen];omega
    have hst:=run_storeCells_at P b (i*1) e (List.replicate n ze) 0 cells w h1 (by simpa using hfit) (fun v hv=>by rw[(List.mem_replicate.1 hv).2];exact hzo);simp only[Nat.add_zero]at hst;have hsz:=Kn cells (List.replicate n ze) (i*1) hfit;refine Db (cv:=.tuple #[]) (w':=w.setRow b (cells.toList.take (i*1)++List.replicate n ze++cells.toList.drop (i*1+(List.replicate n ze).length)).toArray) ?_ ⟨_,hk,by rw[Hz],(hrel.setRow hb (⟨e,1,l.take i++List.replicate n te.zero++l.drop (i+n)⟩:Es) rfl rfl h1 _ hsz ?_ (fun v hv=>?_) (fun i' j u hu=>?_) (fun i' j u hu=>?_)).put hd (.any _)⟩
    ·unfold execOp;rw[ho];have hn:n≠0:=by omega
     obtain⟨n',rfl⟩:∃n',n=n'+1:=⟨n-1,by omega⟩;have hzv':(zeroValue e).run P w=.ok ze w:=by simp[zeroValue,typeInfo,hie,hze]
     have hzl:=Tb ze hzc (n'+1);simp only[Nat.mul_one,List.length_replicate,List.append_assoc]at hst;simp[resolve,invoke,builtin,e1,Builtin.clear_,run_underlying hdd,hzv',hzl];rw[hst];simp
    ·simp;omega
    ·rcases List.mem_append.1 hv with hv|hv
     ·rcases List.mem_append.1 hv with hv|hv
      ·exact zs v (List.mem_of_mem_take hv)
      ·rw[(List.mem_replicate.1 hv).2];cases hz0:te.zero<;>rw[hz0]at hone<;>first | rfl | cases hone
     ·exact zs v (List.mem_of_mem_drop hv)
    ·have hget:∀k,(l.take i++List.replicate n te.zero++l.drop (i+n))[k]?=if i≤k∧k<i+n then some te.zero else l[k]?:=by
      intro k;by_cases p1:k<i
      ·rw[if_neg (by omega),List.append_assoc,List.getElem?_append_left (by simp;omega),List.getElem?_take,if_pos p1]
      ·by_cases p2:k<i+n
       ·rw[if_pos (by omega),List.append_assoc,List.getElem?_append_right (by simp;omega),List.getElem?_append_left (by simp;omega),List.getElem?_replicate,if_pos (by simp;omega)]
       ·rw[if_neg (by omega),List.getElem?_append_right (by simp;omega),List.getElem?_drop];congr 1;simp;omega
     unfold Ay at hu;rw[hget]at hu;split at hu
     ·have:te.zero.cells=[te.zero]:=by cases hz0:te.zero<;>rw[hz0]at hone<;>first | rfl | cases hone
      simp only[Option.bind_some,this]at hu;rcases j with _ | j
      ·simp at hu;rw[←hu];exact hone
      ·simp at hu
     ·exact ones i' j u hu
    ·have hget:∀k,(l.take i++List.replicate n te.zero++l.drop (i+n))[k]?=if i≤k∧k<i+n then some te.zero else l[k]?:=by
      intro k;by_cases p1:k<i
      ·rw[if_neg (by omega),List.append_assoc,List.getElem?_append_left (by simp;omega),List.getElem?_take,if_pos p1]
      ·by_cases p2:k<i+n
       ·rw[if_pos (by omega),List.append_assoc,List.getElem?_append_right (by simp;omega),List.getElem?_append_left (by simp;omega),List.getElem?_replicate,if_pos (by simp;omega)]
       ·rw[if_neg (by omega),List.getElem?_append_right (by simp;omega),List.getElem?_drop];congr 1;simp;omega
     have hseg:=K1 cells (List.replicate n ze) (i*1) (i'*1+j) hfit;simp only[hlen,Nat.mul_one]at hseg ⊢;have htz:te.zero.cells=[te.zero]:=by cases hz0:te.zero<;>rw[hz0]at hone<;>first | rfl | cases hone
     unfold Ay at hu;rw[hget]at hu;split at hu
     ·rename_i hb'
      simp only[Option.bind_some,htz]at hu;rcases j with _ | j
      ·simp at hu;refine⟨ze,?_,by rw[←hu];exact hzv⟩;rw[hseg,if_pos (by omega),List.getElem?_replicate,if_pos (by omega)]
      ·simp at hu
     ·rename_i hb'
      have hj0:j=0:=by
       obtain⟨v,hv1,hv2⟩:=Option.bind_eq_some_iff.1 hu;have:=zs v (List.mem_of_getElem? hv1);have:=(List.getElem?_eq_some_iff.1 hv2).1;omega
      subst hj0;obtain⟨v,p1,p2⟩:=h5 i' 0 u hu;refine⟨v,?_,p2⟩;rw[hseg,if_neg (by omega)];exact p1
  ·exact h.elim
 ·exact h.elim
def Qet (P:Program) (cf:Dn) (o:Oper) (K:St→Prop) (s:St):Prop:=if isY o=true then Qkg P o s fun v m'=>K ({s with m:=m'}.put o.dst v) else Eg P cf o K s
def Ln (P:Program) (cf:Dn):List Oper→(St→Prop)→St→Prop
 |[],K,s=>K s
 |o::rest,K,s=>o.guard=none∧Qet P cf o (Ln P cf rest K) s
theorem Qah {F G:Nat→Prop} {w0 w:World} {s:St} {a:Act} (hrel:Ds F G w0 s a w) {cf:Dn} (hav:∀b,cf.av b→b<w.heap.size) {o:Oper} (hok:Fz s.n o=true) {K:St→Prop} (h:Qet P cf o K s) (Q:Exit→Act→World→Prop):o.wp P a w (E5 F G w0 s.n K) Q:=by
 unfold Qet at h;split at h
 ·exact Qbl hrel hok h Q
 ·exact K3 hrel hav hok h Q
theorem O7 {F G:Nat→Prop} {w0:World} {cf:Dn} (hcf:∀b,¬cf.av b) {ops:Array Oper} {K:St→Prop} {QQ:Exit→Act→World→Prop} (n:Nat) (hQ:∀a w,E5 F G w0 n K a w→QQ .normal a w) :
  ∀(l:List Oper) (s:St) (a:Act) (w:World),s.n=n→(∀o∈l,(Fz n o&&H2 ops n o)=true)→Ds F G w0 s a w→Ln P cf l K s→wpList P ops QQ l a w
 |[],s,a,w,hn,_,hr,hk=>hQ a w ⟨s,hk,hn,hr⟩
 |o::rest,s,a,w,hn,hok,hr,hk=>by
  have ho:=hok o (by simp);rw[Bool.and_eq_true]at ho;have hrest:∀o∈rest,(Fz n o&&H2 ops n o)=true:=fun x hx=>hok x (by simp[hx]);have hmono:∀{s:St} {a:Act} {w:World},s.n=n→E5 F G w0 s.n (Ln P cf rest K) a w→wpList P ops QQ rest a w:=by
   rintro s a w hn ⟨s',h1,h2,h3⟩;exact O7 hcf n hQ rest s' a w (h2.trans hn) hrest h3 h1
  have hop:Ds F G w0 s a w→Qet P cf o (Ln P cf rest K) s→o.wp P a w (wpList P ops QQ rest) QQ:=by
   intro hr hk;have:=Qah hr (fun b hb=>(hcf b hb).elim) (by rw[hn];exact ho.1) hk QQ;unfold Oper.wp at this ⊢
   revert this
   generalize(execOp a.eval o).run P w=res;intro this;have hm:∀a w,E5 F G w0 s.n (Ln P cf rest K) a w→wpList P ops QQ rest a w:=fun a w h=>hmono hn h;unfold Oper.upon at this ⊢;split at this<;>first
    |exact hm _ _ this
    |(refine Calls.mono this ?_;intro e w' h;cases e<;>first | exact hm _ _ h | exact h)
    |(refine Rows.mono this ?_;intro e w' h;exact hm _ _ h)
    |exact this
    |exact this.elim
  unfold wpList;unfold Ln at hk;rw[if_pos (by simp[Region.wanted,hk.1])];exact .inl (hop hr hk.2)
theorem AW.rgY {Q:Exit→St→Prop} {s:St} {id:Nat} {ops:Array Oper} (h:Ln P (Dn.txt fun _=>false) ops.toList (Q .normal) s) (hok:Bo s.n ops=true:=by kernel_rfl):AW P (.region id ops false) Q s:=by
 intro F G w0 a w hr;refine wp_region_list (O7 (F:=F) (G:=G) (w0:=w0) (cf:=Dn.txt fun _=>false) (fun _ h=>h) s.n (K:=Q .normal) (fun a w h=>h) ops.toList s a w rfl (fun o ho=>?_) hr h);unfold Bo at hok;exact List.all_eq_true.1 hok o ho
@[simp] theorem Qqp (cf:Dn) (K:St→Prop) (s:St):Ln P cf [] K s=K s:=(rfl)
@[simp] theorem Qpg (cf:Dn) (d:Option Tmp) (op:Op) (t:TypeId) (p:String) (a:Array Edge) (l:List Oper) (K:St→Prop) (s:St) :
  Ln P cf ({dst:=d,op:=op,type:=t,pos:=p,after:=a,guard:=none}::l) K s↔Qet P cf {dst:=d,op:=op,type:=t,pos:=p,after:=a,guard:=none} (Ln P cf l K) s:=by
 show(_∧_)↔_
 simp
theorem AW.rdL {Q:Exit→St→Prop} {s:St} {id:Nat} {ops:Array Oper} (bl:List Nat) (plan:List Nat) (hm:P.follows .mixedOrders=true) (hb:∀c∈bl,s.m c≠none) (h:Bz P ⟨fun _=>false,fun c=>c∈bl,true⟩ ops plan (Q .normal) s)
  (hok:Bo s.n ops=true:=by kernel_rfl) (hp:Hl P (fun _=>false) ops plan=true:=by kernel_rfl):AW P (.region id ops true) Q s :=
 AW.draw (fun _=>false) (fun c=>c∈bl) plan hm hok hp hb h
theorem AW.rdLR {Q:Exit→St→Prop} {s:St} {id:Nat} {ops:Array Oper} (ro bl:List Nat) (plan:List Nat) (hm:P.follows .mixedOrders=true) (hb:∀c∈bl,s.m c≠none) (h:Bz P ⟨roL ro,fun c=>c∈bl,true⟩ ops plan (Q .normal) s)
  (hok:Bo s.n ops=true:=by kernel_rfl) (hp:Hl P (roL ro) ops plan=true:=by kernel_rfl):AW P (.region id ops true) Q s :=
 AW.draw (roL ro) (fun c=>c∈bl) plan hm hok hp hb h
theorem Ds.shrink {F G:Nat→Prop} {w0 w:World} {s:St} {a:Act} (h:Ds F G w0 s a w) {b:Nat} {e:TypeId} {z:Nat} {l:List AV} (hb:s.m b=some ⟨e,z,l⟩) (k:Nat):Ds F G w0 {s with m:=s.m.set b ⟨e,z,l.take k⟩} a w:=by
 have hO:∀c,s.m.set b ⟨e,z,l.take k⟩ c≠none→s.m c≠none:=fun c hc=>by
  by_cases hcb:c=b
  ·subst hcb;rw[hb];simp
  ·rwa [Aa.set_other _ _ hcb]at hc
 have hF:∀c,c<w.heap.size→Ck F (s.m.set b ⟨e,z,l.take k⟩) c→Ck F s.m c:=fun c _ hc=>hc.elim .inl fun x=>.inr (hO c x);refine h.world _ (D5.refl _ w) (fun c x hx=>?_) (fun c hc=>.inl (hO c hc));by_cases hcb:c=b
 ·subst hcb;rw[Aa.set_same]at hx;cases hx;obtain⟨z0,zs,ones,cells,cap,h1,h2,h3,h4,h5⟩:=h.heap c _ hb;have hcell:∀i j u,Ay (l.take k) i j=some u→Ay l i j=some u:=fun i j u hu=>by
   unfold Ay at hu ⊢;rw[List.getElem?_take]at hu;split at hu
   ·exact hu
   ·simp at hu
  exact⟨z0,fun v hv=>zs v (List.mem_of_mem_take hv),fun i j u hu=>ones i j u (hcell i j u hu),cells,cap,h1,h2,h3,Nat.le_trans (by simp only[List.length_take];exact Nat.min_le_right _ _) h4,fun i j u hu=>by
   obtain⟨v,p1,p2⟩:=h5 i j u (hcell i j u hu);exact⟨v,p1,p2.mono (D5.refl (fun _=>False) w) (fun _ _ x=>x.elim) hF⟩⟩
 ·rw[Aa.set_other _ _ hcb]at hx;exact(h.heap c x hx).mono (D5.refl (fun _=>False) w) (fun x=>x) (fun _ _ x=>x.elim) hF
theorem AW.shrink {Q:Exit→St→Prop} {c:Code} {n:Nat} {L:List (Nat × AV)} {m:Aa} {b:Nat} {e:TypeId} {z:Nat} {l:List AV} (hb:m b=some ⟨e,z,l⟩) (k:Nat) (h:AW P c Q (Av.S n L (m.set b ⟨e,z,l.take k⟩))):AW P c Q (Av.S n L m):=by
 intro F G w0 a w hr;exact h F G w0 a w (hr.shrink hb k)
@[simp] theorem Qh9 (P:Program) (size bytes m e:Nat) (zero:AV) (fs:List (Nat × Nat × Option Bool)) (b z i j:Nat) (k:IntKind) (n:Int):Br P ⟨size,bytes,.array m e,zero,fs⟩ (.ptr b z i j) (.int k n)=(Ag P e).bind fun te=>if 0≤n∧n<m then some (.ptr b z i (j+n.toNat*te.size)) else none:=by
 unfold Br
 dsimp only
 cases Ag P e<;>rfl
@[simp] theorem Qfh (P:Program) (size bytes m e:Nat) (zero:AV) (fs:List (Nat × Nat × Option Bool)) (cs:List AV) (k:IntKind) (n:Int):Br P ⟨size,bytes,.array m e,zero,fs⟩ (.rptr cs) (.int k n)=(Ag P e).bind fun te=>if 0≤n∧n<m then some (.rptr (cs.drop (n.toNat*te.size))) else none:=by
 unfold Br
 dsimp only
 cases Ag P e<;>rfl
section
variable {cf:Dn} {K:St→Prop} {s:St} {d:Option Tmp} {ty:TypeId} {p:String} {a:Array Edge} {g:Option (Nat × Bool)}
@[simp] theorem Qnn (t:TypeId) (x m:Operand) (lo hi:Option Operand):Eg P cf ⟨d,.slice t x lo hi (some m),ty,p,a,g⟩ K s↔Dc ((Ag P t).bind fun ti=>J2 P ti (s.ev x) (lo.map s.ev) (hi.map s.ev) (s.ev m)) (E3 K s d):=Iff.rfl
end
@[simp] theorem Qo7 (P:Program) (size bytes e:Nat) (zero:AV) (fs:List (Nat × Nat × Option Bool)) (b z i n:Nat) (k k' k'':IntKind) (l h m:Int):J2 P ⟨size,bytes,.slice e,zero,fs⟩ (.osl b z i n) (some (.int k l)) (some (.int k' h)) (.int k'' m) =
  (Ag P e).bind fun _=>if 0≤m∧m≤n then (D8 m.toNat (some (.int k l)) (some (.int k' h))).map (fun(q:Nat × Nat)=>if m.toNat=q.1 then .zc else .any) else none:=(rfl)
theorem T2 (P:Program) (size bytes e:Nat) (zero:AV) (fs:List (Nat × Nat × Option Bool)) (b z i n:Nat) (lo hi:Option AV):G1 P ⟨size,bytes,.slice e,zero,fs⟩ (.osl b z i n) lo hi=(Ag P e).bind fun te=>if z=te.size then (D8 n lo hi).map fun(q:Nat × Nat)=>if q.1=0 then .osl b z i q.2 else if q.2=q.1 then .sl z [] else .osl b z (i+q.1) (q.2-q.1) else none:=by
 unfold G1
 dsimp only
 cases Ag P e<;>rfl
end
end Go.Av
end
section
namespace Go.Lam
abbrev Ed:=Nat × Nat
def ins (X:Nat→Bool) (e:Ed):Bool:=X e.1&&X e.2
def spn (L:List Ed) (X:Nat→Bool):Nat:=L.countP (ins X)
def sz (n:Nat) (X:Nat→Bool):Nat:=(List.range n).countP X
def A1 (n:Nat) (L:List Ed):Prop:=∀X,2≤sz n X→spn L X+3≤2*sz n X
def Df (n:Nat) (L:List Ed) (X:Nat→Bool):Prop:=2≤sz n X∧spn L X+3=2*sz n X
def C5 (n:Nat) (e:Ed):Prop:=e.1<n∧e.2<n∧e.1≠e.2
def uni (X Y:Nat→Bool):Nat→Bool:=fun v=>X v || Y v
def cap (X Y:Nat→Bool):Nat→Bool:=fun v=>X v&&Y v
def Ey (a b:Nat):Nat→Bool:=fun v=>v==a || v==b
theorem Tu {α:Type} (l:List α) (p q:α→Bool):l.countP (fun a=>p a || q a)+l.countP (fun a=>p a&&q a)=l.countP p+l.countP q:=by
 induction l with
 |nil=>rfl
 |cons a l ih=>simp only[List.countP_cons];cases p a<;>cases q a<;>simp<;>omega
theorem Qca (n:Nat) (X Y:Nat→Bool):sz n (uni X Y)+sz n (cap X Y)=sz n X+sz n Y:=Tu _ X Y
theorem countP_le {α:Type} {l:List α} {p q:α→Bool} (h:∀a∈l,p a=true→q a=true):l.countP p≤l.countP q:=List.countP_mono_left h
theorem Qne (L:List Ed) (X Y:Nat→Bool):spn L X+spn L Y≤spn L (uni X Y)+spn L (cap X Y):=by
 have h:=Tu L (ins X) (ins Y);have h1:L.countP (fun a=>ins X a || ins Y a)≤spn L (uni X Y):=countP_le (fun e _=>by simp only[ins,uni];cases X e.1<;>cases X e.2<;>cases Y e.1<;>cases Y e.2<;>simp)
 have h2:L.countP (fun a=>ins X a&&ins Y a)≤spn L (cap X Y):=countP_le (fun e _=>by simp only[ins,cap];cases X e.1<;>cases X e.2<;>cases Y e.1<;>cases Y e.2<;>simp)
 unfold spn at *;omega
theorem Qg9 {n:Nat} {L:List Ed} (hs:A1 n L) {X Y:Nat→Bool} (hx:Df n L X) (hy:Df n L Y) (hc:2≤sz n (cap X Y)):Df n L (uni X Y)∧Df n L (cap X Y):=by
 have h1:=Qca n X Y;have h2:=Qne L X Y;have h3:=hs _ hc;obtain⟨a1,a2⟩:=hx;obtain⟨b1,b2⟩:=hy;have hu:2≤sz n (uni X Y):=by
  have:sz n X≤sz n (uni X Y):=countP_le (fun v _ h=>by simp[uni,h]);omega
 have h4:=hs _ hu;exact⟨⟨hu,by omega⟩,⟨hc,by omega⟩⟩
theorem Qcb (n:Nat) (X:Nat→Bool):sz n X≤n:=by
 have:=List.countP_le_length (p:=X) (l:=List.range n);simpa[sz]using this
theorem U8 {n:Nat} {X Y:Nat→Bool} (h:∀v,v<n→X v=true→Y v=true):sz n X≤sz n Y:=countP_le (fun v hv=>h v (List.mem_range.1 hv))
theorem Wq {n:Nat} {X Y:Nat→Bool} (h:∀v,v<n→X v=Y v):sz n X=sz n Y:=List.countP_congr (fun v hv=>by rw[h v (List.mem_range.1 hv)])
theorem Tz {n:Nat} {L:List Ed} (hL:∀e∈L,C5 n e) {X Y:Nat→Bool} (h:∀v,v<n→X v=Y v):spn L X=spn L Y:=List.countP_congr (fun e he=>by
 obtain⟨h1,h2,_⟩:=hL e he;simp only[ins];rw[h _ h1,h _ h2])
theorem Qgi {n v:Nat} {X:Nat→Bool} (hv:v<n) (h:X v=true):1≤sz n X:=List.countP_pos_iff.2 ⟨v,List.mem_range.2 hv,h⟩
theorem W3 (n v:Nat):(List.range n).count v=if v<n then 1 else 0:=by
 split
 ·rename_i h
  exact List.nodup_range.count (a:=v) |>.trans (by simp[h])
 ·rename_i h
  exact List.count_eq_zero.2 (by simpa using h)
theorem Kw (n a:Nat) (ha:a<n):sz n (fun v=>v==a)=1:=by
 have:=W3 n a;rw[if_pos ha]at this;exact this
theorem Qcr {n a b:Nat} (ha:a<n) (hb:b<n) (h:a≠b):sz n (Ey a b)=2:=by
 have h1:=Qca n (fun v=>v==a) (fun v=>v==b);rw[Kw n a ha,Kw n b hb]at h1;have:sz n (cap (fun v=>v==a) (fun v=>v==b))=0:=by
  refine List.countP_eq_zero.2 fun v _=>?_;simp only[cap,Bool.and_eq_true,beq_iff_eq];rintro⟨rfl,h'⟩;exact h h'
 rw[this]at h1;exact h1
theorem Sm {n a b:Nat} {X:Nat→Bool} (ha:a<n) (hb:b<n) (h:a≠b) (h1:X a=true) (h2:X b=true):2≤sz n X:=by
 rw[←Qcr ha hb h];refine U8 fun v _ hv=>?_;simp only[Ey,Bool.or_eq_true,beq_iff_eq]at hv;rcases hv with rfl | rfl<;>assumption
theorem Qdl {n a b:Nat} {X:Nat→Bool} (h:sz n X≤1) (ha:a<n) (hb:b<n) (h1:X a=true) (h2:X b=true):a=b:=by
 rcases Nat.decEq a b with h'|h'
 ·have:=Sm ha hb h' h1 h2;omega
 ·exact h'
theorem Qk {n:Nat} {L:List Ed} (hL:∀e∈L,C5 n e) {X:Nat→Bool} (h:sz n X≤1):spn L X=0:=by
 refine List.countP_eq_zero.2 fun e he hx=>?_;obtain⟨h1,h2,h3⟩:=hL e he;simp only[ins,Bool.and_eq_true]at hx;exact h3 (Qdl h h1 h2 hx.1 hx.2)
theorem Sh (e:Ed) (L:List Ed) (X:Nat→Bool):spn (e::L) X=spn L X+if ins X e=true then 1 else 0:=List.countP_cons
theorem Jc (L M:List Ed) (X:Nat→Bool):spn (L++M) X=spn L X+spn M X:=List.countP_append
theorem Qgn {L M:List Ed} (h:L.Perm M) (X:Nat→Bool):spn L X=spn M X:=h.countP_eq _
theorem A1.perm {n:Nat} {L M:List Ed} (h:L.Perm M) (hs:A1 n L):A1 n M:=fun X hX=>by rw[←Qgn h];exact hs X hX
theorem A1.sub {n:Nat} {L M:List Ed} (h:∀X,spn L X≤spn M X) (hs:A1 n M):A1 n L:=fun X hX=>by
 have:=h X;have:=hs X hX;omega
theorem R5 {n:Nat} {L:List Ed} (hs:A1 n L) (e:Ed):A1 n (L++[e])↔∀X,Df n L X→ins X e=false:=by
 constructor
 ·intro h X hX;cases hi:ins X e with
  |false=>rfl
  |true =>
   have h1:=h X hX.1;rw[Jc,Sh,hi]at h1;simp[spn]at h1;have:=hX.2;unfold spn at this;omega
 ·intro h X hX;rw[Jc,Sh];have h1:=hs X hX;cases hi:ins X e with
  |false=>simp[spn]at *;omega
  |true =>
   have:spn L X+3≠2*sz n X:=fun e'=>by rw[h X ⟨hX,e'⟩]at hi;cases hi
   simp[spn]at *;omega
end Go.Lam
end
section
namespace Go.Lam
def sm (n:Nat) (f:Nat→Nat):Nat:=((List.range n).map f).sum
theorem Ks (n:Nat) (f:Nat→Nat):sm (n+1) f=sm n f+f n:=by simp[sm,List.range_succ]
theorem Ua {n:Nat} {f g:Nat→Nat} (h:∀v,v<n→f v≤g v):sm n f≤sm n g:=by
 induction n with
 |zero=>simp[sm]
 |succ n ih=>rw[Ks,Ks];have:=ih (fun v hv=>h v (by omega));have:=h n (by omega);omega
theorem Hj {n:Nat} {f g:Nat→Nat} (h:∀v,v<n→f v=g v):sm n f=sm n g :=
 Nat.le_antisymm (Ua fun v hv=>Nat.le_of_eq (h v hv)) (Ua fun v hv=>Nat.le_of_eq (h v hv).symm)
theorem Jj (n:Nat) (f g:Nat→Nat):sm n (fun v=>f v+g v)=sm n f+sm n g:=by
 induction n with
 |zero=>rfl
 |succ n ih=>simp only[Ks];omega
theorem Qae (n:Nat) (X:Nat→Bool):sm n (fun v=>if X v=true then 2 else 0)=2*sz n X:=by
 induction n with
 |zero=>rfl
 |succ n ih=>rw[Ks,ih];simp only[sz,List.range_succ,List.countP_append,List.countP_cons,List.countP_nil];split<;>omega
theorem Mp {n a:Nat} (ha:a<n) (c:Nat):sm n (fun v=>if v=a then c else 0)=c:=by
 induction n with
 |zero=>omega
 |succ n ih =>
  rw[Ks];by_cases h:n=a
  ·subst h;have:sm n (fun v=>if v=n then c else 0)=0:=by
    have:=Hj (n:=n) (f:=fun v=>if v=n then c else 0) (g:=fun _=>0) (fun v hv=>by simp;omega);rw[this];clear this;clear ha ih;induction n with
    |zero=>rfl
    |succ n ih=>rw[Ks,ih]
   simp[this]
  ·rw[ih (by omega)];simp[h]
structure Inv (n:Nat) (E:Nat→Ed) (A:List Nat) (fr:Nat→Nat) (cv:Nat→List Nat):Prop where
 two:∀v,v<n→fr v+(cv v).length=2
 perm:((List.range n).flatMap cv).Perm A
 ends:∀v,v<n→∀e∈cv v,(E e).1=v∨(E e).2=v
 ok:∀e∈A,C5 n (E e)
def S1 (n:Nat) (fr:Nat→Nat) (X:Nat→Bool):Nat:=sm n fun v=>if X v=true then fr v else 0
section
variable {n:Nat} {E:Nat→Ed} {A:List Nat} {fr:Nat→Nat} {cv:Nat→List Nat}
theorem Inv.mem (h:Inv n E A fr cv) {v e:Nat} (hv:v<n) (he:e∈cv v):e∈A:=h.perm.mem_iff.1 (List.mem_flatMap.2 ⟨v,List.mem_range.2 hv,he⟩)
theorem Inv.okAt (h:Inv n E A fr cv) {v e:Nat} (hv:v<n) (he:e∈cv v):C5 n (E e):=h.ok e (h.mem hv he)
def Fy (E:Nat→Ed) (e j:Nat):Nat:=(E e).1+(E e).2-j
theorem Inv.oth_lt (h:Inv n E A fr cv) {v e:Nat} (hv:v<n) (he:e∈cv v):Fy E e v<n∧Fy E e v≠v:=by
 obtain⟨h1,h2,h3⟩:=h.okAt hv he;unfold Fy;rcases h.ends v hv e he with h4|h4<;>omega
theorem Inv.ins_iff (h:Inv n E A fr cv) {v e:Nat} (hv:v<n) (he:e∈cv v) (X:Nat→Bool):ins X (E e)=(X v&&X (Fy E e v)):=by
 obtain⟨h1,h2,h3⟩:=h.okAt hv he;unfold Fy ins;rcases h.ends v hv e he with h4|h4
 ·rw[show(E e).1+(E e).2-v=(E e).2 by omega,h4]
 ·rw[show(E e).1+(E e).2-v=(E e).1 by omega,h4,Bool.and_comm]
theorem Inv.spn (h:Inv n E A fr cv) (X:Nat→Bool):spn (A.map E) X=sm n fun v=>(cv v).countP fun e=>ins X (E e):=by
 have e1:Lam.spn (A.map E) X=A.countP fun e=>ins X (E e):=by simp[Lam.spn,List.countP_map,Function.comp_def]
 rw[e1,←h.perm.countP_eq,List.countP_flatMap];rfl
theorem Inv.le (h:Inv n E A fr cv) (X:Nat→Bool):Lam.spn (A.map E) X+S1 n fr X≤2*sz n X:=by
 rw[h.spn,S1,←Jj,←Qae];refine Ua fun v hv=>?_;have h2:=h.two v hv;have hl:=List.countP_le_length (p:=fun e=>ins X (E e)) (l:=cv v);cases hx:X v with
 |true=>simp;omega
 |false =>
  have:(cv v).countP (fun e=>ins X (E e))=0:=List.countP_eq_zero.2 fun e he=>by rw[h.ins_iff hv he,hx];simp
  simp[this]
def Qer (n:Nat) (E:Nat→Ed) (cv:Nat→List Nat) (X:Nat→Bool):Prop:=∀v,v<n→X v=true→∀e∈cv v,X (Fy E e v)=true
theorem Inv.eq (h:Inv n E A fr cv) {X:Nat→Bool} (hs:Qer n E cv X):Lam.spn (A.map E) X+S1 n fr X=2*sz n X:=by
 rw[h.spn,S1,←Jj,←Qae];refine Hj fun v hv=>?_;have h2:=h.two v hv;cases hx:X v with
 |true =>
  have:(cv v).countP (fun e=>ins X (E e))=(cv v).length:=List.countP_eq_length.2 fun e he=>by rw[h.ins_iff hv he,hx,hs v hv hx e he];rfl
  simp[this];omega
 |false =>
  have:(cv v).countP (fun e=>ins X (E e))=0:=List.countP_eq_zero.2 fun e he=>by rw[h.ins_iff hv he,hx];simp
  simp[this]
theorem Inv.shut (h:Inv n E A fr cv) {X:Nat→Bool} (he:2*sz n X≤Lam.spn (A.map E) X+S1 n fr X):Qer n E cv X:=by
 intro v hv hx e hm;rcases Bool.eq_false_or_eq_true (X (Fy E e v))with h1 | h1
 ·exact h1
 ·exfalso
  have key:∀w,w<n→((cv w).countP fun e=>ins X (E e))+(if X w=true then fr w else 0)≤if X w=true then 2 else 0:=by
   intro w hw;have h2:=h.two w hw;have hl:=List.countP_le_length (p:=fun e=>ins X (E e)) (l:=cv w);cases hx:X w with
   |true=>simp;omega
   |false =>
    have:(cv w).countP (fun e=>ins X (E e))=0:=List.countP_eq_zero.2 fun e he=>by rw[h.ins_iff hw he,hx];simp
    simp[this]
  have strict:sm n (fun w=>((cv w).countP fun e=>ins X (E e))+(if X w=true then fr w else 0))+1≤sm n fun w=>if X w=true then 2 else 0:=by
   rw[←Mp hv 1,←Jj];refine Ua fun w hw=>?_;by_cases hwv:w=v
   ·subst hwv;have h2:=h.two w hw;have:(cv w).countP (fun e=>ins X (E e))<(cv w).length:=by
     rcases Nat.lt_or_ge ((cv w).countP fun e=>ins X (E e)) (cv w).length with h3 | h3
     ·exact h3
     ·have:=List.countP_eq_length.1 (Nat.le_antisymm List.countP_le_length h3) e hm;rw[h.ins_iff hw hm,h1]at this;simp at this
    simp[hx];omega
   ·simp only[hwv,if_false];exact key w hw
  rw[Qae,Jj,←h.spn]at strict;unfold S1 at he;omega
theorem Qfy {X Y:Nat→Bool} (h:∀v,v<n→X v=true→Y v=true):S1 n fr X≤S1 n fr Y:=Ua fun v hv=>by
 cases hx:X v with
 |true=>simp[h v hv hx]
 |false=>simp
theorem Ms {a b:Nat} (ha:a<n) (hb:b<n) (hab:a≠b):S1 n fr (Ey a b)=fr a+fr b:=by
 rw[←Mp ha (fr a),←Mp hb (fr b),←Jj];refine Hj fun v _=>?_;simp only[Ey,Bool.or_eq_true,beq_iff_eq];by_cases h1:v=a
 ·subst h1;simp[hab]
 ·by_cases h2:v=b
  ·subst h2;simp[h1]
  ·simp[h1,h2]
theorem Q6 {a:Nat} (ha:a<n):S1 n fr (fun v=>v==a)=fr a:=by
 rw[←Mp ha (fr a)];exact Hj fun v _=>by by_cases h:v=a<;>simp[h]
theorem Wy {X Y:Nat→Bool} (h:∀v,v<n→X v=true→Y v=false→fr v=0) (hy:∀v,v<n→Y v=true→X v=true):S1 n fr X=S1 n fr Y:=Hj fun v hv=>by
 cases hx:X v with
 |true=>cases hyv:Y v with
  |true=>rfl
  |false=>simp[h v hv hx hyv]
 |false=>cases hyv:Y v with
  |true=>rw[hy v hv hyv]at hx;cases hx
  |false=>rfl
theorem Inv.first (h:Inv n E A fr cv) (hs:A1 n (A.map E)) {a:Nat} (ha:a<n) {X:Nat→Bool} (hX:Qer n E cv X) (hXa:X a=true) (hz:∀v,v<n→X v=true→v≠a→fr v=0):2≤fr a:=by
 have e1:=h.eq hX;have e2:S1 n fr X=fr a:=by
  rw[←Q6 (n:=n) (fr:=fr) ha];exact Wy (fun v hv hx hy=>hz v hv hx (by simpa using hy)) (fun v _ hv=>by simp at hv;rw[hv];exact hXa)
 rcases Nat.lt_or_ge (sz n X) 2 with h1|h1
 ·have h0:Lam.spn (A.map E) X=0:=Qk (n:=n) (fun e he=>by
   obtain⟨k,hk,rfl⟩:=List.mem_map.1 he;exact h.ok k hk) (by omega)
  have:=Qgi ha hXa;omega
 ·have:=hs X h1;omega
theorem Inv.second (h:Inv n E A fr cv) (hs:A1 n (A.map E)) {a b:Nat} (ha:a<n) (hb:b<n) (hab:a≠b) (h2:fr a=2) {X:Nat→Bool} (hX:Qer n E cv X) (hXa:X a=true) (hXb:X b=true)
  (hz:∀v,v<n→X v=true→v≠a→v≠b→fr v=0) (hlt:fr b<2):fr b=1∧Df n (A.map E) X:=by
 have e1:=h.eq hX;have e2:S1 n fr X=fr a+fr b:=by
  rw[←Ms (n:=n) (fr:=fr) ha hb hab];refine Wy (fun v hv hx hy=>?_) (fun v _ hv=>?_)
  ·simp only[Ey,Bool.or_eq_false_iff,beq_eq_false_iff_ne]at hy;exact hz v hv hx hy.1 hy.2
  ·simp only[Ey,Bool.or_eq_true,beq_iff_eq]at hv;rcases hv with rfl | rfl<;>assumption
 have h3:=Sm ha hb hab hXa hXb;have:=hs X h3;exact⟨by omega,h3,by omega⟩
theorem Inv.four (h:Inv n E A fr cv) {a b:Nat} (ha:a<n) (hb:b<n) (hab:a≠b) (h4:fr a+fr b=4) (X:Nat→Bool) (hXa:X a=true) (hXb:X b=true):¬Df n (A.map E) X:=by
 intro ht;have e1:=h.le X;have e2:S1 n fr (Ey a b)≤S1 n fr X:=Qfy fun v _ hv=>by
  simp only[Ey,Bool.or_eq_true,beq_iff_eq]at hv;rcases hv with rfl | rfl<;>assumption
 rw[Ms ha hb hab]at e2;have:=ht.2;omega
end
end Go.Lam
end
section
namespace Go.Lam
def Bs (m:Nat):Nat→Bool:=fun v=>m.testBit v
theorem J4 (n:Nat) (X:Nat→Bool):∃m,m<2^n∧∀v,v<n→Bs m v=X v:=by
 induction n with
 |zero=>exact⟨0,by simp,fun v hv=>by omega⟩
 |succ n ih =>
  obtain⟨m,h1,h2⟩:=ih;cases hx:X n with
  |false =>
   refine⟨m,by rw[Nat.pow_succ];omega,fun v hv=>?_⟩;by_cases hvn:v=n
   ·subst hvn;rw[hx];exact Nat.testBit_lt_two_pow h1
   ·exact h2 v (by omega)
  |true =>
   refine⟨2^n+m,by rw[Nat.pow_succ];omega,fun v hv=>?_⟩;unfold Bs;by_cases hvn:v=n
   ·subst hvn;rw[hx,Nat.testBit_two_pow_add_eq,Nat.testBit_lt_two_pow h1];rfl
   ·rw[Nat.testBit_two_pow_add_gt (by omega)];exact h2 v (by omega)
def Lp (n:Nat) (L:List Ed):Bool:=(List.range (2^n)).all fun m=>!(decide (2≤sz n (Bs m))&&decide (2*sz n (Bs m)<spn L (Bs m)+3))
theorem G8 {n:Nat} {L:List Ed} (hL:∀e∈L,C5 n e):Lp n L=true↔A1 n L:=by
 unfold Lp;rw[List.all_eq_true];constructor
 ·intro h X hX;obtain⟨m,h1,h2⟩:=J4 n X;have h3:=h m (List.mem_range.2 h1);rw[Wq h2,Tz hL h2]at h3;simp only[Bool.not_eq_true',Bool.and_eq_false_iff,decide_eq_false_iff_not]at h3;omega
 ·intro h m _;simp only[Bool.not_eq_true',Bool.and_eq_false_iff,decide_eq_false_iff_not];have:=h (Bs m);omega
def Ih (n:Nat) (E:Nat→Ed) (out:List Nat) (e:Nat):List Nat:=if Lp n ((out++[e]).map E)=true then out++[e] else out
def Bt (n:Nat) (E:Nat→Ed) (out s:List Nat):List Nat:=s.foldl (Ih n E) out
theorem A1.nil (n:Nat):A1 n []:=fun X hX=>by simp[spn];omega
theorem A1.append_left {n:Nat} {L M:List Ed} (h:A1 n (L++M)):A1 n L:=h.sub fun X=>by rw[Jc];omega
theorem A1.sublist {n:Nat} {L M:List Ed} (h:L.Sublist M) (hs:A1 n M):A1 n L:=hs.sub fun _=>h.countP_le
section
variable {n:Nat} {E:Nat→Ed}
theorem W7 {out:List Nat} {e:Nat} (ho:∀k∈out,C5 n (E k)) (he:C5 n (E e)) (hs:A1 n (out.map E)):A1 n ((Ih n E out e).map E):=by
 unfold Ih;split
 ·rename_i h
  exact(G8 (by simp only[List.mem_map,List.mem_append,List.mem_singleton];rintro _ ⟨k,hk | rfl,rfl⟩;exact ho k hk;exact he)).1 h
 ·exact hs
theorem W8 {out:List Nat} {e k:Nat} (h:k∈Ih n E out e):k∈out∨k=e:=by
 unfold Ih at h;split at h
 ·simpa using h
 ·exact .inl h
theorem Pk (out:List Nat) (e:Nat) (s:List Nat):Bt n E out (e::s)=Bt n E (Ih n E out e) s:=rfl
theorem Tf (out s t:List Nat):Bt n E out (s++t)=Bt n E (Bt n E out s) t:=by simp[Bt]
theorem Mq {k:Nat}:∀{s out:List Nat},k∈Bt n E out s→k∈out∨k∈s
 |[],_,h=>.inl h
 |e::s,out,h=>by
  rcases Mq (s:=s) h with h1|h1
  ·rcases W8 h1 with h2|h2
   ·exact .inl h2
   ·exact .inr (by simp[h2])
  ·exact .inr (by simp[h1])
theorem E0:∀{s out:List Nat},(∀k∈out,C5 n (E k))→(∀k∈s,C5 n (E k))→A1 n (out.map E)→A1 n ((Bt n E out s).map E)
 |[],_,_,_,h=>h
 |e::s,out,ho,hs,h=>E0 (s:=s) (fun k hk=>by
   rcases W8 hk with h2|h2
   ·exact ho k h2
   ·rw[h2];exact hs e (by simp)) (fun k hk=>hs k (by simp[hk])) (W7 ho (hs e (by simp)) h)
theorem Ly:∀(s out:List Nat),∃t,t.Sublist s∧Bt n E out s=out++t
 |[],out=>⟨[],.slnil,by simp[Bt]⟩
 |e::s,out=>by
  obtain⟨t,h1,h2⟩:=Ly s (Ih n E out e);rw[Pk,h2];unfold Ih;split
  ·exact⟨e::t,h1.cons₂ e,by simp⟩
  ·exact⟨t,h1.cons e,rfl⟩
theorem Q3:∀{s out:List Nat},(∀k∈out,C5 n (E k))→(∀k∈s,C5 n (E k))→A1 n ((out++s).map E)→Bt n E out s=out++s
 |[],out,_,_,_=>by simp[Bt]
 |e::s,out,ho,hs,h=>by
  have h1:Ih n E out e=out++[e]:=by
   unfold Ih;rw[if_pos];refine(G8 ?_).2 ?_
   ·simp only[List.mem_map,List.mem_append,List.mem_singleton];rintro _ ⟨k,hk | rfl,rfl⟩;exact ho k hk;exact hs _ (by simp)
   ·have:(out++e::s).map E=(out++[e]).map E++s.map E:=by simp
    rw[this]at h;exact h.append_left
  rw[Pk,h1,Q3 (s:=s)]
  ·simp
  ·intro k hk;simp only[List.mem_append,List.mem_singleton]at hk;rcases hk with hk | rfl
   ·exact ho k hk
   ·exact hs _ (by simp)
  ·exact fun k hk=>hs k (by simp[hk])
  ·simpa using h
theorem F8 (s out:List Nat):(Bt n E out s).length≤out.length+s.length:=by
 obtain⟨t,h1,h2⟩:=Ly (n:=n) (E:=E) s out;rw[h2,List.length_append];have:=h1.length_le;omega
theorem Yj {s:List Nat} (hs:∀k∈s,C5 n (E k)):(Bt n E [] s).length=s.length↔Lp n (s.map E)=true:=by
 have hL:∀e∈s.map E,C5 n e:=by simp only[List.mem_map];rintro _ ⟨k,hk,rfl⟩;exact hs k hk
 constructor
 ·intro h;obtain⟨t,h1,h2⟩:=Ly (n:=n) (E:=E) s [];rw[h2]at h;have h3:t=s:=h1.eq_of_length (by simpa using h);have h4:=E0 (n:=n) (E:=E) (s:=s) (out:=[]) (by simp) hs (A1.nil n);rw[h2,h3]at h4;exact(G8 hL).2 (by simpa using h4)
 ·intro h;rw[Q3 (by simp) hs (by simpa using(G8 hL).1 h)];simp
end
end Go.Lam
end
section
namespace Go.Lam
def Qao (n:Nat) (L:List Ed) (m:Nat):Bool:=decide (2≤sz n (Bs m))&&decide (spn L (Bs m)+3=2*sz n (Bs m))
theorem Qad {n:Nat} {L:List Ed} {m:Nat}:Qao n L m=true↔Df n L (Bs m):=by simp[Qao,Df]
def J3 (n:Nat) (L:List Ed):List Nat:=(List.range (2^n)).filter (Qao n L)
def blocks (n:Nat) (L:List Ed):List Nat:=(J3 n L).filter fun m=>(J3 n L).all fun k=>k==m || k &&& m != m
theorem Df.congr {n:Nat} {L:List Ed} (hL:∀e∈L,C5 n e) {X Y:Nat→Bool} (h:∀v,v<n→X v=Y v) (ht:Df n L X):Df n L Y:=by
 unfold Df at *;rw[←Wq h,←Tz hL h];exact ht
theorem Qh5 {m k:Nat}:k &&& m=m↔∀v,Bs m v=true→Bs k v=true:=by
 constructor
 ·intro h v hv;rw[←h]at hv;unfold Bs at *;rw[Nat.testBit_and]at hv;simp at hv;exact hv.1
 ·intro h;refine Nat.eq_of_testBit_eq fun v=>?_;rw[Nat.testBit_and];have:=h v;unfold Bs at this;cases h1:m.testBit v<;>cases h2:k.testBit v<;>simp_all
theorem Qj2 {n m:Nat} (h:m<2^n) {v:Nat} (hv:Bs m v=true):v<n:=by
 rcases Nat.lt_or_ge v n with h1|h1
 ·exact h1
 ·unfold Bs at hv;rw[Nat.testBit_lt_two_pow (Nat.lt_of_lt_of_le h (Nat.pow_le_pow_right (by omega) h1))]at hv;cases hv
theorem Q4 {n m k:Nat} (hm:m<2^n) (hk:k<2^n) (h:∀v,v<n→Bs m v=Bs k v):m=k:=Nat.eq_of_testBit_eq fun v=>by
 rcases Nat.lt_or_ge v n with h1|h1
 ·exact h v h1
 ·rw[Nat.testBit_lt_two_pow (Nat.lt_of_lt_of_le hm (Nat.pow_le_pow_right (by omega) h1)),Nat.testBit_lt_two_pow (Nat.lt_of_lt_of_le hk (Nat.pow_le_pow_right (by omega) h1))]
theorem Z4 (m k:Nat):Bs (m ||| k)=uni (Bs m) (Bs k):=by funext v;simp[Bs,uni,Nat.testBit_or]
section
variable {n:Nat} {L:List Ed}
theorem B1 {m:Nat}:m∈J3 n L↔m<2^n∧Df n L (Bs m):=by simp[J3,Qad]
theorem Cy {m:Nat}:m∈blocks n L↔m∈J3 n L∧∀k∈J3 n L,(∀v,Bs m v=true→Bs k v=true)→k=m:=by
 unfold blocks;rw[List.mem_filter,List.all_eq_true];refine and_congr_right fun _=>forall_congr' fun k=>forall_congr' fun _=>?_;rw[←Qh5];by_cases h1:k=m
 ·simp[h1]
 ·by_cases h2:k &&& m=m<;>simp[h1,h2]
theorem Ix (hL:∀e∈L,C5 n e) {X:Nat→Bool} (h:Df n L X):∃m∈blocks n L,∀v,v<n→X v=true→Bs m v=true:=by
 suffices H:∀d,∀X,n≤sz n X+d→Df n L X→∃m∈blocks n L,∀v,v<n→X v=true→Bs m v=true from H n X (by omega) h
 intro d
 induction d with
 |zero =>
  intro X hd hX;obtain⟨m,h1,h2⟩:=J4 n X;have ht:Df n L (Bs m):=hX.congr hL fun v hv=>(h2 v hv).symm;refine⟨m,Cy.2 ⟨B1.2 ⟨h1,ht⟩,fun k hk hs=>?_⟩,fun v hv hx=>by rw[h2 v hv];exact hx⟩;have full:∀v,v<n→X v=true:=fun v hv=>by
   rcases Bool.eq_false_or_eq_true (X v)with h3|h3
   ·exact h3
   ·have a1:=Qca n X (fun w=>w==v);rw[Kw n v hv]at a1;have a2:sz n (cap X fun w=>w==v)=0:=List.countP_eq_zero.2 fun w _=>by
     simp only[cap,Bool.and_eq_true,beq_iff_eq];rintro⟨h4,rfl⟩;rw[h3]at h4;cases h4
    have:=Qcb n (uni X fun w=>w==v);omega
  exact Q4 (B1.1 hk).1 h1 fun v hv=>by
   have:=hs v (by rw[h2 v hv];exact full v hv);rw[this,h2 v hv,full v hv]
 |succ d ih =>
  intro X hd hX;obtain⟨m,h1,h2⟩:=J4 n X;have ht:Df n L (Bs m):=hX.congr hL fun v hv=>(h2 v hv).symm;by_cases hm:m∈blocks n L
  ·exact⟨m,hm,fun v hv hx=>by rw[h2 v hv];exact hx⟩
  ·rw[Cy]at hm;have hm':¬∀k∈J3 n L,(∀v,Bs m v=true→Bs k v=true)→k=m:=fun hc=>hm ⟨B1.2 ⟨h1,ht⟩,hc⟩;have ⟨k,hk⟩:=Classical.not_forall.1 hm';have ⟨hk1,hk2⟩:=Classical.not_imp.1 hk;have ⟨hk3,hk4⟩:=Classical.not_imp.1 hk2;obtain⟨hk5,hk6⟩:=B1.1 hk1;have hlt:sz n X<sz n (Bs k):=by
    have a1:sz n X≤sz n (Bs k):=U8 fun v hv hx=>hk3 v (by rw[h2 v hv];exact hx);rcases Nat.lt_or_ge (sz n X) (sz n (Bs k))with h3 | h3
    ·exact h3
    ·exfalso
     refine hk4 (Q4 hk5 h1 fun v hv=>?_);rw[h2 v hv];cases hb:Bs k v with
     |false =>
      cases hx:X v with
      |false=>rfl
      |true=>rw[hk3 v (by rw[h2 v hv];exact hx)]at hb;cases hb
     |true =>
      cases hx:X v with
      |true=>rfl
      |false =>
       have b1:=Qca n X (fun w=>w==v);rw[Kw n v hv]at b1;have b2:sz n (cap X fun w=>w==v)=0:=List.countP_eq_zero.2 fun w _=>by
        simp only[cap,Bool.and_eq_true,beq_iff_eq];rintro⟨h4,rfl⟩;rw[hx]at h4;cases h4
       have b3:sz n (uni X fun w=>w==v)≤sz n (Bs k):=U8 fun w hw h5=>by
        simp only[uni,Bool.or_eq_true,beq_iff_eq]at h5;rcases h5 with h5 | rfl
        ·exact hk3 w (by rw[h2 w hw];exact h5)
        ·exact hb
       omega
   obtain⟨m',h3,h4⟩:=ih (Bs k) (by omega) hk6;exact⟨m',h3,fun v hv hx=>h4 v hv (hk3 v (by rw[h2 v hv];exact hx))⟩
theorem G0 (hs:A1 n L) {m k:Nat} (hm:m∈blocks n L) (hk:k∈blocks n L) (h:2≤sz n (cap (Bs m) (Bs k))):m=k:=by
 obtain⟨hm1,hm2⟩:=Cy.1 hm;obtain⟨hk1,hk2⟩:=Cy.1 hk;have hu:=(Qg9 hs (B1.1 hm1).2 (B1.1 hk1).2 h).1;rw[←Z4]at hu;have hlt:m ||| k<2^n:=Nat.or_lt_two_pow (B1.1 hm1).1 (B1.1 hk1).1;have e1:=hm2 _ (B1.2 ⟨hlt,hu⟩) (fun v hv=>by rw[Z4];simp[uni,hv]);have e2:=hk2 _ (B1.2 ⟨hlt,hu⟩) (fun v hv=>by rw[Z4];simp[uni,hv]);exact e1.symm.trans e2
theorem Fp:(blocks n L).Nodup:=(List.nodup_range.filter _).filter _
theorem Iz (hL:∀e∈L,C5 n e) (hs:A1 n L) {e:Ed} (he:e∈L):Df n L (Ey e.1 e.2):=by
 obtain⟨h1,h2,h3⟩:=hL e he;have h4:sz n (Ey e.1 e.2)=2:=Qcr h1 h2 h3;refine⟨by omega,?_⟩;have:=hs _ (Nat.le_of_eq h4.symm);have h5:0<spn L (Ey e.1 e.2):=List.countP_pos_iff.2 ⟨e,he,by simp[ins,Ey]⟩;omega
theorem Su {α β:Type} (p:α→β→Bool) (J:List β):∀l:List α,(l.map fun m=>J.countP (p m)).sum=(J.map fun e=>l.countP fun m=>p m e).sum
 |[]=>by
  simp only[List.map_nil,List.sum_nil,List.countP_nil]
  induction J with
  |nil=>rfl
  |cons a J ih=>rw[List.map_cons,List.sum_cons,←ih];rfl
 |a::l=>by
  rw[List.map_cons,List.sum_cons,Su p J l]
  induction J with
  |nil=>rfl
  |cons b J ih=>simp only[List.countP_cons,List.map_cons,List.sum_cons]at *;omega
theorem H6 {α:Type} {p:α→Bool}:∀{l:List α},l.Nodup→(∀a∈l,∀b∈l,p a=true→p b=true→a=b)→l.countP p≤1
 |[],_,_=>by simp
 |a::l,hn,h=>by
  rw[List.nodup_cons]at hn;rw[List.countP_cons];cases hp:p a with
  |false=>simp;exact H6 hn.2 fun x hx y hy=>h x (by simp[hx]) y (by simp[hy])
  |true =>
   have:l.countP p=0:=List.countP_eq_zero.2 fun b hb hpb=>hn.1 (by rw[h a (by simp) b (by simp[hb]) hp hpb];exact hb);simp[this]
theorem Jo {α:Type} {f g:α→Nat}:∀{l:List α},(∀a∈l,f a≤g a)→(l.map f).sum≤(l.map g).sum
 |[],_=>by simp
 |a::l,h=>by
  have:=h a (by simp);have:=Jo (l:=l) fun b hb=>h b (by simp[hb]);simp;omega
theorem Qq {α:Type}:∀l:List α,(l.map fun _=>1).sum=l.length
 |[]=>rfl
 |a::l=>by rw[List.map_cons,List.sum_cons,Qq l,List.length_cons];omega
theorem Qem (hs:A1 n L) {e:Ed} (he:C5 n e):(blocks n L).countP (fun m=>ins (Bs m) e)≤1 :=
 H6 Fp fun m hm k hk h1 h2=>by
  simp only[ins,Bool.and_eq_true]at h1 h2;exact G0 hs hm hk (Sm he.1 he.2.1 he.2.2 (by simp only[cap];rw[h1.1,h2.1];rfl) (by simp only[cap];rw[h1.2,h2.2];rfl))
theorem L7 (hL:∀e∈L,C5 n e) (hs:A1 n L):((blocks n L).map fun m=>2*sz n (Bs m)-3).sum=L.length:=by
 have e1:((blocks n L).map fun m=>2*sz n (Bs m)-3)=(blocks n L).map fun m=>L.countP (ins (Bs m)):=List.map_congr_left fun m hm=>by
  have:=(B1.1 (Cy.1 hm).1).2.2;unfold spn at this;omega
 rw[e1,Su (fun m e=>ins (Bs m) e) L,←Qq L]
 congr 1
 refine List.map_congr_left fun e he=>Nat.le_antisymm (Qem hs (hL e he)) ?_;obtain⟨m,h1,h2⟩:=Ix hL (Iz hL hs he);refine List.countP_pos_iff.2 ⟨m,h1,?_⟩;obtain⟨h3,h4,_⟩:=hL e he;simp only[ins,Bool.and_eq_true];exact⟨h2 _ h3 (by simp[Ey]),h2 _ h4 (by simp[Ey])⟩
theorem Qts (hL:∀e∈L,C5 n e) (hs:A1 n L) {J:List Ed} (hJ:∀e∈J,C5 n e) (hj:A1 n J) (h:∀e∈J,∃X,Df n L X∧ins X e=true):J.length≤L.length:=by
 rw[←L7 hL hs,←Qq J];refine Nat.le_trans (Jo (g:=fun e=>(blocks n L).countP fun m=>ins (Bs m) e) fun e he=>?_) ?_
 ·obtain⟨X,hX,hi⟩:=h e he;obtain⟨m,h1,h2⟩:=Ix hL hX;obtain⟨h3,h4,_⟩:=hJ e he;simp only[ins,Bool.and_eq_true]at hi;exact List.countP_pos_iff.2 ⟨m,h1,by simp only[ins,Bool.and_eq_true];exact⟨h2 _ h3 hi.1,h2 _ h4 hi.2⟩⟩
 ·rw[←Su (fun m e=>ins (Bs m) e) J];refine Jo fun m hm=>?_;have:=hj _ (B1.1 (Cy.1 hm).1).2.1;unfold spn at this;show J.countP (ins (Bs m))≤_
  omega
end
end Go.Lam
end
section
namespace Go.Lam
def Ex {α:Type} (f:Nat→α) (i:Nat) (x:α):Nat→α:=fun v=>if v=i then x else f v
@[simp] theorem Dy {α:Type} (f:Nat→α) (i:Nat) (x:α):Ex f i x i=x:=by simp[Ex]
theorem Bk {α:Type} (f:Nat→α) {i v:Nat} (x:α) (h:v≠i):Ex f i x v=f v:=by simp[Ex,h]
theorem Mb (n:Nat) (cv:Nat→List Nat) (x:Nat):((List.range n).flatMap cv).count x=sm n fun v=>(cv v).count x:=by
 rw[List.count_flatMap];rfl
theorem Sf {l:List Nat} {k e:Nat} (h:l[k]?=some e) (x:Nat):(l.eraseIdx k).count x+(if x=e then 1 else 0)=l.count x:=by
 induction l generalizing k with
 |nil=>simp at h
 |cons a l ih =>
  cases k with
  |zero =>
   simp at h;subst h;simp only[List.eraseIdx_zero,List.tail_cons,List.count_cons];by_cases hx:x=a
   ·simp[hx]
   ·simp[hx,Ne.symm hx]
  |succ k=>simp only[List.eraseIdx_cons_succ,List.count_cons]at *;have:=ih (by simpa using h);omega
section
variable {n:Nat} {E:Nat→Ed} {A:List Nat} {fr:Nat→Nat} {cv:Nat→List Nat}
theorem Inv.move (h:Inv n E A fr cv) {j k e:Nat} (hj:j<n) (hk:(cv j)[k]?=some e) (hf:0<fr (Fy E e j)) :
  Inv n E A (Ex (Ex fr (Fy E e j) (fr (Fy E e j)-1)) j (fr j+1)) (Ex (Ex cv (Fy E e j) (cv (Fy E e j)++[e])) j ((cv j).eraseIdx k)):=by
 have hm:e∈cv j:=List.mem_of_getElem? hk;obtain⟨hl,hne⟩:=h.oth_lt hj hm;refine⟨fun v hv=>?_,?_,fun v hv x hx=>?_,h.ok⟩
 ·by_cases h1:v=j
  ·subst h1;have:=h.two v hv;have hlt:=(List.getElem?_eq_some_iff.1 hk).1;simp only[Dy,List.length_eraseIdx,hlt,if_true];omega
  ·rw[Bk _ _ h1,Bk _ _ h1];by_cases h2:v=Fy E e j
   ·subst h2;have:=h.two _ hv;simp only[Dy,List.length_append,List.length_cons,List.length_nil];omega
   ·rw[Bk _ _ h2,Bk _ _ h2];exact h.two v hv
 ·refine List.Perm.trans (List.perm_iff_count.2 fun x=>?_) h.perm;rw[Mb,Mb];have key:sm n (fun v=>(Ex (Ex cv (Fy E e j) (cv (Fy E e j)++[e])) j ((cv j).eraseIdx k) v).count x+if v=j then (if x=e then 1 else 0) else 0)=sm n (fun v=>(cv v).count x+if v=Fy E e j then (if x=e then 1 else 0) else 0):=Hj fun v hv=>by
   by_cases h1:v=j
   ·subst h1;rw[Dy,if_pos rfl,if_neg (Ne.symm hne),Sf hk x];rfl
   ·rw[Bk _ _ h1,if_neg h1];by_cases h2:v=Fy E e j
    ·subst h2;rw[Dy,if_pos rfl,List.count_append,List.count_singleton];by_cases hx:x=e
     ·simp[hx]
     ·simp[hx,Ne.symm hx]
    ·rw[Bk _ _ h2,if_neg h2]
  rw[Jj,Jj,Mp hj,Mp hl]at key;omega
 ·by_cases h1:v=j
  ·subst h1;rw[Dy]at hx;exact h.ends v hv x (List.mem_of_mem_eraseIdx hx)
  ·rw[Bk _ _ h1]at hx;by_cases h2:v=Fy E e j
   ·subst h2;rw[Dy,List.mem_append,List.mem_singleton]at hx;rcases hx with hx | rfl
    ·exact h.ends _ hv x hx
    ·unfold Fy;rcases h.ends j hj x hm with h3 | h3
     ·right;omega
     ·left;omega
   ·rw[Bk _ _ h2]at hx;exact h.ends v hv x hx
theorem Inv.lay (h:Inv n E A fr cv) {a e:Nat} (ha:(E e).1=a) (he:C5 n (E e)) (hf:0<fr a):Inv n E (A++[e]) (Ex fr a (fr a-1)) (Ex cv a (cv a++[e])):=by
 have hl:a<n:=ha ▸ he.1;refine⟨fun v hv=>?_,?_,fun v hv x hx=>?_,fun x hx=>?_⟩
 ·by_cases h1:v=a
  ·subst h1;have:=h.two v hv;simp only[Dy,List.length_append,List.length_cons,List.length_nil];omega
  ·rw[Bk _ _ h1,Bk _ _ h1];exact h.two v hv
 ·refine List.perm_iff_count.2 fun x=>?_;have h1:=List.perm_iff_count.1 h.perm x;rw[Mb]at h1 ⊢;rw[List.count_append,←h1];have key:sm n (fun v=>(Ex cv a (cv a++[e]) v).count x)=sm n (fun v=>(cv v).count x+if v=a then [e].count x else 0):=Hj fun v _=>by
   by_cases h2:v=a
   ·subst h2;rw[Dy,if_pos rfl,List.count_append]
   ·rw[Bk _ _ h2,if_neg h2];rfl
  rw[key,Jj,Mp hl]
 ·by_cases h1:v=a
  ·subst h1;rw[Dy,List.mem_append,List.mem_singleton]at hx;rcases hx with hx | rfl
   ·exact h.ends _ hv x hx
   ·exact .inl ha
  ·rw[Bk _ _ h1]at hx;exact h.ends v hv x hx
 ·rw[List.mem_append,List.mem_singleton]at hx;rcases hx with hx | rfl
  ·exact h.ok x hx
  ·exact he
theorem Inv.start (n:Nat) (E:Nat→Ed):Inv n E [] (fun _=>2) (fun _=>[]):=⟨fun _ _=>rfl,by simp,fun _ _ _ h=>by simp at h,fun _ h=>by simp at h⟩
structure Jw (n:Nat) (E:Nat→Ed) (fr:Nat→Nat) (cv:Nat→List Nat) (S T:Nat→Bool):Prop where
 sub:∀v,S v=true→T v=true
 zero:∀v,v<n→S v=false→T v=true→fr v=0
 shut:∀v,v<n→S v=false→T v=true→∀e∈cv v,T (Fy E e v)=true
theorem Jw.refl (S:Nat→Bool):Jw n E fr cv S S:=⟨fun _ h=>h,fun v _ h h'=>(by rw[h]at h';cases h'),fun v _ h h'=>(by rw[h]at h';cases h')⟩
theorem Jw.step {S T T':Nat→Bool} {m:Nat} (h:Jw n E fr cv S T) (hm:fr m=0) (h':Jw n E fr cv (Ex T m true) T') (hs:∀e∈cv m,T' (Fy E e m)=true):Jw n E fr cv S T' where
 sub:=fun v hv=>h'.sub v (by unfold Ex;split;rfl;exact h.sub v hv)
 zero:=fun v hv h1 h2=>by
  by_cases hvm:v=m
  ·subst hvm;exact hm
  ·cases hT:T v with
   |true=>exact h.zero v hv h1 hT
   |false=>exact h'.zero v hv (by rw[Bk _ _ hvm];exact hT) h2
 shut:=fun v hv h1 h2 e he=>by
  by_cases hvm:v=m
  ·subst hvm;exact hs e he
  ·cases hT:T v with
   |true =>
    have h3:=h.shut v hv h1 hT e he;exact h'.sub _ (by unfold Ex;split;rfl;exact h3)
   |false=>exact h'.shut v hv (by rw[Bk _ _ hvm];exact hT) h2 e he
structure Got (n:Nat) (E:Nat→Ed) (A:List Nat) (S:Nat→Bool) (j:Nat) (fr:Nat→Nat) (cv:Nat→List Nat) (fr':Nat→Nat) (cv':Nat→List Nat):Prop where
 inv:Inv n E A fr' cv'
 plus:fr' j=fr j+1
 free:∀v,v<n→S v=true→v≠j→fr' v=fr v
 cover:∀v,v<n→S v=true→v≠j→cv' v=cv v
theorem Got.direct (h:Inv n E A fr cv) {S:Nat→Bool} {j k e:Nat} (hj:j<n) (hk:(cv j)[k]?=some e) (hS:S (Fy E e j)=false) (hf:0<fr (Fy E e j)) :
  Got n E A S j fr cv (Ex (Ex fr (Fy E e j) (fr (Fy E e j)-1)) j (fr j+1)) (Ex (Ex cv (Fy E e j) (cv (Fy E e j)++[e])) j ((cv j).eraseIdx k)) where
 inv:=h.move hj hk hf
 plus:=by simp
 free:=fun v _ hv hvj=>by rw[Bk _ _ hvj,Bk _ _ (fun e'=>by rw[e',hS]at hv;cases hv)]
 cover:=fun v _ hv hvj=>by rw[Bk _ _ hvj,Bk _ _ (fun e'=>by rw[e',hS]at hv;cases hv)]
theorem Got.through {S T:Nat→Bool} {fr':Nat→Nat} {cv':Nat→List Nat} {j k e:Nat} (hsub:∀v,S v=true→T v=true) (hj:j<n) (hSj:S j=true) (hk:(cv j)[k]?=some e) (hS:T (Fy E e j)=false)
  (hne:Fy E e j≠j) (g:Got n E A (Ex T (Fy E e j) true) (Fy E e j) fr cv fr' cv') :
  Got n E A S j fr cv (Ex (Ex fr' (Fy E e j) (fr' (Fy E e j)-1)) j (fr' j+1)) (Ex (Ex cv' (Fy E e j) (cv' (Fy E e j)++[e])) j ((cv' j).eraseIdx k)):=by
 have hin:∀v,S v=true→Ex T (Fy E e j) true v=true:=fun v hv=>by unfold Ex;split;rfl;exact hsub v hv
 have hcj:cv' j=cv j:=g.cover j hj (hin j hSj) (Ne.symm hne);have hfj:fr' j=fr j:=g.free j hj (hin j hSj) (Ne.symm hne);have hno:∀v,S v=true→v≠Fy E e j:=fun v hv e'=>by rw[e']at hv;rw[hsub _ hv]at hS;cases hS
 refine⟨g.inv.move hj (by rw[hcj];exact hk) (by rw[g.plus];omega),by simp[hfj],fun v hv h1 h2=>?_,fun v hv h1 h2=>?_⟩
 ·rw[Bk _ _ h2,Bk _ _ (hno v h1)];exact g.free v hv (hin v h1) (hno v h1)
 ·rw[Bk _ _ h2,Bk _ _ (hno v h1)];exact g.cover v hv (hin v h1) (hno v h1)
end
end Go.Lam
end
section
namespace Go.Lam
def Et (n m:Nat):List Nat:=(List.range n).filter (Bs m)
def Bq:List Nat→List Nat→Bool
 |[],[]=>false
 |[],_::_=>true
 |_::_,[]=>false
 |a::l,b::m=>if a=b then Bq l m else decide (a<b)
theorem Fc:∀l:List Nat,Bq l l=false
 |[]=>rfl
 |a::l=>by simp[Bq,Fc l]
theorem Fw:∀{a b c:List Nat},Bq a b=true→Bq b c=true→Bq a c=true
 |[],[],_,h,_=>by simp[Bq]at h
 |[],_::_,[],_,h=>by simp[Bq]at h
 |[],_::_,_::_,_,_=>rfl
 |_::_,[],_,h,_=>by simp[Bq]at h
 |_::_,_::_,[],_,h=>by simp[Bq]at h
 |x::a,y::b,z::c,h1,h2=>by
  unfold Bq at *;by_cases e1:x=y
  ·subst e1;rw[if_pos rfl]at h1;by_cases e2:x=z
   ·subst e2;rw[if_pos rfl]at h2 ⊢;exact Fw h1 h2
   ·rw[if_neg e2]at h2 ⊢;exact h2
  ·rw[if_neg e1]at h1;by_cases e2:y=z
   ·subst e2;rw[if_neg e1];exact h1
   ·rw[if_neg e2]at h2;simp only[decide_eq_true_eq]at h1 h2;rw[if_neg (by omega)];simp only[decide_eq_true_eq];omega
theorem G4:∀(a b:List Nat),a=b∨Bq a b=true∨Bq b a=true
 |[],[]=>.inl rfl
 |[],_::_=>.inr (.inl rfl)
 |_::_,[]=>.inr (.inr rfl)
 |x::a,y::b=>by
  unfold Bq;by_cases e:x=y
  ·subst e;rcases G4 a b with h | h | h
   ·exact .inl (by rw[h])
   ·exact .inr (.inl (by rw[if_pos rfl];exact h))
   ·exact .inr (.inr (by rw[if_pos rfl];exact h))
  ·rw[if_neg e,if_neg (Ne.symm e)];simp only[decide_eq_true_eq];omega
def Asc (l:List (List Nat)):Prop:=l.Pairwise fun x y=>Bq x y=true
theorem Asc.eq:∀{l m:List (List Nat)},Asc l→Asc m→(∀x,x∈l↔x∈m)→l=m
 |[],[],_,_,_=>rfl
 |[],y::m,_,_,h=>by have:=(h y).2 (by simp);simp at this
 |x::l,[],_,_,h=>by have:=(h x).1 (by simp);simp at this
 |x::l,y::m,hl,hm,h=>by
  obtain⟨hl1,hl2⟩:=List.pairwise_cons.1 hl;obtain⟨hm1,hm2⟩:=List.pairwise_cons.1 hm;have hxy:x=y:=by
   rcases List.mem_cons.1 ((h x).1 (by simp))with h1|h1
   ·exact h1
   ·rcases List.mem_cons.1 ((h y).2 (by simp))with h2|h2
    ·exact h2.symm
    ·have:=Fw (hl1 y h2) (hm1 x h1);rw[Fc]at this;cases this
  subst hxy;rw[Asc.eq hl2 hm2 fun z=>?_];constructor
  ·intro hz;rcases List.mem_cons.1 ((h z).1 (by simp[hz]))with rfl | h1
   ·have:=hl1 z hz;rw[Fc]at this;cases this
   ·exact h1
  ·intro hz;rcases List.mem_cons.1 ((h z).2 (by simp[hz]))with rfl | h1
   ·have:=hm1 z hz;rw[Fc]at this;cases this
   ·exact h1
theorem Asc.of_sorted {l:List (List Nat)} (hn:l.Nodup) (h:l.Pairwise fun x y=>Bq y x=false):Asc l:=by
 have:=hn.and h;exact this.imp fun {a b} ⟨h1,h2⟩=>by
  rcases G4 a b with h3|h3|h3
  ·exact absurd h3 h1
  ·exact h3
  ·rw[h2]at h3;cases h3
def Mj:List (List Nat)→List Nat→List (List Nat)
 |[],x=>[x]
 |y::l,x=>if Bq x y=true then x::y::l else y::Mj l x
theorem Ki {x z:List Nat}:∀{l:List (List Nat)},z∈Mj l x↔z=x∨z∈l
 |[]=>by simp[Mj]
 |y::l=>by
  unfold Mj;split
  ·simp
  ·simp only[List.mem_cons,Ki (l:=l)];constructor
   ·rintro(h|h|h)<;>simp[h]
   ·rintro(h|h|h)<;>simp[h]
theorem Xo {x:List Nat}:∀{l:List (List Nat)},Asc l→x ∉ l→Asc (Mj l x)
 |[],_,_=>by simp[Mj,Asc]
 |y::l,h,hx=>by
  obtain⟨h1,h2⟩:=List.pairwise_cons.1 h;unfold Mj;split
  ·rename_i hb
   refine List.pairwise_cons.2 ⟨fun z hz=>?_,h⟩;rcases List.mem_cons.1 hz with rfl | hz
   ·exact hb
   ·exact Fw hb (h1 z hz)
  ·rename_i hb
   simp only[List.mem_cons,not_or]at hx;refine List.pairwise_cons.2 ⟨fun z hz=>?_,Xo h2 hx.2⟩;rcases Ki.1 hz with rfl | hz
   ·rcases G4 z y with h3|h3|h3
    ·exact absurd h3 hx.1
    ·exact absurd h3 hb
    ·exact h3
   ·exact h1 z hz
theorem Mk {α:Type} (f:α→List Nat):∀(s:List α) (o:List (List Nat)),Asc o→(s.map f).Nodup→(∀a∈s,f a ∉ o)→Asc (s.foldl (fun o a=>Mj o (f a)) o)∧∀z,z∈s.foldl (fun o a=>Mj o (f a)) o↔z∈o∨z∈s.map f
 |[],o,h,_,_=>⟨h,by simp⟩
 |a::s,o,h,hn,hx=>by
  rw[List.map_cons,List.nodup_cons]at hn;have:=Mk f s (Mj o (f a)) (Xo h (hx a (by simp))) hn.2 fun b hb hc=>by
   rcases Ki.1 hc with h1|h1
   ·exact hn.1 (by rw[←h1];exact List.mem_map.2 ⟨b,hb,rfl⟩)
   ·exact hx b (by simp[hb]) h1
  refine⟨this.1,fun z=>?_⟩;rw[List.foldl_cons,this.2 z,Ki,List.map_cons,List.mem_cons];constructor
  ·rintro((h|h)|h)<;>simp[h]
  ·rintro(h|h|h)<;>simp[h]
def Bn (L:List Ed) (j:Nat):Bool:=L.all fun e=>!(e.1==j || e.2==j)
def Dh (j:Nat):List Nat:=[j]
def D7 (n:Nat) (L:List Ed):List (List Nat):=((List.range n).filter (Bn L)).foldl (fun o j=>Mj o (Dh j)) ((blocks n L).foldl (fun o m=>Mj o (Et n m)) [])
theorem Ff {n m v:Nat}:v∈Et n m↔v<n∧Bs m v=true:=by simp[Et]
theorem Du (n m:Nat):(Et n m).length=sz n (Bs m):=by simp[Et,sz,List.countP_eq_length_filter]
theorem N9 {n m k:Nat} (hm:m<2^n) (hk:k<2^n) (h:Et n m=Et n k):m=k:=Q4 hm hk fun v hv=>by
 have h1:v∈Et n m↔v∈Et n k:=by rw[h]
 rw[Ff,Ff]at h1;cases h2:Bs m v<;>cases h3:Bs k v<;>simp_all
section
variable {n:Nat} {L:List Ed}
theorem Hd {m:Nat} (h:m∈blocks n L):m<2^n:=(B1.1 (Cy.1 h).1).1
theorem Dr {m:Nat} (h:m∈blocks n L):Df n L (Bs m):=(B1.1 (Cy.1 h).1).2
theorem Da {α β:Type} {f:α→β}:∀{l:List α},(∀x∈l,∀y∈l,f x=f y→x=y)→l.Nodup→(l.map f).Nodup
 |[],_,_=>by simp
 |a::l,h,hn=>by
  rw[List.nodup_cons]at hn;rw[List.map_cons,List.nodup_cons];refine⟨fun hc=>?_,Da (fun x hx y hy=>h x (by simp[hx]) y (by simp[hy])) hn.2⟩;obtain⟨b,hb,e⟩:=List.mem_map.1 hc;rw[h b (by simp[hb]) a (by simp) e]at hb;exact hn.1 hb
theorem Cr:Asc (D7 n L)∧∀z,z∈D7 n L↔(∃m∈blocks n L,z=Et n m)∨∃j,j<n∧Bn L j=true∧z=[j]:=by
 have h1:=Mk (Et n) (blocks n L) [] (by simp[Asc]) (Da (fun x hx y hy=>N9 (Hd hx) (Hd hy)) Fp) (by simp);have h2:=Mk Dh ((List.range n).filter (Bn L)) _ h1.1 (Da (fun x _ y _ h=>by simpa[Dh]using h) (List.nodup_range.filter _)) (fun j _ hc=>by
  rcases(h1.2 _).1 hc with h3|h3
  ·simp at h3
  ·obtain⟨m,hm,e⟩:=List.mem_map.1 h3;have h4:=Du n m;rw[e]at h4;have:=(Dr hm).1;simp[Dh]at h4;omega)
 refine⟨h2.1,fun z=>?_⟩;unfold D7;rw[h2.2 z,h1.2 z];simp only[List.not_mem_nil,false_or,List.mem_map,List.mem_filter,List.mem_range,Dh];constructor
 ·rintro(⟨m,hm,rfl⟩|⟨j,⟨hj,ha⟩,rfl⟩)
  ·exact .inl ⟨m,hm,rfl⟩
  ·exact .inr ⟨j,hj,ha,rfl⟩
 ·rintro(⟨m,hm,rfl⟩|⟨j,hj,ha,rfl⟩)
  ·exact .inl ⟨m,hm,rfl⟩
  ·exact .inr ⟨j,⟨hj,ha⟩,rfl⟩
def Gv (n:Nat) (L:List Ed) (e:Ed) (j:Nat):Bool:=(J3 n L).any fun m=>ins (Bs m) e&&Bs m j
theorem Ib (hL:∀e∈L,C5 n e) {e:Ed} {j:Nat} (hj:j<n) (he:C5 n e):Gv n L e j=true↔∃X,Df n L X∧ins X e=true∧X j=true:=by
 unfold Gv;rw[List.any_eq_true];constructor
 ·rintro⟨m,hm,h⟩;rw[Bool.and_eq_true]at h;exact⟨_,(B1.1 hm).2,h.1,h.2⟩
 ·rintro⟨X,h1,h2,h3⟩;obtain⟨m,h4,h5⟩:=Ix hL h1;rw[ins,Bool.and_eq_true]at h2;exact⟨m,(Cy.1 h4).1,by rw[ins,h5 _ he.1 h2.1,h5 _ he.2.1 h2.2,h5 _ hj h3];rfl⟩
def Gs (n:Nat) (L:List Ed) (e:Ed):List Nat:=(List.range n).filter (Gv n L e)
theorem Ke (hL:∀e∈L,C5 n e) (hs:A1 n L) {e:Ed} (he:C5 n e) {m:Nat} (hm:m∈blocks n L) (hi:ins (Bs m) e=true):Gs n L e=Et n m:=by
 refine List.filter_congr fun v hv=>?_;rw[List.mem_range]at hv;cases hb:Bs m v with
 |true=>exact(Ib hL hv he).2 ⟨_,Dr hm,hi,hb⟩
 |false =>
  cases hw:Gv n L e v with
  |false=>rfl
  |true =>
   obtain⟨X,h1,h2,h3⟩:=(Ib hL hv he).1 hw;obtain⟨k,h4,h5⟩:=Ix hL h1;rw[ins,Bool.and_eq_true]at h2 hi;have hmk:=G0 hs hm h4 (Sm he.1 he.2.1 he.2.2 (by rw[cap,hi.1,h5 _ he.1 h2.1];rfl) (by rw[cap,hi.2,h5 _ he.2.1 h2.2];rfl));subst hmk;rw[h5 v hv h3]at hb;cases hb
theorem Mi (hL:∀e∈L,C5 n e) (hs:A1 n L) {e:Ed} (he:e∈L):∃m∈blocks n L,ins (Bs m) e=true:=by
 obtain⟨m,h1,h2⟩:=Ix hL (Iz hL hs he);obtain⟨h3,h4,_⟩:=hL e he;exact⟨m,h1,by rw[ins,h2 _ h3 (by simp[Ey]),h2 _ h4 (by simp[Ey])];rfl⟩
theorem Zr {m:Nat} (hm:m∈blocks n L):∃e∈L,ins (Bs m) e=true:=by
 have h1:=Dr hm;have h2:=h1.1;have h3:=h1.2;unfold spn at h3;exact List.countP_pos_iff.1 (show 0<L.countP (ins (Bs m)) by omega)
def Mm (o:List (List Nat)) (c:List Nat):List (List Nat):=if c∈o then o else o++[c]
theorem Jk {α:Type} (f:α→List Nat):∀(s:List α) (o:List (List Nat)),o.Nodup→(s.foldl (fun o a=>Mm o (f a)) o).Nodup∧∀z,z∈s.foldl (fun o a=>Mm o (f a)) o↔z∈o∨z∈s.map f
 |[],o,h=>⟨h,by simp⟩
 |a::s,o,h=>by
  have hn:(Mm o (f a)).Nodup:=by
   unfold Mm;split
   ·exact h
   ·rename_i hc
    rw[List.nodup_append];exact⟨h,by simp,fun x hx y hy e=>by simp at hy;subst hy;subst e;exact hc hx⟩
  have hm:∀z,z∈Mm o (f a)↔z∈o∨z=f a:=fun z=>by
   unfold Mm;split
   ·rename_i hc
    exact⟨.inl,fun h=>h.elim id fun e=>e ▸ hc⟩
   ·simp
  have:=Jk f s (Mm o (f a)) hn;refine⟨this.1,fun z=>?_⟩;rw[List.foldl_cons,this.2 z,hm,List.map_cons,List.mem_cons];constructor
  ·rintro((h|h)|h)<;>simp[h]
  ·rintro(h|h|h)<;>simp[h]
def Ho (n:Nat) (L:List Ed):List (List Nat):=L.foldl (fun o e=>Mm o (Gs n L e)) []++((List.range n).filter (Bn L)).map Dh
theorem N8 (hL:∀e∈L,C5 n e) (hs:A1 n L):(Ho n L).Nodup∧∀z,z∈Ho n L↔z∈D7 n L:=by
 have h1:=Jk (Gs n L) L [] (by simp);have hmem:∀z,z∈Ho n L↔z∈D7 n L:=fun z=>by
  unfold Ho;rw[List.mem_append,h1.2 z,Cr.2 z];simp only[List.not_mem_nil,false_or,List.mem_map,List.mem_filter,List.mem_range,Dh];constructor
  ·rintro(⟨e,he,rfl⟩|⟨j,⟨hj,ha⟩,rfl⟩)
   ·obtain⟨m,hm,hi⟩:=Mi hL hs he;exact .inl ⟨m,hm,Ke hL hs (hL e he) hm hi⟩
   ·exact .inr ⟨j,hj,ha,rfl⟩
  ·rintro(⟨m,hm,rfl⟩|⟨j,hj,ha,rfl⟩)
   ·obtain⟨e,he,hi⟩:=Zr hm;exact .inl ⟨e,he,Ke hL hs (hL e he) hm hi⟩
   ·exact .inr ⟨j,⟨hj,ha⟩,rfl⟩
 refine⟨?_,hmem⟩;unfold Ho;rw[List.nodup_append];refine⟨h1.1,Da (fun x _ y _ h=>by simpa[Dh]using h) (List.nodup_range.filter _),fun x hx y hy e=>?_⟩;subst e;rcases(h1.2 x).1 hx with h3 | h3
 ·simp at h3
 ·obtain⟨e,he,rfl⟩:=List.mem_map.1 h3;obtain⟨m,hm,hi⟩:=Mi hL hs he;obtain⟨j,_,e2⟩:=List.mem_map.1 hy;rw[Ke hL hs (hL e he) hm hi]at e2;have h4:=Du n m;rw[←e2]at h4;have:=(Dr hm).1;simp[Dh]at h4;omega
theorem Wv (hL:∀e∈L,C5 n e) (hs:A1 n L) {W:List (List Nat)} (hp:W.Perm (Ho n L)) (hw:W.Pairwise fun x y=>Bq y x=false):W=D7 n L:=by
 obtain⟨h1,h2⟩:=N8 hL hs;exact Asc.eq (Asc.of_sorted (hp.nodup_iff.2 h1) hw) Cr.1 fun x=>by rw[hp.mem_iff,h2]
end
end Go.Lam
end
section
namespace Go.Lam
section
variable {n:Nat} {L:List Ed}
def Qjr:Nat→Bool:=fun _=>true
theorem Qgk (n:Nat):sz n Qjr=n:=by
 have h:(List.range n).countP Qjr=(List.range n).length:=List.countP_eq_length.2 fun _ _=>rfl;rw[List.length_range]at h;exact h
theorem Qka (L:List Ed):spn L Qjr=L.length:=List.countP_eq_length.2 fun _ _=>rfl
theorem Wz:sz n (fun j=>!Bn L j)+(List.range n).countP (Bn L)=n:=by
 have h:=List.length_eq_countP_add_countP (Bn L) (l:=List.range n);rw[List.length_range]at h;have e:(List.range n).countP (fun a=>decide ¬Bn L a=true)=sz n (fun j=>!Bn L j):=List.countP_congr fun v _=>by cases Bn L v<;>simp
 omega
theorem Xu:spn L (fun j=>!Bn L j)=L.length:=List.countP_eq_length.2 fun e he=>by
 have h:∀j,e.1=j∨e.2=j→Bn L j=false:=fun j hj=>by
  cases ha:Bn L j with
  |false=>rfl
  |true =>
   have:=List.all_eq_true.1 ha e he;simp only[Bool.not_eq_true',Bool.or_eq_false_iff,beq_eq_false_iff_ne]at this;omega
 show(!Bn L e.1&&!Bn L e.2)=true
 rw[h e.1 (.inl rfl),h e.2 (.inr rfl)];rfl
theorem Lr (hL:∀e∈L,C5 n e) (hs:A1 n L):(blocks n L).length≤L.length:=by
 rw[←L7 hL hs,←Qq];refine Jo fun m hm=>?_;have:=(Dr hm).1;omega
theorem Pm (hL:∀e∈L,C5 n e) (hs:A1 n L):(Ho n L).length=(blocks n L).length+(List.range n).countP (Bn L):=by
 have h1:=N8 hL hs;have hp:(Ho n L).Perm ((blocks n L).map (Et n)++((List.range n).filter (Bn L)).map Dh):=by
  refine(List.perm_ext_iff_of_nodup h1.1 ?_).2 fun z=>?_
  ·rw[List.nodup_append];refine⟨Da (fun x hx y hy=>N9 (Hd hx) (Hd hy)) Fp,Da (fun x _ y _ h=>by simpa[Dh]using h) (List.nodup_range.filter _),fun x hx y hy e=>?_⟩;subst e;obtain⟨m,hm,rfl⟩:=List.mem_map.1 hx;obtain⟨j,_,e2⟩:=List.mem_map.1 hy;have h4:=Du n m;rw[←e2]at h4;have:=(Dr hm).1;simp[Dh]at h4;omega
  ·rw[h1.2,Cr.2];simp only[List.mem_append,List.mem_map,List.mem_filter,List.mem_range,Dh];constructor
   ·rintro(⟨m,hm,rfl⟩|⟨j,hj,ha,rfl⟩)
    ·exact .inl ⟨m,hm,rfl⟩
    ·exact .inr ⟨j,⟨hj,ha⟩,rfl⟩
   ·rintro(⟨m,hm,rfl⟩|⟨j,⟨hj,ha⟩,rfl⟩)
    ·exact .inl ⟨m,hm,rfl⟩
    ·exact .inr ⟨j,hj,ha,rfl⟩
 rw[hp.length_eq,List.length_append,List.length_map,List.length_map,←List.countP_eq_length_filter]
theorem Vn (hL:∀e∈L,C5 n e) (hs:A1 n L):(D7 n L).length=(Ho n L).length:=by
 have h1:=N8 hL hs;have hn:(D7 n L).Nodup:=Cr.1.imp fun {a b} h e=>by rw[e,Fc]at h;cases h
 exact((List.perm_ext_iff_of_nodup hn h1.1).2 fun z=>(h1.2 z).symm).length_eq
theorem Qgp (hL:∀e∈L,C5 n e) (hs:A1 n L) (h8:n≤8):(Ho n L).length≤12:=by
 rw[Pm hL hs];have h1:=Lr hL hs;have h2:=Wz (n:=n) (L:=L);have h3:=Qcb n fun j=>!Bn L j;rcases Nat.lt_or_ge (sz n fun j=>!Bn L j) 2 with h4 | h4
 ·have:spn L (fun j=>!Bn L j)=0:=Qk hL (by omega);rw[Xu]at this;omega
 ·have h5:=hs _ h4;rw[Xu]at h5;rcases Nat.lt_or_ge ((blocks n L).length+(List.range n).countP (Bn L)) 13 with h6 | h6
  ·omega
  ·-- all is one block
   have hn8:n=8∧(List.range n).countP (Bn L)=0∧L.length=13:=by omega
   have hT:Df n L Qjr:=⟨by rw[Qgk];omega,by rw[Qka,Qgk];omega⟩;obtain⟨m,hm,hall⟩:=Ix hL hT;have h7:∀k∈blocks n L,k=m:=fun k hk=>(Cy.1 hk).2 m (Cy.1 hm).1 (fun v hv=>hall v (Qj2 (Hd hk) hv) rfl) ▸ rfl;have h8:(blocks n L).length≤1:=by
    have hnd:=Fp (n:=n) (L:=L)
    match hb:blocks n L,hnd with
    |[],_=>simp
    |[a],_=>simp
    |a::b::t,hnd =>
     rw[hb]at h7;have ha:=h7 a (by simp);have hb':=h7 b (by simp);rw[List.nodup_cons]at hnd;exact absurd (by rw[ha,hb'];simp) hnd.1
   omega
theorem Qb2 (n:Nat) (X:Nat→Bool):sz (n+1) X=sz n X+if X n=true then 1 else 0:=by
 simp[sz,List.range_succ,List.countP_append,List.countP_cons]
theorem A1.joint (hs:A1 n L) (hL:∀e∈L,C5 n e):A1 (n+1) L:=fun X hX=>by
 rw[Qb2]at hX ⊢;rcases Nat.lt_or_ge (sz n X) 2 with h | h
 ·rw[Qk hL (by omega)];omega
 ·have:=hs X h;omega
theorem A1.one (hs:A1 n L) (hL:∀e∈L,C5 n e) {x:Nat} (hx:x<n) {e:Ed} (he:e=(x,n)∨e=(n,x)):A1 (n+1) (L++[e]):=fun X hX=>by
 rw[Qb2]at hX ⊢;rw[Jc,Sh];have hi:ins X e=(X x&&X n):=by rcases he with rfl | rfl<;>simp[ins,Bool.and_comm]
 rw[hi];show spn L X+(0+_)+3≤_
 rcases Nat.lt_or_ge (sz n X) 2 with h|h
 ·rw[Qk hL (by omega)];cases h1:X n<;>cases h2:X x<;>simp[h1]at*<;> (try have:=Qgi hx h2)<;>omega
 ·have:=hs X h;cases h1:X n<;>cases h2:X x<;>simp<;>omega
end
end Go.Lam
end
section
namespace Go.Av
open Go.Proofs
structure RE where
 a:Int
 b:Int
 sq:RR
def RE.av (e:RE):AV:=.agg [.int .i64 e.a,.int .i64 e.b,.bool e.sq.n1,Al e.sq.l1,.bool e.sq.n2,Al e.sq.l2]
def Dl (l:List RE):List AV:=l.map RE.av
def A4 (l:List RE):AV:=.sl 6 (Dl l)
instance:Inhabited RE:=⟨⟨0,0,default⟩⟩
def Fm (l:List RE) (i:Nat):RE:=l.getD i default
theorem L9 {l:List RE} {i:Nat} (h:i<l.length):Fm l i=l[i]:=by unfold Fm;rw[List.getD_eq_getElem?_getD,List.getElem?_eq_getElem h];rfl
@[simp] theorem Sw (l:List RE):(Dl l).length=l.length:=by simp[Dl]
@[simp] theorem edl_get? {l:List RE} {i:Nat} (h:i<l.length):(Dl l)[i]?=some (Fm l i).av:=by simp[Dl,L9 h,h]
@[simp] theorem edl_get {l:List RE} {i:Nat} (h:i<(Dl l).length):(Dl l)[i]=(Fm l i).av:=by simp[Dl,L9 (by simpa using h:i<l.length)]
@[simp] theorem Qub {l:List Nat} {i:Nat} (h:i<(Ao l).length):(Ao l)[i]=.int .i64 (l[i]'(by simpa using h):Nat):=by simp[Ao]
@[simp] theorem Quq (l:List Nat):(Ao l).all (fun v=>v.cells.length==1&&v.cells.all AV.one)=true:=by simp[Ao,AV.cells,AV.one]
theorem RE.av_len (e:RE):e.av.cells.length=6:=rfl
theorem RE.av_ones (e:RE):e.av.cells.all AV.one=true:=rfl
theorem Ca (e:RE):e.av.cells=[.int .i64 e.a,.int .i64 e.b,.bool e.sq.n1,Al e.sq.l1,.bool e.sq.n2,Al e.sq.l2]:=rfl
theorem Ii (l:List Nat) (i v:Nat):(Ao l).set i (.int .i64 (v:Nat))=Ao (l.set i v):=by unfold Ao;rw[List.map_set]
theorem K9 {m m':Aa} {b n:Nat} {l:List Nat} (h:m b=some ⟨3,1,Ao l⟩) (hl:l.length=n) (hb:m' b=none:=by simp):Bw m m' (.osl b 1 0 n) (.sl 1 (Ao l)) :=
 .osl b 1 0 n _ (Ao l) h hb rfl (by simpa using hl) (by simp[hl]) (fun k v v' h1 h2=>by rw[Nat.zero_add]at h1;rw[h1]at h2;cases h2;exact .same _)
theorem Ty (l:List RE) (hl:l.length≤40):Aj Tryz.prog 45 [A4 l] Aa.emp fun v m=>v=.sl 1 (Ao (List.range l.length))∧m=Aa.emp:=by
 refine Ad Tryz.func45 rfl rfl 19 rfl (Nat.le_of_ble_eq_true rfl) ?_;unfold A4;(repeat refine AW.seq_k fun K hK=>?_);refine AW.rg ?_;simp[Ak];try (refine hK _ rfl ?_;clear hK K)
 (repeat refine AW.seq_k fun K hK=>?_);refine AW.rg ?_;simp;try (refine hK _ rfl ?_;clear hK K)
 refine⟨by omega,Ai.intro fun bl hbl=>?_⟩;refine hK _ rfl ?_;clear hK K;refine AW.seq_ex (ι:=Unit) (fun _=>[(3,.osl bl 1 0 l.length)]) (fun _=>Aa.emp.set bl ⟨3,1,Ao (List.range l.length)⟩) (fun _=>True) ?_ ?_
 ·(repeat refine AW.seq_k fun K hK=>?_);refine AW.rg ?_;simp;try (refine hK _ rfl ?_;clear hK K)
  refine AW.block (AW.loopS (ι:=Nat × List Nat) (fun z=>[(3,.osl bl 1 0 l.length),(9,.int .i64 (l.length:Nat)),(10,.int .i64 (z.1:Nat))]) (fun z=>Aa.emp.set bl ⟨3,1,Ao z.2⟩)
   (fun z=>z.1≤l.length∧z.2=List.range z.1++List.replicate (l.length-z.1) 0) (fun z=>l.length-z.1) (0,List.replicate l.length 0) ⟨by simp,by simp⟩ (by simp[Ao]) (by simp) ?_)
  rintro⟨i,o⟩ ⟨g1,g2⟩;simp only at g1 g2;have hol:o.length=l.length:=by rw[g2];simp;omega
  (repeat refine AW.seq_k fun K hK=>?_);refine AW.rg ?_;simp;try (refine hK _ rfl ?_;clear hK K)
  (repeat refine AW.seq ?_);refine AW.cs (fun hi=>?_) (fun hi=>?_) rfl<;>(try simp at hi)
  ·refine AW.skip ?_;try simp
   have w1:=Aq (i+1) (by omega);(repeat refine AW.seq ?_);refine AW.block ?_;(repeat refine AW.seq_k fun K hK=>?_);refine AW.rg ?_;simp;try (refine hK _ rfl ?_;clear hK K)
   (repeat refine AW.seq_k fun K hK=>?_);refine AW.rg ?_;simp[hol,hi];try (refine hK _ rfl ?_;clear hK K)
   (repeat refine AW.seq_k fun K hK=>?_);refine AW.rg ?_;simp[-Int.natCast_add,w1];try (refine hK _ rfl ?_;clear hK K)
   refine⟨i+1,o.set i i,⟨by omega,?_⟩,by omega,by rw[Ii],rfl⟩;rw[g2,List.set_append_right _ _ (by simp),List.length_range,Nat.sub_self,show l.length-i=(l.length-(i+1))+1 by omega,List.replicate_succ,List.set_cons_zero,List.range_succ,List.append_assoc];rfl
  ·refine AW.exit ?_;try simp
   have:i=l.length:=by omega
   rw[g2,this];simp
 ·rintro _ _;(repeat refine AW.seq_k fun K hK=>?_);refine AW.rg ?_;simp;try (refine hK _ rfl ?_;clear hK K)
  exact AW.ret (Af rfl _ (K9 (by simp) (by simp)) ⟨rfl,rfl⟩)
end Go.Av
end
section
namespace Go.Av
open Go.Proofs Go.Lam
@[simp] theorem Qti {l:List Nat} {i:Nat} (h:i<l.length):(Ao l).getD i .any=.int .i64 (l[i]:Nat):=by simp[Ao,h]
def Ae (es:List RE):Nat→Ed:=fun i=>((Fm es i).a.toNat,(Fm es i).b.toNat)
def Lh (n:Nat) (es:List RE):Prop:=∀i,i<es.length→(Fm es i).a=((Ae es i).1:Nat)∧(Fm es i).b=((Ae es i).2:Nat)∧C5 n (Ae es i)
end Go.Av
end
section
namespace Go.Av
open Go.Proofs Go.Lam
def Bm (x y:RE):Bool:=(y.a==x.a&&y.b==x.b) || (y.a==x.b&&y.b==x.a)
def okE (n:Int) (pre:List RE) (x:RE):Bool:=decide (0≤x.a)&&decide (x.a<n)&&decide (0≤x.b)&&decide (x.b<n)&&!(x.a==x.b)&&x.sq.ok&&decide (0<De x.sq)&&!(pre.any (Bm x))
def N5 (n:Int) (es:List RE) (i:Nat):Bool:=okE n (es.take i) (Fm es i)
def C0 (n:Int) (es:List RE):Bool:=decide (1≤n)&&decide (n≤12)&&decide (es.length≤40)&&(List.range es.length).all (N5 n es)
def Cd (n:Int) (es:List RE):AV:=.int .i64 (if C0 n es=true then 0 else 1)
def S4 (es:List RE):Prop:=∀x∈es,x.sq.Lb
theorem S4.at {es:List RE} (h:S4 es) {i:Nat} (hi:i<es.length):(Fm es i).sq.Lb:=by rw[L9 hi];exact h _ (List.getElem_mem hi)
theorem B9 {n:Int} {es:List RE} {i:Nat} (hi:i<es.length) (h:N5 n es i=false):C0 n es=false:=by
 unfold C0;have:(List.range es.length).all (N5 n es)=false:=List.all_eq_false.2 ⟨i,by simpa using hi,by rw[h];simp⟩;rw[this,Bool.and_false]
theorem Qe3 {b:Nat} (X:RE):Bw (Aa.emp.set b ⟨46,6,[X.av]⟩) Aa.emp (.ptr b 6 0 0) (.rptr [.int .i64 X.a,.int .i64 X.b,.bool X.sq.n1,Al X.sq.l1,.bool X.sq.n2,Al X.sq.l2]) :=
 .ptr b 6 0 0 ⟨46,6,[X.av]⟩ X.av (Aa.set_same _ _ _) rfl rfl rfl
theorem Cb {n:Int} {pre:List RE} {x:RE} (h:¬(0≤x.a∧x.a<n∧0≤x.b∧x.b<n∧x.a≠x.b∧x.sq.ok=true∧0<De x.sq∧pre.any (Bm x)=false)):okE n pre x=false:=by
 cases hc:okE n pre x with
 |false=>rfl
 |true=>unfold okE at hc;simp only[Bool.and_eq_true,decide_eq_true_eq,Bool.not_eq_true',beq_eq_false_iff_ne]at hc;exact absurd ⟨hc.1.1.1.1.1.1.1,hc.1.1.1.1.1.1.2,hc.1.1.1.1.1.2,hc.1.1.1.1.2,hc.1.1.1.2,hc.1.1.2,hc.1.2,hc.2⟩ h
theorem W9 {n:Int} {pre:List RE} {x:RE} (h:0≤x.a∧x.a<n∧0≤x.b∧x.b<n∧x.a≠x.b∧x.sq.ok=true∧0<De x.sq∧pre.any (Bm x)=false):okE n pre x=true:=by
 obtain⟨h1,h2,h3,h4,h5,h6,h7,h8⟩:=h;unfold okE;rw[h6,h8];simp[h1,h2,h3,h4,h5,h7]
theorem Qa7 (n:Int) (es:List RE) (hb:S4 es):Aj Tryz.prog 12 [.int .i64 n,A4 es] Aa.emp fun v m=>v=Cd n es∧m=Aa.emp:=by
 refine Ad Tryz.func12 rfl rfl 111 rfl (Nat.le_of_ble_eq_true rfl) ?_;unfold A4;(repeat refine AW.seq_k fun K hK=>?_);refine AW.rg ?_;simp[Ak];try (refine hK _ rfl ?_;clear hK K)
 by_cases c1:n<1
 ·have hc:C0 n es=false:=by unfold C0;simp;omega
  (repeat refine AW.seq_k fun K hK=>?_);refine AW.rg ?_;simp[c1];try (refine hK _ rfl ?_;clear hK K)
  refine AW.yes ?_ rfl;(repeat refine AW.seq_k fun K hK=>?_);refine AW.rg ?_;simp;try (refine hK _ rfl ?_;clear hK K)
  exact AW.ret (Af rfl _ (.same _) ⟨by unfold Cd;rw[hc];rfl,rfl⟩)
 by_cases c2:12<n
 ·have hc:C0 n es=false:=by unfold C0;simp;omega
  (repeat refine AW.seq_k fun K hK=>?_);refine AW.rg ?_;simp[c1,c2];try (refine hK _ rfl ?_;clear hK K)
  refine AW.yes ?_ rfl;(repeat refine AW.seq_k fun K hK=>?_);refine AW.rg ?_;simp;try (refine hK _ rfl ?_;clear hK K)
  exact AW.ret (Af rfl _ (.same _) ⟨by unfold Cd;rw[hc];rfl,rfl⟩)
 by_cases c3:(40:Int)<(es.length:Int)
 ·have hc:C0 n es=false:=by unfold C0;simp;omega
  (repeat refine AW.seq_k fun K hK=>?_);refine AW.rg ?_;simp[c1,c2,c3];try (refine hK _ rfl ?_;clear hK K)
  refine AW.yes ?_ rfl;(repeat refine AW.seq_k fun K hK=>?_);refine AW.rg ?_;simp;try (refine hK _ rfl ?_;clear hK K)
  exact AW.ret (Af rfl _ (.same _) ⟨by unfold Cd;rw[hc];rfl,rfl⟩)
 (repeat refine AW.seq_k fun K hK=>?_);refine AW.rg ?_;simp[c1,c2,c3];try (refine hK _ rfl ?_;clear hK K)
 refine AW.no ?_ rfl;refine AW.skip ?_;try simp
 try (refine hK _ rfl ?_;clear hK K)
 refine AW.seq_ex (ι:=Unit) (fun _=>[]) (fun _=>Aa.emp) (fun _=>C0 n es=true) ?_ ?_
 ·(repeat refine AW.seq_k fun K hK=>?_);refine AW.rg ?_;simp;try (refine hK _ rfl ?_;clear hK K)
  refine AW.block (AW.loopS (ι:=Nat) (fun i=>[(0,.int .i64 n),(1,.sl 6 (Dl es)),(5,.int .i64 (i:Nat))]) (fun _=>Aa.emp)
   (fun i=>i≤es.length∧(List.range i).all (N5 n es)=true) (fun i=>es.length-i) 0 ⟨by simp,by simp⟩ rfl (by simp) ?_)
  rintro i ⟨g1,g2⟩;(repeat refine AW.seq_k fun K hK=>?_);refine AW.rg ?_;simp;try (refine hK _ rfl ?_;clear hK K)
  (repeat refine AW.seq ?_);refine AW.cs (fun hi=>?_) (fun hi=>?_) rfl<;>(try simp at hi)
  ·refine AW.skip ?_;try simp
   try (refine hK _ rfl ?_;clear hK K)
   have w1:=Aq (i+1) (by omega);have g3:∀x,x<i→N5 n es x=true:=by simpa using g2
   have hx:=hb.at hi;have hv:=O9 (Fm es i).sq.n1 (Fm es i).sq.l1 (Fm es i).sq.n2 (Fm es i).sq.l2 hx.1 hx.2;have hs:=Y5 (Fm es i).sq hx;have hp:N5 n es i=okE n (es.take i) (Fm es i):=rfl;generalize hX:Fm es i=X at *;have fin:∀s:St,N5 n es i=false→AW Tryz.prog Code.ret (Nf Tryz.prog Tryz.f12.results.toList fun v m=>v=Cd n es∧m=Aa.emp) (S 111 ((4,.int .i64 1)::[]) Aa.emp):=fun _ hf =>
    AW.ret (Af rfl _ (.same _) ⟨by unfold Cd;rw[B9 hi hf];rfl,rfl⟩)
   (repeat refine AW.seq ?_);refine AW.block ?_;(repeat refine AW.seq_k fun K hK=>?_);refine AW.rg ?_;simp[hi,hX,Ca];try (refine hK _ rfl ?_;clear hK K)
   refine Ai.intro fun b6 hb6=>?_;refine hK _ rfl ?_;clear hK K;refine AW.toEmp [(0,.int .i64 n),(1,.sl 6 (Dl es)),(5,.int .i64 (i:Nat)),(6,.rptr [.int .i64 X.a,.int .i64 X.b,.bool X.sq.n1,Al X.sq.l1,.bool X.sq.n2,Al X.sq.l2])] (by simp;exact Qe3 X) ?_;by_cases d1:X.a<0
   ·have hf:N5 n es i=false:=by rw[hp];exact Cb (by rintro⟨q1,q2,q3,q4,q5,_⟩;omega)
    (repeat refine AW.seq_k fun K hK=>?_);refine AW.rg ?_;simp[d1];try (refine hK _ rfl ?_;clear hK K)
    refine AW.yes ?_ rfl;(repeat refine AW.seq_k fun K hK=>?_);refine AW.rg ?_;simp;try (refine hK _ rfl ?_;clear hK K)
    exact AW.ret (Af rfl _ (.same _) ⟨by unfold Cd;rw[B9 hi hf];rfl,rfl⟩)
   by_cases d2:n≤X.a
   ·have hf:N5 n es i=false:=by rw[hp];exact Cb (by rintro⟨q1,q2,q3,q4,q5,_⟩;omega)
    (repeat refine AW.seq_k fun K hK=>?_);refine AW.rg ?_;simp[d1,d2];try (refine hK _ rfl ?_;clear hK K)
    refine AW.yes ?_ rfl;(repeat refine AW.seq_k fun K hK=>?_);refine AW.rg ?_;simp;try (refine hK _ rfl ?_;clear hK K)
    exact AW.ret (Af rfl _ (.same _) ⟨by unfold Cd;rw[B9 hi hf];rfl,rfl⟩)
   by_cases d3:X.b<0
   ·have hf:N5 n es i=false:=by rw[hp];exact Cb (by rintro⟨q1,q2,q3,q4,q5,_⟩;omega)
    (repeat refine AW.seq_k fun K hK=>?_);refine AW.rg ?_;simp[d1,d2,d3];try (refine hK _ rfl ?_;clear hK K)
    refine AW.yes ?_ rfl;(repeat refine AW.seq_k fun K hK=>?_);refine AW.rg ?_;simp;try (refine hK _ rfl ?_;clear hK K)
    exact AW.ret (Af rfl _ (.same _) ⟨by unfold Cd;rw[B9 hi hf];rfl,rfl⟩)
   by_cases d4:n≤X.b
   ·have hf:N5 n es i=false:=by rw[hp];exact Cb (by rintro⟨q1,q2,q3,q4,q5,_⟩;omega)
    (repeat refine AW.seq_k fun K hK=>?_);refine AW.rg ?_;simp[d1,d2,d3,d4];try (refine hK _ rfl ?_;clear hK K)
    refine AW.yes ?_ rfl;(repeat refine AW.seq_k fun K hK=>?_);refine AW.rg ?_;simp;try (refine hK _ rfl ?_;clear hK K)
    exact AW.ret (Af rfl _ (.same _) ⟨by unfold Cd;rw[B9 hi hf];rfl,rfl⟩)
   by_cases d5:X.a=X.b
   ·have hf:N5 n es i=false:=by rw[hp];exact Cb (by rintro⟨q1,q2,q3,q4,q5,_⟩;omega)
    (repeat refine AW.seq_k fun K hK=>?_);refine AW.rg ?_;simp[d1,d2,d3,d4,d5];try (refine hK _ rfl ?_;clear hK K)
    refine AW.yes ?_ rfl;(repeat refine AW.seq_k fun K hK=>?_);refine AW.rg ?_;simp;try (refine hK _ rfl ?_;clear hK K)
    exact AW.ret (Af rfl _ (.same _) ⟨by unfold Cd;rw[B9 hi hf];rfl,rfl⟩)
   by_cases d6:X.sq.ok=false
   ·have hf:N5 n es i=false:=by rw[hp];exact Cb (fun q=>by rw[d6]at q;simp at q)
    have hok:Nb X.sq.n1 X.sq.l1 X.sq.n2 X.sq.l2=false:=d6;(repeat refine AW.seq_k fun K hK=>?_);refine AW.rg ?_;simp[d1,d2,d3,d4,d5];try (refine hK _ rfl ?_;clear hK K)
    refine Ac.val hv ?_;simp[hok];try (refine hK _ rfl ?_;clear hK K)
    refine AW.yes ?_ rfl;(repeat refine AW.seq_k fun K hK=>?_);refine AW.rg ?_;simp;try (refine hK _ rfl ?_;clear hK K)
    exact AW.ret (Af rfl _ (.same _) ⟨by unfold Cd;rw[B9 hi hf];rfl,rfl⟩)
   replace d6:X.sq.ok=true:=by simpa using d6
   have hok:Nb X.sq.n1 X.sq.l1 X.sq.n2 X.sq.l2=true:=d6;by_cases d7:De X.sq≤0
   ·have hf:N5 n es i=false:=by rw[hp];exact Cb (fun q=>by have:=q.2.2.2.2.2.2.1;omega)
    (repeat refine AW.seq_k fun K hK=>?_);refine AW.rg ?_;simp[d1,d2,d3,d4,d5];try (refine hK _ rfl ?_;clear hK K)
    refine Ac.val hv ?_;simp[hok];refine Ac.val hs ?_;simp[d7];try (refine hK _ rfl ?_;clear hK K)
    refine AW.yes ?_ rfl;(repeat refine AW.seq_k fun K hK=>?_);refine AW.rg ?_;simp;try (refine hK _ rfl ?_;clear hK K)
    exact AW.ret (Af rfl _ (.same _) ⟨by unfold Cd;rw[B9 hi hf];rfl,rfl⟩)
   (repeat refine AW.seq_k fun K hK=>?_);refine AW.rg ?_;simp[d1,d2,d3,d4,d5];try (refine hK _ rfl ?_;clear hK K)
   refine Ac.val hv ?_;simp[hok];refine Ac.val hs ?_;simp[d7];try (refine hK _ rfl ?_;clear hK K)
   refine AW.no ?_ rfl;refine AW.skip ?_;try simp
   try (refine hK _ rfl ?_;clear hK K)
   (repeat refine AW.seq_k fun K hK=>?_);refine AW.rg ?_;simp;try (refine hK _ rfl ?_;clear hK K)
   refine AW.block (AW.loopS (ι:=Nat) (fun k=>[(0,.int .i64 n),(1,.sl 6 (Dl es)),(5,.int .i64 (i:Nat)),(6,.rptr [.int .i64 X.a,.int .i64 X.b,.bool X.sq.n1,Al X.sq.l1,.bool X.sq.n2,Al X.sq.l2]),(7,.int .i64 (k:Nat))]) (fun _=>Aa.emp)
    (fun k=>k≤i∧∀q,q<k→Bm X (Fm es q)=false) (fun k=>i-k) 0 ⟨by simp,by simp⟩ rfl (by simp) ?_)
   rintro k ⟨k1,k2⟩;(repeat refine AW.seq_k fun K hK=>?_);refine AW.rg ?_;simp;try (refine hK _ rfl ?_;clear hK K)
   (repeat refine AW.seq ?_);refine AW.cs (fun hk=>?_) (fun hk=>?_) rfl<;>(try simp at hk)
   ·refine AW.skip ?_;try simp
    try (refine hK _ rfl ?_;clear hK K)
    have w2:=Aq (k+1) (by omega);have hkl:k<es.length:=by omega
    have hmem:Fm es k∈es.take i:=by rw[L9 hkl];exact List.mem_take_iff_getElem.2 ⟨k,by omega,rfl⟩
    generalize hY:Fm es k=Y at *;have hf:Bm X Y=true→N5 n es i=false:=fun hs=>by rw[hp];exact Cb (fun q=>by have:=List.any_eq_false.1 q.2.2.2.2.2.2.2 Y hmem;exact this hs)
    have hno:Bm X Y=false→∀q,q<k+1→Bm X (Fm es q)=false:=fun hs q hq=>by
     rcases Nat.lt_or_ge q k with h1|h1
     ·exact k2 q h1
     ·rw[show q=k by omega,hY];exact hs
    (repeat refine AW.seq ?_);refine AW.block ?_;by_cases e1:Y.a=X.a
    ·by_cases e2:Y.b=X.b
     ·have pe1:(Y.a=X.a)=True:=eq_true e1;have pe2:(Y.b=X.b)=True:=eq_true e2;have hs:Bm X Y=true:=by unfold Bm;simp only[BEq.beq,pe1,pe2];simp
      (repeat refine AW.seq_k fun K hK=>?_);refine AW.rd [0,1,2,3,4,5,6,7,8,9,10,11,12,13,14,15,16,17,18,19,20,21,22,23,24,25,26,27,28,29,30,31,32,33,34,35,36,37] Dm ?_;simp[hkl,hY,Ca,pe1,pe2];try (refine hK _ rfl ?_;clear hK K)
      refine AW.yes ?_ rfl;(repeat refine AW.seq_k fun K hK=>?_);refine AW.rg ?_;simp;try (refine hK _ rfl ?_;clear hK K)
      exact AW.ret (Af rfl _ (.same _) ⟨by unfold Cd;rw[B9 hi (hf hs)];rfl,rfl⟩)
     ·by_cases e3:Y.a=X.b
      ·by_cases e4:Y.b=X.a
       ·have pe1:(Y.a=X.a)=True:=eq_true e1;have pe2:(Y.b=X.b)=False:=eq_false e2;have pe3:(Y.a=X.b)=True:=eq_true e3;have pe4:(Y.b=X.a)=True:=eq_true e4;have hs:Bm X Y=true:=by unfold Bm;simp only[BEq.beq,pe1,pe2,pe3,pe4];simp
        (repeat refine AW.seq_k fun K hK=>?_);refine AW.rd [0,1,2,3,4,5,6,7,8,9,10,11,12,13,14,15,16,17,18,19,20,21,22,23,24,25,26,27,28,29,30,31,32,33,34,35,36,37] Dm ?_;simp[hkl,hY,Ca,pe1,pe2,pe3,pe4];try (refine hK _ rfl ?_;clear hK K)
        refine AW.yes ?_ rfl;(repeat refine AW.seq_k fun K hK=>?_);refine AW.rg ?_;simp;try (refine hK _ rfl ?_;clear hK K)
        exact AW.ret (Af rfl _ (.same _) ⟨by unfold Cd;rw[B9 hi (hf hs)];rfl,rfl⟩)
       ·have pe1:(Y.a=X.a)=True:=eq_true e1;have pe2:(Y.b=X.b)=False:=eq_false e2;have pe3:(Y.a=X.b)=True:=eq_true e3;have pe4:(Y.b=X.a)=False:=eq_false e4;have hs:Bm X Y=false:=by unfold Bm;simp only[BEq.beq,pe1,pe2,pe3,pe4];simp
        (repeat refine AW.seq_k fun K hK=>?_);refine AW.rd [0,1,2,3,4,5,6,7,8,9,10,11,12,13,14,15,16,17,18,19,20,21,22,23,24,25,26,27,28,29,30,31,32,33,34,35,36,37] Dm ?_;simp[hkl,hY,Ca,pe1,pe2,pe3,pe4];try (refine hK _ rfl ?_;clear hK K)
        refine AW.no ?_ rfl;refine AW.skip ?_;try simp
        try (refine hK _ rfl ?_;clear hK K)
        (repeat refine AW.seq_k fun K hK=>?_);refine AW.rg ?_;simp[-Int.natCast_add,w2];try (refine hK _ rfl ?_;clear hK K)
        exact⟨⟨by omega,hno hs⟩,by omega⟩
      ·have pe1:(Y.a=X.a)=True:=eq_true e1;have pe2:(Y.b=X.b)=False:=eq_false e2;have pe3:(Y.a=X.b)=False:=eq_false e3;have hs:Bm X Y=false:=by unfold Bm;simp only[BEq.beq,pe1,pe2,pe3];simp
       (repeat refine AW.seq_k fun K hK=>?_);refine AW.rd [0,1,2,3,4,5,6,7,8,9,10,11,12,13,14,15,16,17,18,19,20,21,22,23,24,25,26,27,28,29,30,31,32,33,34,35,36,37] Dm ?_;simp[hkl,hY,Ca,pe1,pe2,pe3];try (refine hK _ rfl ?_;clear hK K)
       refine AW.no ?_ rfl;refine AW.skip ?_;try simp
       try (refine hK _ rfl ?_;clear hK K)
       (repeat refine AW.seq_k fun K hK=>?_);refine AW.rg ?_;simp[-Int.natCast_add,w2];try (refine hK _ rfl ?_;clear hK K)
       exact⟨⟨by omega,hno hs⟩,by omega⟩
    ·by_cases e3:Y.a=X.b
     ·by_cases e4:Y.b=X.a
      ·have pe1:(Y.a=X.a)=False:=eq_false e1;have pe3:(Y.a=X.b)=True:=eq_true e3;have pe4:(Y.b=X.a)=True:=eq_true e4;have hs:Bm X Y=true:=by unfold Bm;simp only[BEq.beq,pe1,pe3,pe4];simp
       (repeat refine AW.seq_k fun K hK=>?_);refine AW.rd [0,1,2,3,4,5,6,7,8,9,10,11,12,13,14,15,16,17,18,19,20,21,22,23,24,25,26,27,28,29,30,31,32,33,34,35,36,37] Dm ?_;simp[hkl,hY,Ca,pe1,pe3,pe4];try (refine hK _ rfl ?_;clear hK K)
       refine AW.yes ?_ rfl;(repeat refine AW.seq_k fun K hK=>?_);refine AW.rg ?_;simp;try (refine hK _ rfl ?_;clear hK K)
       exact AW.ret (Af rfl _ (.same _) ⟨by unfold Cd;rw[B9 hi (hf hs)];rfl,rfl⟩)
      ·have pe1:(Y.a=X.a)=False:=eq_false e1;have pe3:(Y.a=X.b)=True:=eq_true e3;have pe4:(Y.b=X.a)=False:=eq_false e4;have hs:Bm X Y=false:=by unfold Bm;simp only[BEq.beq,pe1,pe3,pe4];simp
       (repeat refine AW.seq_k fun K hK=>?_);refine AW.rd [0,1,2,3,4,5,6,7,8,9,10,11,12,13,14,15,16,17,18,19,20,21,22,23,24,25,26,27,28,29,30,31,32,33,34,35,36,37] Dm ?_;simp[hkl,hY,Ca,pe1,pe3,pe4];try (refine hK _ rfl ?_;clear hK K)
       refine AW.no ?_ rfl;refine AW.skip ?_;try simp
       try (refine hK _ rfl ?_;clear hK K)
       (repeat refine AW.seq_k fun K hK=>?_);refine AW.rg ?_;simp[-Int.natCast_add,w2];try (refine hK _ rfl ?_;clear hK K)
       exact⟨⟨by omega,hno hs⟩,by omega⟩
     ·have pe1:(Y.a=X.a)=False:=eq_false e1;have pe3:(Y.a=X.b)=False:=eq_false e3;have hs:Bm X Y=false:=by unfold Bm;simp only[BEq.beq,pe1,pe3];simp
      (repeat refine AW.seq_k fun K hK=>?_);refine AW.rd [0,1,2,3,4,5,6,7,8,9,10,11,12,13,14,15,16,17,18,19,20,21,22,23,24,25,26,27,28,29,30,31,32,33,34,35,36,37] Dm ?_;simp[hkl,hY,Ca,pe1,pe3];try (refine hK _ rfl ?_;clear hK K)
      refine AW.no ?_ rfl;refine AW.skip ?_;try simp
      try (refine hK _ rfl ?_;clear hK K)
      (repeat refine AW.seq_k fun K hK=>?_);refine AW.rg ?_;simp[-Int.natCast_add,w2];try (refine hK _ rfl ?_;clear hK K)
      exact⟨⟨by omega,hno hs⟩,by omega⟩
   ·refine AW.exit ?_;try simp
    have hki:k=i:=by omega
    have hany:(es.take i).any (Bm X)=false:=by
     rw[List.any_eq_false];intro y hy;obtain⟨q,hq,rfl⟩:=List.mem_take_iff_getElem.1 hy;have:=k2 q (by omega);rw[L9 (by omega)]at this;rw[this];simp
    (repeat refine AW.seq_k fun K hK=>?_);refine AW.rg ?_;simp[-Int.natCast_add,w1];try (refine hK _ rfl ?_;clear hK K)
    exact⟨⟨by omega,by intro q hq;rcases Nat.lt_or_ge q i with h1 | h1;exact g3 q h1;rw[show q=i by omega,hp];exact W9 ⟨by omega,by omega,by omega,by omega,d5,d6,by omega,hany⟩⟩,by omega⟩
  ·refine AW.exit ?_;try simp
   have:i=es.length:=by omega
   unfold C0;rw[←this,g2];simp;omega
 ·rintro _ h;(repeat refine AW.seq_k fun K hK=>?_);refine AW.rg ?_;simp;try (refine hK _ rfl ?_;clear hK K)
  exact AW.ret (Af rfl _ (.same _) ⟨by unfold Cd;rw[h];rfl,rfl⟩)
end Go.Av
end
section
namespace Go.Av
open Go.Proofs Go.Lam
def Ra (pre:List RE) (c:Nat):Bool:=pre.any fun y=>(y.a.toNat*12+y.b.toNat==c) || (y.b.toNat*12+y.a.toNat==c)
def Hu (pre:List RE):List AV:=(List.range 144).map fun c=>.bool (Ra pre c)
@[simp] theorem Na (pre:List RE):(Hu pre).length=144:=by simp[Hu]
theorem Ol (pre:List RE) {c:Nat} (hc:c<144):(Hu pre)[c]?=some (.bool (Ra pre c)):=by simp[Hu,hc]
theorem Qev (pre:List RE):(Hu pre).all AV.one=true:=by simp[Hu,AV.one]
def RE.inB (x:RE):Prop:=0≤x.a∧x.a<12∧0≤x.b∧x.b<12
theorem F5 (pre:List RE) (x:RE) (hx:x.inB):((Hu pre).set (x.a.toNat*12+x.b.toNat) (.bool true)).set (x.b.toNat*12+x.a.toNat) (.bool true)=Hu (pre++[x]):=by
 obtain⟨h1,h2,h3,h4⟩:=hx;refine List.ext_getElem? fun c=>?_;by_cases hc:c<144
 ·rw[Ol _ hc,List.getElem?_set,List.length_set,Na];by_cases e1:x.b.toNat*12+x.a.toNat=c
  ·rw[if_pos e1,if_pos (by omega)];simp[Ra,e1]
  ·rw[if_neg e1,List.getElem?_set,Na];by_cases e2:x.a.toNat*12+x.b.toNat=c
   ·rw[if_pos e2,if_pos (by omega)];simp[Ra,e2]
   ·rw[if_neg e2,Ol _ hc];simp[Ra,e1,e2]
 ·rw[List.getElem?_eq_none (by simp;omega),List.getElem?_eq_none (by simp;omega)]
theorem Qac {pre:List RE} {x:RE} (hp:∀y∈pre,y.inB) (hx:x.inB):Ra pre (x.a.toNat*12+x.b.toNat)=pre.any (Bm x):=by
 unfold Ra;rw[Bool.eq_iff_iff,List.any_eq_true,List.any_eq_true];obtain⟨h1,h2,h3,h4⟩:=hx;refine exists_congr fun y=>and_congr_right fun hy=>?_;obtain⟨q1,q2,q3,q4⟩:=hp y hy;unfold Bm;simp only[Bool.or_eq_true,beq_iff_eq,Bool.and_eq_true];omega
theorem Rr {cs:List AV} {j:Nat} (v:Bool) (h:j<cs.length) (hl:cs.length=144):Bu 144 1 (.agg cs) (.bool v) j=.agg (cs.set j (.bool v)):=by
 unfold Bu;rw[if_neg (by omega)];show AV.agg (cs.take j++[.bool v]++cs.drop (j+1))=_
 rw[List.set_eq_take_append_cons_drop,if_pos h];simp
theorem Zx (bu:Nat) (pre:List RE):∀c y,Aa.emp.set bu ⟨73,144,[.agg (Hu pre)]⟩ c=some y→∀v∈y.l,v.cells.all AV.one=true:=by
 intro c y hy v hv;simp only[A2,Az]at hy;split at hy
 ·cases hy;simp only[List.mem_singleton]at hv;subst hv;exact Qev pre
 ·cases hy
theorem Z3 {m':Aa} {bu b:Nat} {x:Es} (X:RE) (h:m' b=none):Bw ((Aa.emp.set bu x).set b ⟨46,6,[X.av]⟩) m' (.ptr b 6 0 0) (.rptr [.int .i64 X.a,.int .i64 X.b,.bool X.sq.n1,Al X.sq.l1,.bool X.sq.n2,Al X.sq.l2]) :=
 .ptr b 6 0 0 ⟨46,6,[X.av]⟩ X.av (Aa.set_same _ _ _) h rfl rfl
set_option maxRecDepth 8000 in
theorem Oi (n:Int) (es:List RE) (hb:S4 es):Aj Tryz.prog 18 [.int .i64 n,A4 es] Aa.emp fun v m=>v=Cd n es∧m=Aa.emp:=by
 refine Ad Tryz.func18 rfl rfl 84 rfl (Nat.le_of_ble_eq_true rfl) ?_;unfold A4;(repeat refine AW.seq_k fun K hK=>?_);refine AW.rg ?_;simp[Ak];try (refine hK _ rfl ?_;clear hK K)
 by_cases c1:n<1
 ·have hc:C0 n es=false:=by unfold C0;simp;omega
  (repeat refine AW.seq_k fun K hK=>?_);refine AW.rg ?_;simp[c1];try (refine hK _ rfl ?_;clear hK K)
  refine AW.yes ?_ rfl;(repeat refine AW.seq_k fun K hK=>?_);refine AW.rg ?_;simp;try (refine hK _ rfl ?_;clear hK K)
  exact AW.ret (Af rfl _ (.same _) ⟨by unfold Cd;rw[hc];rfl,rfl⟩)
 by_cases c2:12<n
 ·have hc:C0 n es=false:=by unfold C0;simp;omega
  (repeat refine AW.seq_k fun K hK=>?_);refine AW.rg ?_;simp[c1,c2];try (refine hK _ rfl ?_;clear hK K)
  refine AW.yes ?_ rfl;(repeat refine AW.seq_k fun K hK=>?_);refine AW.rg ?_;simp;try (refine hK _ rfl ?_;clear hK K)
  exact AW.ret (Af rfl _ (.same _) ⟨by unfold Cd;rw[hc];rfl,rfl⟩)
 by_cases c3:(40:Int)<(es.length:Int)
 ·have hc:C0 n es=false:=by unfold C0;simp;omega
  (repeat refine AW.seq_k fun K hK=>?_);refine AW.rg ?_;simp[c1,c2,c3];try (refine hK _ rfl ?_;clear hK K)
  refine AW.yes ?_ rfl;(repeat refine AW.seq_k fun K hK=>?_);refine AW.rg ?_;simp;try (refine hK _ rfl ?_;clear hK K)
  exact AW.ret (Af rfl _ (.same _) ⟨by unfold Cd;rw[hc];rfl,rfl⟩)
 (repeat refine AW.seq_k fun K hK=>?_);refine AW.rg ?_;simp[c1,c2,c3];try (refine hK _ rfl ?_;clear hK K)
 refine AW.no ?_ rfl;refine AW.skip ?_;try simp
 try (refine hK _ rfl ?_;clear hK K)
 (repeat refine AW.seq_k fun K hK=>?_);refine AW.rg ?_;simp;try (refine hK _ rfl ?_;clear hK K)
 refine Ai.intro fun bu hbu=>?_;refine hK _ rfl ?_;clear hK K;refine AW.seq_ex (ι:=Unit) (fun _=>[]) (fun _=>Aa.emp.set bu ⟨73,144,[.agg (Hu es)]⟩) (fun _=>C0 n es=true) ?_ ?_
 ·(repeat refine AW.seq_k fun K hK=>?_);refine AW.rg ?_;simp;try (refine hK _ rfl ?_;clear hK K)
  refine AW.block (AW.loopS (ι:=Nat) (fun i=>[(0,.int .i64 n),(1,.sl 6 (Dl es)),(5,.ptr bu 144 0 0),(19,.sl 6 (Dl es)),(20,.int .i64 (es.length:Nat)),(21,.int .i64 (i:Nat))]) (fun i=>Aa.emp.set bu ⟨73,144,[.agg (Hu (es.take i))]⟩)
   (fun i=>i≤es.length∧(List.range i).all (N5 n es)=true) (fun i=>es.length-i) 0 ⟨by simp,by simp⟩ (by rfl) (by simp) ?_)
  rintro i ⟨g1,g2⟩;(repeat refine AW.seq_k fun K hK=>?_);refine AW.rg ?_;simp;try (refine hK _ rfl ?_;clear hK K)
  (repeat refine AW.seq ?_);refine AW.cs (fun hi=>?_) (fun hi=>?_) rfl<;>(try simp at hi)
  ·refine AW.skip ?_;try simp
   try (refine hK _ rfl ?_;clear hK K)
   have w1:=Aq (i+1) (by omega);have g3:∀x,x<i→N5 n es x=true:=by simpa using g2
   have hx:=hb.at hi;have hv:=Fi (Fm es i).sq hx;have hs:=Mh (Fm es i).sq hx;have hp:N5 n es i=okE n (es.take i) (Fm es i):=rfl;have htk:es.take (i+1)=es.take i++[Fm es i]:=by rw[L9 hi,List.take_add_one,List.getElem?_eq_getElem hi];rfl
   have hpre:∀y∈es.take i,y.inB:=by
    intro y hy;obtain⟨q,hq,rfl⟩:=List.mem_take_iff_getElem.1 hy;have h1:=g3 q (by omega);unfold N5 okE at h1;rw[L9 (by omega)]at h1;simp only[Bool.and_eq_true,decide_eq_true_eq]at h1;exact⟨by omega,by omega,by omega,by omega⟩
   generalize hX:Fm es i=X at *;(repeat refine AW.seq ?_);refine AW.block ?_;(repeat refine AW.seq_k fun K hK=>?_);refine AW.rg ?_;simp[hi,hX,Ca];try (refine hK _ rfl ?_;clear hK K)
   refine Ai.intro fun b6 hb6=>?_;simp only[Ap,Az,and_true]at hb6;have hb6':=hb6.1;have hb6'':=hb6.2;refine hK _ rfl ?_;clear hK K;refine AW.turn [(0,.int .i64 n),(1,.sl 6 (Dl es)),(5,.ptr bu 144 0 0),(7,.rptr [.int .i64 X.a,.int .i64 X.b,.bool X.sq.n1,Al X.sq.l1,.bool X.sq.n2,Al X.sq.l2]),(19,.sl 6 (Dl es)),(20,.int .i64 (es.length:Nat)),(21,.int .i64 (i:Nat))] (Aa.emp.set bu ⟨73,144,[.agg (Hu (es.take i))]⟩) (Bl.drop (by simp[hb6',hb6'']) (Zx bu (es.take i))) ?_ ?_
   ·simp;exact Z3 X (by simp[hb6'])
   by_cases d1:X.a<0
   ·have hf:N5 n es i=false:=by rw[hp];exact Cb (by rintro⟨q1,q2,q3,q4,q5,_⟩;omega)
    (repeat refine AW.seq_k fun K hK=>?_);refine AW.rdL [bu] [0,1,2,3,4,5,6,7,8,9,10,11,12,13,14,15,16,17,18,19,20,21,22,23,24,25,26,27,28,29,30,31,32,33,34,35] Dm (by simp) ?_;simp[d1];try (refine hK _ rfl ?_;clear hK K)
    refine AW.yes ?_ rfl;(repeat refine AW.seq_k fun K hK=>?_);refine AW.rg ?_;simp;try (refine hK _ rfl ?_;clear hK K)
    exact AW.ret (Af rfl _ (.same _) ⟨by unfold Cd;rw[B9 hi hf];rfl,rfl⟩)
   by_cases d2:n≤X.a
   ·have hf:N5 n es i=false:=by rw[hp];exact Cb (by rintro⟨q1,q2,q3,q4,q5,_⟩;omega)
    (repeat refine AW.seq_k fun K hK=>?_);refine AW.rdL [bu] [0,1,2,3,4,5,6,7,8,9,10,11,12,13,14,15,16,17,18,19,20,21,22,23,24,25,26,27,28,29,30,31,32,33,34,35] Dm (by simp) ?_;simp[d1,d2];try (refine hK _ rfl ?_;clear hK K)
    refine AW.yes ?_ rfl;(repeat refine AW.seq_k fun K hK=>?_);refine AW.rg ?_;simp;try (refine hK _ rfl ?_;clear hK K)
    exact AW.ret (Af rfl _ (.same _) ⟨by unfold Cd;rw[B9 hi hf];rfl,rfl⟩)
   by_cases d3:X.b<0
   ·have hf:N5 n es i=false:=by rw[hp];exact Cb (by rintro⟨q1,q2,q3,q4,q5,_⟩;omega)
    (repeat refine AW.seq_k fun K hK=>?_);refine AW.rdL [bu] [0,1,2,3,4,5,6,7,8,9,10,11,12,13,14,15,16,17,18,19,20,21,22,23,24,25,26,27,28,29,30,31,32,33,34,35] Dm (by simp) ?_;simp[d1,d2,d3];try (refine hK _ rfl ?_;clear hK K)
    refine AW.yes ?_ rfl;(repeat refine AW.seq_k fun K hK=>?_);refine AW.rg ?_;simp;try (refine hK _ rfl ?_;clear hK K)
    exact AW.ret (Af rfl _ (.same _) ⟨by unfold Cd;rw[B9 hi hf];rfl,rfl⟩)
   by_cases d4:n≤X.b
   ·have hf:N5 n es i=false:=by rw[hp];exact Cb (by rintro⟨q1,q2,q3,q4,q5,_⟩;omega)
    (repeat refine AW.seq_k fun K hK=>?_);refine AW.rdL [bu] [0,1,2,3,4,5,6,7,8,9,10,11,12,13,14,15,16,17,18,19,20,21,22,23,24,25,26,27,28,29,30,31,32,33,34,35] Dm (by simp) ?_;simp[d1,d2,d3,d4];try (refine hK _ rfl ?_;clear hK K)
    refine AW.yes ?_ rfl;(repeat refine AW.seq_k fun K hK=>?_);refine AW.rg ?_;simp;try (refine hK _ rfl ?_;clear hK K)
    exact AW.ret (Af rfl _ (.same _) ⟨by unfold Cd;rw[B9 hi hf];rfl,rfl⟩)
   by_cases d5:X.a=X.b
   ·have hf:N5 n es i=false:=by rw[hp];exact Cb (by rintro⟨q1,q2,q3,q4,q5,_⟩;omega)
    (repeat refine AW.seq_k fun K hK=>?_);refine AW.rdL [bu] [0,1,2,3,4,5,6,7,8,9,10,11,12,13,14,15,16,17,18,19,20,21,22,23,24,25,26,27,28,29,30,31,32,33,34,35] Dm (by simp) ?_;simp[d1,d2,d3,d4,d5];try (refine hK _ rfl ?_;clear hK K)
    refine AW.yes ?_ rfl;(repeat refine AW.seq_k fun K hK=>?_);refine AW.rg ?_;simp;try (refine hK _ rfl ?_;clear hK K)
    exact AW.ret (Af rfl _ (.same _) ⟨by unfold Cd;rw[B9 hi hf];rfl,rfl⟩)
   have hin:X.inB:=⟨by omega,by omega,by omega,by omega⟩;have hug:=Ol (es.take i) (c:=X.a.toNat*12+X.b.toNat) (by obtain⟨q1,q2,q3,q4⟩:=hin;omega);have hus:=Qac (pre:=es.take i) (x:=X) hpre hin;have l1:X.a<12:=by omega
   have l2:X.b<12:=by omega
   have l3:0≤X.a:=by omega
   have l4:0≤X.b:=by omega
   by_cases d0:(es.take i).any (Bm X)=true
   ·have hf:N5 n es i=false:=by rw[hp];exact Cb (fun q=>by have:=q.2.2.2.2.2.2.2;rw[d0]at this;cases this)
    rw[hus,d0]at hug;(repeat refine AW.seq_k fun K hK=>?_);refine AW.rdL [bu] [0,1,2,3,4,5,6,7,8,9,10,11,12,13,14,15,16,17,18,19,20,21,22,23,24,25,26,27,28,29,30,31,32,33,34,35] Dm (by simp) ?_;simp[d1,d2,d3,d4,d5,l1,l2,l3,l4,hug];try (refine hK _ rfl ?_;clear hK K)
    refine AW.yes ?_ rfl;(repeat refine AW.seq_k fun K hK=>?_);refine AW.rg ?_;simp;try (refine hK _ rfl ?_;clear hK K)
    exact AW.ret (Af rfl _ (.same _) ⟨by unfold Cd;rw[B9 hi hf];rfl,rfl⟩)
   replace d0:(es.take i).any (Bm X)=false:=by simpa using d0
   rw[hus,d0]at hug;(repeat refine AW.seq_k fun K hK=>?_);refine AW.rdL [bu] [0,1,2,3,4,5,6,7,8,9,10,11,12,13,14,15,16,17,18,19,20,21,22,23,24,25,26,27,28,29,30,31,32,33,34,35] Dm (by simp) ?_;simp[d1,d2,d3,d4,d5,l1,l2,l3,l4,hug];try (refine hK _ rfl ?_;clear hK K)
   refine AW.no ?_ rfl;refine AW.skip ?_;try simp
   try (refine hK _ rfl ?_;clear hK K)
   by_cases d6:X.sq.ok=false
   ·have hf:N5 n es i=false:=by rw[hp];exact Cb (fun q=>by rw[d6]at q;simp at q)
    (repeat refine AW.seq_k fun K hK=>?_);refine AW.rg ?_;simp;try (refine hK _ rfl ?_;clear hK K)
    refine Ac.val hv ?_;simp[d6];try (refine hK _ rfl ?_;clear hK K)
    refine AW.yes ?_ rfl;(repeat refine AW.seq_k fun K hK=>?_);refine AW.rg ?_;simp;try (refine hK _ rfl ?_;clear hK K)
    exact AW.ret (Af rfl _ (.same _) ⟨by unfold Cd;rw[B9 hi hf];rfl,rfl⟩)
   replace d6:X.sq.ok=true:=by simpa using d6
   by_cases d7:De X.sq≤0
   ·have hf:N5 n es i=false:=by rw[hp];exact Cb (fun q=>by have:=q.2.2.2.2.2.2.1;omega)
    (repeat refine AW.seq_k fun K hK=>?_);refine AW.rg ?_;simp;try (refine hK _ rfl ?_;clear hK K)
    refine Ac.val hv ?_;simp[d6];refine Ac.val hs ?_;simp[d7];try (refine hK _ rfl ?_;clear hK K)
    refine AW.yes ?_ rfl;(repeat refine AW.seq_k fun K hK=>?_);refine AW.rg ?_;simp;try (refine hK _ rfl ?_;clear hK K)
    exact AW.ret (Af rfl _ (.same _) ⟨by unfold Cd;rw[B9 hi hf];rfl,rfl⟩)
   (repeat refine AW.seq_k fun K hK=>?_);refine AW.rg ?_;simp;try (refine hK _ rfl ?_;clear hK K)
   refine Ac.val hv ?_;simp[d6];refine Ac.val hs ?_;simp[d7];try (refine hK _ rfl ?_;clear hK K)
   refine AW.no ?_ rfl;refine AW.skip ?_;try simp
   try (refine hK _ rfl ?_;clear hK K)
   have st1:=Rr (cs:=Hu (es.take i)) (j:=X.a.toNat*12+X.b.toNat) true (by simp;obtain⟨q1,q2,q3,q4⟩:=hin;omega) (by simp);have st2:=Rr (cs:=(Hu (es.take i)).set (X.a.toNat*12+X.b.toNat) (.bool true)) (j:=X.b.toNat*12+X.a.toNat) true (by simp;obtain⟨q1,q2,q3,q4⟩:=hin;omega) (by simp);have pj1:X.a.toNat*12+X.b.toNat<144:=by omega
   have pj2:X.b.toNat*12+X.a.toNat<144:=by omega
   (repeat refine AW.seq_k fun K hK=>?_);refine AW.rdT [] [7,71,73,75,77] [] [] [0,1,2,3,4,5,6,7,8,9,11,10,12,13] Dm (by simp[l1,l2,l3,l4,st1,st2,F5 _ _ hin,pj1,pj2]) (by simp[l1,l2,l3,l4,st1,st2,F5 _ _ hin,pj1,pj2]) (by simp[l1,l2,l3,l4,st1,st2,F5 _ _ hin,pj1,pj2]) (by simp[l1,l2,l3,l4,st1,st2,F5 _ _ hin,pj1,pj2]) (by simp[l1,l2,l3,l4,st1,st2,F5 _ _ hin,pj1,pj2]) ?_;simp[l1,l2,l3,l4,st1,st2,F5 _ _ hin,pj1,pj2];try (refine hK _ rfl ?_;clear hK K)
   refine⟨by omega,by omega,?_⟩;(repeat refine AW.seq_k fun K hK=>?_);refine AW.rg ?_;simp[-Int.natCast_add,w1];try (refine hK _ rfl ?_;clear hK K)
   exact⟨i+1,⟨by omega,by intro q hq;rcases Nat.lt_or_ge q i with h1 | h1;exact g3 q h1;rw[show q=i by omega,hp];exact W9 ⟨by omega,by omega,by omega,by omega,d5,d6,by omega,d0⟩⟩,by omega,by rw[htk],rfl⟩
  ·refine AW.exit ?_;try simp
   have:i=es.length:=by omega
   refine⟨?_,?_⟩
   ·unfold C0;rw[←this,g2];simp;omega
   ·rw[List.take_of_length_le (by omega)]
 ·rintro _ h;(repeat refine AW.seq_k fun K hK=>?_);refine AW.rg ?_;simp;try (refine hK _ rfl ?_;clear hK K)
  exact AW.ret (Af rfl _ (.same _) ⟨by unfold Cd;rw[h];rfl,rfl⟩)
end Go.Av
end
section
namespace Go.Av
open Go.Proofs Go.Lam
theorem Ei {n:Int} {es:List RE} (h:C0 n es=true):(1≤n∧n≤12∧es.length≤40)∧∀i,i<es.length→okE n (es.take i) (Fm es i)=true:=by
 unfold C0 at h;simp only[Bool.and_eq_true,decide_eq_true_eq,List.all_eq_true,List.mem_range]at h;exact⟨⟨h.1.1.1,h.1.1.2,h.1.2⟩,h.2⟩
theorem Qek {n:Int} {pre:List RE} {x:RE} (h:okE n pre x=true):0≤x.a∧x.a<n∧0≤x.b∧x.b<n∧x.a≠x.b∧x.sq.ok=true∧0<De x.sq∧pre.any (Bm x)=false:=by
 unfold okE at h;simp only[Bool.and_eq_true,decide_eq_true_eq,Bool.not_eq_true',beq_eq_false_iff_ne]at h;exact⟨h.1.1.1.1.1.1.1,h.1.1.1.1.1.1.2,h.1.1.1.1.1.2,h.1.1.1.1.2,h.1.1.1.2,h.1.1.2,h.1.2,h.2⟩
theorem I2 {n:Int} {es:List RE} (h:C0 n es=true):Lh n.toNat es:=by
 obtain⟨⟨h1,h2,h3⟩,h4⟩:=Ei h;intro i hi;obtain⟨q1,q2,q3,q4,q5,_⟩:=Qek (h4 i hi);unfold Ae C5;simp only;omega
def D6 (n:Int) (es:List RE):List Nat:=if C0 n es=true then Bt n.toNat (Ae es) [] (List.range es.length) else []
theorem Lh.at {n:Nat} {es:List RE} (h:Lh n es) {s:List Nat} (hs:∀i∈s,i<es.length):∀i∈s,C5 n (Ae es i):=fun i hi=>(h i (hs i hi)).2.2
theorem Qc3 {n:Nat} {E:Nat→Ed} {i k:Nat} (h:k∈Bt n E [] (List.range i)):k<i:=by
 rcases Mq h with h1|h1
 ·simp at h1
 ·simpa using h1
theorem Qdg (n:Nat) (E:Nat→Ed) (i:Nat):(Bt n E [] (List.range i)).length≤i:=by
 have:=F8 (n:=n) (E:=E) (List.range i) [];simpa using this
def Re (n:Int) (es:List RE):AV:=.int .i64 (if C0 n es=true then (if n=1 then 0 else 2*n-3-((D6 n es).length:Int)) else 0)
theorem Ny {n:Int} {es:List RE} (h:C0 n es=true):(D6 n es).length≤40:=by
 obtain⟨⟨h1,h2,h3⟩,_⟩:=Ei h;unfold D6;rw[if_pos h];have:=Qdg n.toNat (Ae es) es.length;omega
end Go.Av
end
section
namespace Go.Av
open Go.Proofs Go.Lam
theorem Xt (l:List Nat) (e:Nat) (hl:l.length<2^40):Aj Tryz.prog 89 [.sl 1 (Ao l),.int .i64 (e:Nat)] Aa.emp fun v m=>(∃t:Int,v=.int .i64 t∧(0≤t↔e∈l))∧m=Aa.emp:=by
 refine Ad Tryz.func89 rfl rfl 19 rfl (Nat.le_of_ble_eq_true rfl) ?_;(repeat refine AW.seq_k fun K hK=>?_);refine AW.rg ?_;simp[Ak];try (refine hK _ rfl ?_;clear hK K)
 refine AW.seq_ex (ι:=Unit) (fun _=>[]) (fun _=>Aa.emp) (fun _=>e ∉ l) ?_ ?_
 ·(repeat refine AW.seq_k fun K hK=>?_);refine AW.rg ?_;simp;try (refine hK _ rfl ?_;clear hK K)
  refine AW.block (AW.loopS (ι:=Nat) (fun i=>[(0,.sl 1 (Ao l)),(1,.int .i64 (e:Nat)),(7,.int .i64 (l.length:Nat)),(8,.int .i64 (i:Nat))]) (fun i=>Aa.emp)
   (fun i=>i≤l.length∧∀k,(h:k<l.length)→k<i→l[k]≠e) (fun i=>l.length-i) 0 ⟨by simp,by omega⟩ rfl (by simp) ?_)
  rintro i ⟨g1,g2⟩;(repeat refine AW.seq_k fun K hK=>?_);refine AW.rg ?_;simp;try (refine hK _ rfl ?_;clear hK K)
  (repeat refine AW.seq ?_);refine AW.cs (fun hi=>?_) (fun hi=>?_) rfl<;>(try simp at hi)
  ·refine AW.skip ?_;try simp
   try (refine hK _ rfl ?_;clear hK K)
   have w1:=Aq (i+1) (by omega);(repeat refine AW.seq ?_);refine AW.block ?_;(repeat refine AW.seq_k fun K hK=>?_);refine AW.rg ?_;simp;try (refine hK _ rfl ?_;clear hK K)
   (repeat refine AW.seq_k fun K hK=>?_);refine AW.rg ?_;simp[hi];try (refine hK _ rfl ?_;clear hK K)
   (repeat refine AW.seq ?_);refine AW.cs (fun he=>?_) (fun he=>?_) rfl<;>(try simp at he)
   ·(repeat refine AW.seq_k fun K hK=>?_);refine AW.rg ?_;simp;try (refine hK _ rfl ?_;clear hK K)
    exact AW.ret (Af rfl _ (.same _) ⟨⟨i,rfl,⟨fun _=>(by rw[he];exact List.getElem_mem hi),fun _=>(by omega)⟩⟩,rfl⟩)
   ·refine AW.skip ?_;try simp
    try (refine hK _ rfl ?_;clear hK K)
    (repeat refine AW.seq_k fun K hK=>?_);refine AW.rg ?_;simp[-Int.natCast_add,w1];try (refine hK _ rfl ?_;clear hK K)
    refine⟨⟨by omega,fun k h hk=>?_⟩,by omega⟩;rcases Nat.lt_or_ge k i with h1 | h1
    ·exact g2 k h h1
    ·have:k=i:=by omega
     subst this;exact fun h=>he h.symm
  ·refine AW.exit ?_;try simp
   intro hm;obtain⟨k,hk,rfl⟩:=List.mem_iff_getElem.1 hm;exact g2 k hk (by omega) rfl
 ·rintro _ h;(repeat refine AW.seq_k fun K hK=>?_);refine AW.rg ?_;simp;try (refine hK _ rfl ?_;clear hK K)
  exact AW.ret (Af rfl _ (.same _) ⟨⟨-1,rfl,⟨fun h=>(by omega),fun h'=>absurd h' h⟩⟩,rfl⟩)
theorem Q9 (l:List Nat) (e:Nat) (hl:l.length<2^40):Aj Tryz.prog 50 [.sl 1 (Ao l),.int .i64 (e:Nat)] Aa.emp fun v m=>v=.bool (decide (e∈l))∧m=Aa.emp:=by
 have hc:=Xt l e hl;refine Ad Tryz.func50 rfl rfl 9 rfl (Nat.le_of_ble_eq_true rfl) ?_;(repeat refine AW.seq_k fun K hK=>?_);refine AW.rg ?_;simp[Ak];try (refine hK _ rfl ?_;clear hK K)
 (repeat refine AW.seq_k fun K hK=>?_);refine AW.rg ?_;simp;try (refine hK _ rfl ?_;clear hK K)
 refine Ac.pure hc ?_;rintro _ ⟨t,rfl,ht⟩;simp;try (refine hK _ rfl ?_;clear hK K)
 exact AW.ret (Af rfl _ (.same _) ⟨by show AV.bool (decide (0≤t))=_;rw[decide_eq_decide.2 ht],rfl⟩)
theorem T1 (b:Nat) (l:List Nat):∀c y,Aa.emp.set b ⟨3,1,Ao l⟩ c=some y→∀v∈y.l,v.cells.all AV.one=true:=by
 intro c y hy v hv;simp only[A2,Az]at hy;split at hy
 ·cases hy;exact Ch _ v hv
 ·cases hy
theorem Wr (l:List Nat) (hl:l.length<2^40) (h0:l≠[]):Aj Tryz.prog 52 [.sl 1 (Ao l)] Aa.emp fun v m=>∃b,v=.osl b 1 0 l.length∧m=Aa.emp.set b ⟨3,1,Ao l⟩:=by
 have hi:Ao l≠[]:=by intro h;have:=Jy l;rw[h]at this;exact h0 (List.eq_nil_of_length_eq_zero this.symm)
 refine Ad Tryz.func52 rfl rfl 8 rfl (Nat.le_of_ble_eq_true rfl) ?_;(repeat refine AW.seq_k fun K hK=>?_);refine AW.rg ?_;simp[Ak];try (refine hK _ rfl ?_;clear hK K)
 (repeat refine AW.seq_k fun K hK=>?_);refine AW.rg ?_;simp[Kr,hi];try (refine hK _ rfl ?_;clear hK K)
 refine AW.no ?_ rfl;refine AW.skip ?_;try simp
 try (refine hK _ rfl ?_;clear hK K)
 (repeat refine AW.seq_k fun K hK=>?_);refine AW.rg ?_;simp;try (refine hK _ rfl ?_;clear hK K)
 refine Ai.intro fun b5 _=>⟨by omega,by unfold maxLen;omega,Ai.intro fun b7 _=>?_⟩;refine hK _ rfl ?_;clear hK K;exact AW.ret (Bx rfl (T1 b7 l) ⟨b7,rfl,rfl⟩)
theorem Nm (b:Nat) (l:List Nat) (k:Nat) (hk:k<l.length) (hl:l.length<2^40):Aj Tryz.prog 51 [.osl b 1 0 l.length,.int .i64 (k:Nat),.int .i64 ((k+1:Nat):Int)] (Aa.emp.set b ⟨3,1,Ao l⟩) fun v m=>v=.osl b 1 0 (l.length-1)∧m=Aa.emp.set b ⟨3,1,Ao (l.eraseIdx k)⟩:=by
 have hkn:¬(k:Int)=((k+1:Nat):Int):=by omega
 refine Ad Tryz.func51 rfl rfl 33 rfl (Nat.le_of_ble_eq_true rfl) ?_;(repeat refine AW.seq_k fun K hK=>?_);refine AW.rg ?_;simp[-Int.natCast_add,Ak];try (refine hK _ rfl ?_;clear hK K)
 have w0:((l.length:Int)).toNat=l.length:=by simp
 have c0:(0:Int)≤(l.length:Int):=by omega
 have c1:((k+1:Nat):Int)≤(l.length:Int):=by omega
 have c2:(k:Int)≤((k+1:Nat):Int):=by omega
 have c3:¬l.length=k:=by omega
 (repeat refine AW.seq_k fun K hK=>?_);refine AW.rg ?_;simp[-Int.natCast_add,c0,c1,c2,c3];try (refine hK _ rfl ?_;clear hK K)
 (repeat refine AW.seq_k fun K hK=>?_);refine AW.rg ?_;simp[-Int.natCast_add,hkn];try (refine hK _ rfl ?_;clear hK K)
 refine AW.no ?_ rfl;refine AW.skip ?_;try simp[-Int.natCast_add]
 try (refine hK _ rfl ?_;clear hK K)
 (repeat refine AW.seq_k fun K hK=>?_);refine AW.rg ?_;simp[-Int.natCast_add];try (refine hK _ rfl ?_;clear hK K)
 have key:(Ao l).take k++(Ao l).drop (k+1)++(Ao l).drop (l.length-1)=Ao (l.eraseIdx k++l.drop (l.length-1)):=by
  rw[List.eraseIdx_eq_take_drop_succ];simp[Ao,List.map_take,List.map_drop]
 have hel:(l.eraseIdx k).length=l.length-1:=by rw[List.length_eraseIdx,if_pos hk]
 have hdl:(l.drop (l.length-1)).length=1:=by simp;omega
 have key2:(Ao (l.eraseIdx k++l.drop (l.length-1))).take (l.length-1)=Ao (l.eraseIdx k):=by
  unfold Ao;rw[←List.map_take,List.take_append_of_le_length (by omega),List.take_of_length_le (by omega)]
 refine AW.seq_has [(0,.osl b 1 0 (l.length-1)),(7,.int .i64 (l.length:Nat))] (Aa.emp.set b ⟨3,1,Ao (l.eraseIdx k++l.drop (l.length-1))⟩) ?_ ?_
 ·refine AW.rdLR [26] [] [0,1,2,3,4,5,6,7] Dm (by simp[-Int.natCast_add]) ?_;by_cases hlast:k+1=l.length
  ·have hne:¬l=[]:=by rintro rfl;simp at hk
   simp[c0,c1,c2,hlast,T2,hne];refine⟨by omega,by omega,by unfold maxLen;omega,by omega,?_,by omega⟩;have hd:(Ao l).drop (k+1)=[]:=List.drop_of_length_le (by simp;omega);rw[hd,List.append_nil,show l.length-1=k by omega]at key;rw[List.take_append_drop]at key;rw[show l.length-1=k by omega,←key]
  ·have c5:¬l.length=k+1:=by omega
   simp[-Int.natCast_add,c0,c1,c2,c5,T2];have ht:List.take (l.length-(k+1)) (List.drop (k+1) (Ao l))=List.drop (k+1) (Ao l):=List.take_of_length_le (by simp);refine⟨by omega,by omega,fun x hx=>?_,by omega,by unfold maxLen;omega,by omega,?_,by omega⟩
   ·have hm:x∈Ao l:=List.mem_of_mem_drop (List.mem_of_mem_take hx);unfold Ao at hm;obtain⟨y,_,rfl⟩:=List.mem_map.1 hm;exact⟨rfl,by simp[AV.cells,AV.one]⟩
   ·rw[ht,show k+(l.length-(k+1))=l.length-1 by omega,←List.append_assoc,key]
 (repeat refine AW.seq_k fun K hK=>?_);refine AW.rgY ?_;simp[Qet,isY,Qkg];refine⟨b,0,⟨rfl,rfl⟩,_,⟨rfl,rfl⟩,rfl,.i64,.i64,l.length-1,⟨rfl,rfl⟩,l.length,⟨rfl,rfl⟩,by omega,by simp[hel,hdl];omega,b,_,_,⟨rfl,rfl,rfl⟩,_,⟨rfl,rfl⟩,by omega,by simp[hel,hdl];omega,?_⟩;refine hK _ rfl ?_;clear hK K;(repeat refine AW.seq_k fun K hK=>?_);refine AW.rg ?_;simp;try (refine hK _ rfl ?_;clear hK K)
 refine AW.shrink (b:=b) (e:=3) (z:=1) (by simp only[A2,if_true];rfl) (l.length-1) ?_;simp;rw[List.take_append_of_le_length (by simp[hel,hdl]),List.take_take,Nat.min_self,key2];exact AW.ret (Bx rfl (T1 b _) ⟨rfl,rfl⟩)
end Go.Av
end
section
namespace Go.Av
section
variable {P:Program} {cf:Dn} {ops:Array Oper} {K:St→Prop}
def Cf (ops:Array Oper) (a b:Nat):Array Oper:=ops.modify b fun o=>{o with after:=o.after.push ⟨a,.data⟩}
theorem Gx (ops:Array Oper) (a b:Nat):(Cf ops a b).size=ops.size:=by simp[Cf]
theorem Dp (ops:Array Oper) (a b i:Nat):(Cf ops a b)[i]?=(ops[i]?).map fun o=>if i=b then {o with after:=o.after.push ⟨a,.data⟩} else o:=by
 unfold Cf;rw[Array.getElem?_modify];by_cases h:b=i
 ·subst h;simp
 ·rw[if_neg h];cases ops[i]? with
  |none=>rfl
  |some o=>simp[Ne.symm h]
theorem Wj (ops:Array Oper) (a b j:Nat):((Cf ops a b)[j]?).bind (·.dst)=(ops[j]?).bind (·.dst):=by
 rw[Dp];cases ops[j]? with
 |none=>rfl
 |some o=>simp only[Option.map_some,Option.bind_some];split<;>rfl
theorem G2 (a b:Nat) (o:Oper) (i:Nat) (K:St→Prop) (s:St):B3 P cf (Cf ops a b) (if i=b then {o with after:=o.after.push ⟨a,.data⟩} else o) K s↔B3 P cf ops o K s:=by
 have key:∀o':Oper,o'.op=o.op→o'.dst=o.dst→o'.guard=o.guard→(B3 P cf (Cf ops a b) o' K s↔B3 P cf ops o K s):=by
  intro o' h1 h2 h3;have he:∀(s:St) (k:AV→Aa→Prop),Eb P cf o' s k↔Eb P cf o s k:=by
   intro s k;unfold Eb Ot;rw[h1,h2]
  unfold B3 Cl;rw[h2,h3];cases o.guard with
  |none=>exact he _ _
  |some g =>
   obtain⟨j,want⟩:=g;simp only[Wj];cases (ops[j]?).bind (·.dst)with
   |none=>exact Iff.rfl
   |some d =>
    refine exists_congr fun t=>and_congr_right fun _=>?_;split
    ·exact he _ _
    ·exact Iff.rfl
 split
 ·exact key _ rfl rfl rfl
 ·exact key _ rfl rfl rfl
theorem L8 (a b:Nat):∀(plan:List Nat) (s:St),Bz P cf ops plan K s→Bz P cf (Cf ops a b) plan K s
 |[],_,h=>h
 |i::rest,s,h=>by
  unfold Bz at h ⊢;rw[Dp];cases ho:ops[i]? with
  |none=>rw[ho]at h;exact h
  |some o =>
   rw[ho]at h;simp only[Option.map_some];rw[G2];unfold B3 at h ⊢;exact Bj (fun v m hk=>L8 a b rest _ hk) h
theorem F9 {a b:Nat} {listed:Array Bool} {i:Nat} (h:i∈Region.ready .any ops listed) (hi:i≠b∨listed.getD a false=true):i∈Region.ready .any (Cf ops a b) listed:=by
 rw[Dk]at h ⊢;obtain⟨h1,h2,h3⟩:=h;refine⟨by rw[Gx];exact h1,h2,fun o ho e he hb=>?_⟩;rw[Dp]at ho;cases hx:ops[i]? with
 |none=>rw[hx]at ho;cases ho
 |some o' =>
  rw[hx]at ho;simp only[Option.map_some,Option.some.injEq]at ho;subst ho;split at he
  ·rename_i hib
   simp only[Array.toList_push,List.mem_append,List.mem_singleton]at he;rcases he with he | rfl
   ·exact h3 o' hx e he hb
   ·rcases hi with hi|hi
    ·exact absurd hib hi
    ·exact hi
  ·exact h3 o' hx e he hb
theorem N0 {a b:Nat}:∀(fuel:Nat) (listed:Array Bool) (s:St),listed.size=ops.size→listed.getD a false=true→Lk P cf (Cf ops a b) K fuel listed s→Lk P cf ops K fuel listed s
 |0,listed,s,_,ha,h=>by
  refine⟨?_,h.2⟩;cases hr:Region.ready .any ops listed with
  |nil=>rfl
  |cons i l =>
   have:=F9 (a:=a) (b:=b) (show i∈Region.ready .any ops listed by rw[hr];simp) (.inr ha);rw[h.1]at this;cases this
 |fuel+1,listed,s,hsz,ha,h=>by
  refine⟨fun he=>h.1 ?_,fun i hi=>?_⟩
  ·cases hr:Region.ready .any (Cf ops a b) listed with
   |nil=>rfl
   |cons i l =>
    have hi:i∈Region.ready .any (Cf ops a b) listed:=by rw[hr];simp
    have:i∈Region.ready .any ops listed:=by
     rw[Dk]at hi ⊢;refine⟨by rw[←Gx ops a b];exact hi.1,hi.2.1,fun o ho e he' hb=>hi.2.2 _ (by rw[Dp,ho];rfl) e ?_ hb⟩;split
     ·simp[he']
     ·exact he'
    rw[he]at this;cases this
  ·have h2:=h.2 i (F9 hi (.inr ha));rw[Dp]at h2;have hlt:=(Dk.1 hi).1;cases ho:ops[i]? with
   |none=>rw[ho]at h2;exact h2
   |some o =>
    rw[ho]at h2;simp only[Option.map_some]at h2 ⊢;rw[G2]at h2;unfold B3 at h2 ⊢;refine Bj (fun v m hk=>N0 fuel _ _ (by simpa using hsz) ?_ hk) h2;rw[Fe (by rw[hsz];exact hlt),ha];simp
def Qn (o:Oper):Bool:=match o.op with
 |.store _ _ _=>true
 |_=>false
def Qkr (o:Oper):Bool:=Qn o || match Bf o with
 |.q | .l | .a | .z=>true
 |_=>false
theorem Qbw {o:Oper} (ho:Qn o=true) {s:St} {k k':AV→Aa→Prop} (h1:Cl P cf ops o s k) (h2:Cl P cf ops o s k'):Cl P cf ops o s fun v m=>k v m∧k' v m:=by
 have key:∀{k k':AV→Aa→Prop},Eb P cf o s k→Eb P cf o s k'→Eb P cf o s fun v m=>k v m∧k' v m:=by
  intro k k' h1 h2;unfold Qn at ho;unfold Eb at *;split at ho
  ·rename_i t a x hop
   simp only[hop]at h1 h2 ⊢;obtain⟨ti,b,z,i,j,blk,old,q1,q2,q3,q4,q5,q6,q7,q8,q9⟩:=h1;obtain⟨ti',b',z',i',j',blk',old',r1,r2,r3,r4,r5,r6,r7,r8,r9⟩:=h2;rw[q1]at r1;cases r1;rw[q2]at r2;cases r2;rw[q3]at r3;cases r3;rw[q5]at r5;cases r5;exact⟨ti,b,z,i,j,blk,old,q1,q2,q3,q4,q5,q6,q7,q8,q9,r9⟩
  ·cases ho
 unfold Cl at *;cases hg:o.guard with
 |none=>rw[hg]at h1 h2;exact key h1 h2
 |some g =>
  obtain⟨j,want⟩:=g;rw[hg]at h1 h2;simp only at h1 h2 ⊢;cases hd:(ops[j]?).bind (·.dst)with
  |none=>rw[hd]at h1;exact h1
  |some d =>
   rw[hd]at h1 h2;simp only at h1 h2 ⊢;obtain⟨t,t1,t2⟩:=h1;obtain⟨t',t3,t4⟩:=h2;rw[t1]at t3;cases t3;refine⟨t,t1,?_⟩;cases t with
   |true=>simp only[if_true]at t2 t4 ⊢;exact key t2 t4
   |false=>simp only[Bool.false_eq_true,if_false]at t2 t4 ⊢;exact⟨t2,t4⟩
theorem Qbf (hdm:cf.dm=true) {o:Oper} (ho:Qkr o=true) {X Y:St→Prop} {s:St} (h1:B3 P cf ops o X s) (h2:B3 P cf ops o Y s):B3 P cf ops o (fun s'=>X s'∧Y s') s:=by
 by_cases hst:Qn o=true
 ·exact Qbw hst h1 h2
 unfold Qkr at ho;rw[Bool.not_eq_true]at hst;rw[hst,Bool.false_or]at ho;have hb:Bf o≠.b:=by intro e;rw[e]at ho;cases ho
 have hx:Bf o≠.x:=by intro e;rw[e]at ho;cases ho
 have hc:Bf o≠.c:=by intro e;rw[e]at ho;cases ho
 obtain⟨fo,f1,f2⟩:=Lg (P:=P) (cf:=cf) (ops:=ops) hb hx hdm s;unfold B3 at *;have e:({s with m:=s.m}:St)=s:=rfl;rw[←e,f2]at h1 h2 ⊢;cases fo with
 |no=>exact h1
 |quiet ev =>
  obtain⟨v,q1,q2⟩:=h1;obtain⟨v',q3,q4⟩:=h2;rw[q1]at q3;cases q3;exact⟨v,q1,q2,q4⟩
 |new fv x=>exact fun b p1 p2=>⟨h1 b p1 p2,h2 b p1 p2⟩
 |call f args=>exact absurd f1 hc
theorem Yw (hdm:cf.dm=true) (hsoft:∀(i:Nat) (o:Oper),ops[i]?=some o→Qkr o=true) {a b:Nat} (hab:a≠b):∀(fuel:Nat) (listed:Array Bool) (s:St),listed.size=ops.size→Lk P cf (Cf ops a b) K fuel listed s→Lk P cf (Cf ops b a) K fuel listed s→Lk P cf ops K fuel listed s
 |0,listed,s,_,h1,h2=>by
  refine⟨?_,h1.2⟩;cases hr:Region.ready .any ops listed with
  |nil=>rfl
  |cons i l =>
   have hi:i∈Region.ready .any ops listed:=by rw[hr];simp
   by_cases hib:i=b
   ·have:=F9 (a:=b) (b:=a) hi (.inl (by rw[hib];exact Ne.symm hab));rw[h2.1]at this;cases this
   ·have:=F9 (a:=a) (b:=b) hi (.inl hib);rw[h1.1]at this;cases this
 |fuel+1,listed,s,hsz,h1,h2=>by
  refine⟨fun he=>h1.1 ?_,fun i hi=>?_⟩
  ·cases hr:Region.ready .any (Cf ops a b) listed with
   |nil=>rfl
   |cons i l =>
    have hi:i∈Region.ready .any (Cf ops a b) listed:=by rw[hr];simp
    have:i∈Region.ready .any ops listed:=by
     rw[Dk]at hi ⊢;refine⟨by rw[←Gx ops a b];exact hi.1,hi.2.1,fun o ho e he' hb=>hi.2.2 _ (by rw[Dp,ho];rfl) e ?_ hb⟩;split
     ·simp[he']
     ·exact he'
    rw[he]at this;cases this
  ·have hlt:=(Dk.1 hi).1;cases ho:ops[i]? with
   |none=>have:=(Array.getElem?_eq_none_iff.1 ho);omega
   |some o =>
    simp only;have g1:i≠b→B3 P cf ops o (Lk P cf (Cf ops a b) K fuel (listed.setIfInBounds i true)) s:=fun hib=>by
     have:=h1.2 i (F9 hi (.inl hib));rw[Dp,ho]at this;simp only[Option.map_some]at this
     rwa [G2]at this
    have g2:i≠a→B3 P cf ops o (Lk P cf (Cf ops b a) K fuel (listed.setIfInBounds i true)) s:=fun hia=>by
     have:=h2.2 i (F9 hi (.inl hia));rw[Dp,ho]at this;simp only[Option.map_some]at this
     rwa [G2]at this
    have hsz':(listed.setIfInBounds i true).size=ops.size:=by simpa using hsz
    by_cases hib:i=b
    ·have:=g2 (by rw[hib];exact Ne.symm hab);unfold B3 at this ⊢;refine Bj (fun v m hk=>N0 fuel _ _ hsz' ?_ hk) this;rw[Fe (by rw[hsz];exact hlt),if_pos hib.symm]
    ·by_cases hia:i=a
     ·have:=g1 hib;unfold B3 at this ⊢;refine Bj (fun v m hk=>N0 fuel _ _ hsz' ?_ hk) this;rw[Fe (by rw[hsz];exact hlt),if_pos hia.symm]
     ·have:=Qbf hdm (hsoft i o ho) (g1 hib) (g2 hia);unfold B3 at this ⊢;exact Bj (fun v m hk=>Yw hdm hsoft hab fuel _ _ hsz' hk.1 hk.2) this
theorem Qcn {Q:Exit→St→Prop} {s:St} (ro:Nat→Bool) (av:Nat→Prop) (plan:List Nat) (hp:Hl P ro ops plan=true) (h:Bz P ⟨ro,av,true⟩ ops plan (Q .normal) s) :
  Lk P ⟨ro,av,true⟩ ops (Q .normal) ops.size (Array.replicate ops.size false) s:=by
 unfold Hl at hp;have hp0:=hp;unfold G7 at hp;simp only[Bool.and_eq_true]at hp;have hfil:(plan.filter fun i=>!(Array.replicate ops.size false).getD i true)=plan:=by
  refine List.filter_eq_self.2 fun i hi=>?_;have hlt:i<ops.size:=by
   have:=List.all_eq_true.1 hp.2.1.1.1.2 i hi;simpa[Nat.blt_eq]using this
  simp[hlt]
 have hcl:Ku ops (Array.replicate ops.size false):=fun i o ho hl e he hb=>by
  have hi:i<ops.size:=(Array.getElem?_eq_some_iff.1 ho).1;rw[Array.getD_eq_getD_getElem?,Array.getElem?_replicate,if_pos hi]at hl;cases hl
 refine O3 (cf:=⟨ro,av,true⟩) (q:=G6.no) (blk:=fun r=>r) rfl hp0 ops.size _ s ⟨fun _ h=>(by cases h),fun _ _ h=>(by cases h),fun _ h=>(by cases h),fun _ h=>(by cases h)⟩ Array.size_replicate hcl ?_ ?_
 ·rw[hfil];exact(of_decide_eq_true hp.2.1.1.2).2
 ·rw[hfil];exact h
theorem AW.rd2 {Q:Exit→St→Prop} {s:St} {id:Nat} (a b:Nat) (plan plan2:List Nat) (hm:P.follows .mixedOrders=true)
  (h1:Bz P ⟨fun _=>false,fun _=>False,true⟩ ops plan (Q .normal) s) (h2:Bz P ⟨fun _=>false,fun _=>False,true⟩ ops plan2 (Q .normal) s)
  (hok:Bo s.n ops=true:=by kernel_rfl) (hp1:Hl P (fun _=>false) (Cf ops a b) plan=true:=by kernel_rfl) (hp2:Hl P (fun _=>false) (Cf ops b a) plan2=true:=by kernel_rfl)
  (hab:Nat.beq a b=false:=by rfl) (hs:ops.toList.all Qkr=true:=by kernel_rfl):AW P (.region id ops true) Q s:=by
 intro F G w0 act w hr;refine wp_region_any hm ?_;have hok':∀i o,ops[i]?=some o→(Fz s.n o&&H2 ops s.n o)=true:=fun i o ho=>by
  unfold Bo at hok;exact List.all_eq_true.1 hok o (List.mem_of_getElem? (by rw[Array.getElem?_toList];exact ho))
 have hne:a≠b:=by intro e;subst e;simp at hab
 have q1:=Qcn (Q:=Q) (ops:=Cf ops a b) _ _ plan hp1 (L8 a b plan s h1);have q2:=Qcn (Q:=Q) (ops:=Cf ops b a) _ _ plan2 hp2 (L8 b a plan2 s h2);rw[Gx]at q1 q2;have hany:=Yw rfl (fun i o ho=>List.all_eq_true.1 hs o (List.mem_of_getElem? (by rw[Array.getElem?_toList];exact ho))) hne ops.size _ s Array.size_replicate q1 q2;have hd:Ds F G w0 s act {w with drawn:=w.drawn+1}:=hr.drew;exact Jh (F:=F) (G:=G) (w0:=w0) (cf:=⟨fun _=>false,fun _=>False,true⟩) s.n w.heap.size (fun _ h=>h.elim) (fun a w h=>h) hok' ops.size _ s act {w with drawn:=w.drawn+1} (Nat.le_refl _) rfl hd hany
end
end Go.Av
end
section
namespace Go.Av
open Go.Proofs Go.Lam
def Xi (o:Option Nat) (l:List Nat):AV:=match o with
 |none=>.nil
 |some b=>.osl b 1 0 l.length
def Gr (bs:List (Option Nat)) (cl:List (List Nat)):List AV:=List.zipWith Xi bs cl
def D3 (fl:List Nat):Nat→Nat:=fun v=>fl.getD v 0
def Cx (cl:List (List Nat)):Nat→List Nat:=fun v=>cl.getD v []
def Ci (es:List RE) (bf bc n:Nat):Es:=⟨105,3,[.agg [.sl 6 (Dl es),.osl bf 1 0 n,.osl bc 1 0 n]]⟩
structure C1 (M:Aa) (n bg bf bc:Nat) (es:List RE) (fl:List Nat) (bs:List (Option Nat)) (cl:List (List Nat)):Prop where
 g:M bg=some (Ci es bf bc n)
 f:M bf=some ⟨3,1,Ao fl⟩
 c:M bc=some ⟨25,1,Gr bs cl⟩
 fll:fl.length=n
 bsl:bs.length=n
 cll:cl.length=n
 row:∀(i b:Nat),bs[i]?=some (some b)→M b=some ⟨3,1,Ao (Cx cl i)⟩
 nil:∀(i:Nat),bs[i]?=some none→Cx cl i=[]
 nd:bg≠bf∧bg≠bc∧bf≠bc
 ndr:∀(i b:Nat),bs[i]?=some (some b)→b≠bg∧b≠bf∧b≠bc
 inj:∀(i j b:Nat),bs[i]?=some (some b)→bs[j]?=some (some b)→i=j
def A3 (bg bf bc:Nat) (bs:List (Option Nat)):List Nat:=bg::bf::bc::bs.filterMap id
def E2 (M:Aa) (l:List Nat):Prop:=∀k,M k≠none→k∈l
theorem A7 {bg bf bc k:Nat} {bs:List (Option Nat)}:k∈A3 bg bf bc bs↔k=bg∨k=bf∨k=bc∨∃i:Nat,bs[i]?=some (some k):=by
 unfold A3;simp only[List.mem_cons,List.mem_filterMap,id_eq,exists_eq_right];refine or_congr_right (or_congr_right (or_congr_right ?_));exact List.mem_iff_getElem?
section
variable {M:Aa} {n bg bf bc:Nat} {es:List RE} {fl:List Nat} {bs:List (Option Nat)} {cl:List (List Nat)}
theorem Gl (h:C1 M n bg bf bc es fl bs cl):(Gr bs cl).length=n:=by simp[Gr,h.bsl,h.cll]
theorem Kh (h:C1 M n bg bf bc es fl bs cl) {i:Nat} (hi:i<n):∃o,bs[i]?=some o∧(Gr bs cl)[i]?=some (Xi o (Cx cl i)):=by
 have h1:i<bs.length:=by rw[h.bsl];exact hi
 have h2:i<cl.length:=by rw[h.cll];exact hi
 refine⟨bs[i],List.getElem?_eq_getElem h1,?_⟩;unfold Gr;rw[List.getElem?_zipWith,List.getElem?_eq_getElem h1,List.getElem?_eq_getElem h2];simp[Cx,h2]
theorem U9 {i x:Nat} (hi:i<fl.length):D3 (fl.set i x)=Ex (D3 fl) i x:=by
 funext v
 unfold D3 Ex;rw[List.getD_eq_getElem?_getD,List.getElem?_set];by_cases h:i=v
 ·subst h;simp[hi]
 ·rw[if_neg h,if_neg (Ne.symm h),←List.getD_eq_getElem?_getD]
theorem Nd {i:Nat} {x:List Nat} (hi:i<cl.length):Cx (cl.set i x)=Ex (Cx cl) i x:=by
 funext v
 unfold Cx Ex;rw[List.getD_eq_getElem?_getD,List.getElem?_set];by_cases h:i=v
 ·subst h;simp[hi]
 ·rw[if_neg h,if_neg (Ne.symm h),←List.getD_eq_getElem?_getD]
theorem C1.setF (h:C1 M n bg bf bc es fl bs cl) (i x:Nat):C1 (M.set bf ⟨3,1,Ao (fl.set i x)⟩) n bg bf bc es (fl.set i x) bs cl where
 g:=by rw[Aa.set_other _ _ h.nd.1];exact h.g
 f:=Aa.set_same _ _ _
 c:=by rw[Aa.set_other _ _ (Ne.symm h.nd.2.2)];exact h.c
 fll:=by rw[List.length_set,h.fll]
 bsl:=h.bsl
 cll:=h.cll
 row:=fun i b hb=>by rw[Aa.set_other _ _ (h.ndr i b hb).2.1];exact h.row i b hb
 nil:=h.nil
 nd:=h.nd
 ndr:=h.ndr
 inj:=h.inj
theorem C1.setC (h:C1 M n bg bf bc es fl bs cl) {i b':Nat} {l':List Nat} (hi:i<n) (hf:b'≠bg∧b'≠bf∧b'≠bc) (hr:∀j:Nat,j≠i→bs[j]?≠some (some b')) {M':Aa} (h1:M' bg=M bg) (h2:M' bf=M bf)
  (h3:M' bc=some ⟨25,1,(Gr bs cl).set i (.osl b' 1 0 l'.length)⟩) (h4:M' b'=some ⟨3,1,Ao l'⟩) (h5:∀(j b:Nat),j≠i→bs[j]?=some (some b)→M' b=M b):C1 M' n bg bf bc es fl (bs.set i (some b')) (cl.set i l') where
 g:=by rw[h1];exact h.g
 f:=by rw[h2];exact h.f
 c:=by
  rw[h3]
  congr 2
  refine List.ext_getElem? fun k=>?_;unfold Gr;rw[List.getElem?_set,List.length_zipWith,List.getElem?_zipWith,List.getElem?_zipWith,List.getElem?_set,List.getElem?_set,h.bsl,h.cll];by_cases hk:i=k
  ·subst hk;simp[hi,Xi]
  ·simp[hk]
 fll:=h.fll
 bsl:=by rw[List.length_set,h.bsl]
 cll:=by rw[List.length_set,h.cll]
 row:=fun j b hb=>by
  rw[Nd (by rw[h.cll];exact hi)];unfold Ex;rw[List.getElem?_set]at hb;by_cases hj:i=j
  ·subst hj;rw[if_pos rfl,if_pos (by rw[h.bsl];exact hi)]at hb;cases hb;rw[if_pos rfl,h4]
  ·rw[if_neg hj]at hb;rw[if_neg (Ne.symm hj),h5 j b (Ne.symm hj) hb,h.row j b hb]
 nil:=fun j hb=>by
  rw[Nd (by rw[h.cll];exact hi)];unfold Ex;rw[List.getElem?_set]at hb;by_cases hj:i=j
  ·subst hj;rw[if_pos rfl,if_pos (by rw[h.bsl];exact hi)]at hb;cases hb
  ·rw[if_neg hj]at hb;rw[if_neg (Ne.symm hj)];exact h.nil j hb
 nd:=h.nd
 ndr:=fun j b hb=>by
  rw[List.getElem?_set]at hb;by_cases hj:i=j
  ·subst hj;rw[if_pos rfl,if_pos (by rw[h.bsl];exact hi)]at hb;cases hb;exact hf
  ·rw[if_neg hj]at hb;exact h.ndr j b hb
 inj:=fun j k b hj hk=>by
  rw[List.getElem?_set]at hj hk;by_cases e1:i=j<;>by_cases e2:i=k
  ·omega
  ·subst e1;rw[if_pos rfl,if_pos (by rw[h.bsl];exact hi)]at hj;rw[if_neg e2]at hk;cases hj;exact absurd hk (hr k (Ne.symm e2))
  ·subst e2;rw[if_pos rfl,if_pos (by rw[h.bsl];exact hi)]at hk;rw[if_neg e1]at hj;cases hk;exact absurd hj (hr j (Ne.symm e1))
  ·rw[if_neg e1]at hj;rw[if_neg e2]at hk;exact h.inj j k b hj hk
theorem C1.congr (h:C1 M n bg bf bc es fl bs cl) {M':Aa} (hm:∀k∈A3 bg bf bc bs,M' k=M k):C1 M' n bg bf bc es fl bs cl where
 g:=by rw[hm bg (A7.2 (.inl rfl))];exact h.g
 f:=by rw[hm bf (A7.2 (.inr (.inl rfl)))];exact h.f
 c:=by rw[hm bc (A7.2 (.inr (.inr (.inl rfl))))];exact h.c
 fll:=h.fll
 bsl:=h.bsl
 cll:=h.cll
 row:=fun i b hb=>by rw[hm b (A7.2 (.inr (.inr (.inr ⟨i,hb⟩))))];exact h.row i b hb
 nil:=h.nil
 nd:=h.nd
 ndr:=h.ndr
 inj:=h.inj
end
theorem Qam (bg:Nat) (es:List RE) (bf bc n:Nat):∀c y,Aa.emp.set bg (Ci es bf bc n) c=some y→∀v∈y.l,v.cells.all AV.one=true:=by
 intro c y hy v hv;simp only[A2,Az]at hy;split at hy
 ·cases hy;simp only[Ci,List.mem_singleton]at hv;subst hv;rfl
 ·cases hy
theorem Rg (bg bf bc n:Nat) (es:List RE) (e j:Nat) (he:e<es.length) (hes:Lh 12 es) (hj:j=(Ae es e).1∨j=(Ae es e).2) :
  Aj Tryz.prog 125 [.ptr bg 3 0 0,.int .i64 (e:Nat),.int .i64 (j:Nat)] (Aa.emp.set bg (Ci es bf bc n)) fun v m=>∃x',(v=.int .i64 (Fy (Ae es) e j:Nat)∧x'=Ci es bf bc n)∧m=Aa.emp.set bg x':=by
 obtain⟨e1,e2,e3⟩:=hes e he;have hlt:=e3.1;have hlt2:=e3.2.1;have ho:(Fy (Ae es) e j:Int)=((Ae es e).1:Int)+((Ae es e).2:Int)-(j:Int):=by unfold Fy;omega
 refine Ad Tryz.func125 rfl rfl 26 rfl (Nat.le_of_ble_eq_true rfl) ?_;(repeat refine AW.seq_k fun K hK=>?_);refine AW.rg ?_;simp[Ak];try (refine hK _ rfl ?_;clear hK K)
 unfold Ci;(repeat refine AW.seq_k fun K hK=>?_);refine AW.rdL [bg] [0,1,2,3,4,5,6,7,8,9,10,11,12,13,14,15,16,17,18,19] Dm (by simp) ?_;have w1:IntKind.i64.wrap ((Fm es e).a+(Fm es e).b)=(Fm es e).a+(Fm es e).b:=Nk (by omega);have w2:IntKind.i64.wrap ((Fm es e).a+(Fm es e).b-(j:Int))=(Fm es e).a+(Fm es e).b-(j:Int):=Nk (by omega);simp[he,Ca,w1,w2];try (refine hK _ rfl ?_;clear hK K)
 exact AW.ret (Bx rfl (Qam bg es bf bc n) ⟨Ci es bf bc n,⟨by rw[ho,←e1,←e2];rfl,rfl⟩,rfl⟩)
end Go.Av
end
section
namespace Go.Av
open Go.Proofs Go.Lam
theorem Qgf (n:Nat):Gr (List.replicate n none) (List.replicate n [])=List.replicate n .nil:=by
 simp[Gr,Xi,List.zipWith_replicate]
theorem Qo (n i:Nat):Cx (List.replicate n []) i=[]:=by
 unfold Cx;rw[List.getD_eq_getElem?_getD,List.getElem?_replicate];split<;>rfl
theorem Yg {M:Aa} {n bg bf bc:Nat} {es:List RE} (h1:M bg=some (Ci es bf bc n)) (h2:M bf=some ⟨3,1,Ao (List.replicate n 0)⟩) (h3:M bc=some ⟨25,1,List.replicate n .nil⟩) (hd:bg≠bf∧bg≠bc∧bf≠bc) :
  C1 M n bg bf bc es (List.replicate n 0) (List.replicate n none) (List.replicate n []) where
 g:=h1
 f:=h2
 c:=by rw[Qgf];exact h3
 fll:=List.length_replicate
 bsl:=List.length_replicate
 cll:=List.length_replicate
 row:=fun i b hb=>by rw[List.getElem?_replicate]at hb;split at hb<;>simp at hb
 nil:=fun i _=>Qo n i
 nd:=hd
 ndr:=fun i b hb=>by rw[List.getElem?_replicate]at hb;split at hb<;>simp at hb
 inj:=fun i j b hb _=>by rw[List.getElem?_replicate]at hb;split at hb<;>simp at hb
theorem E2.set {M:Aa} {l:List Nat} (h:E2 M l) {b:Nat} (x:Es) (hb:b∈l):E2 (M.set b x) l:=fun k hk=>by
 by_cases e:k=b
 ·rw[e];exact hb
 ·rw[Aa.set_other _ _ e]at hk;exact h k hk
theorem It (bs:List (Option Nat)) (cl:List (List Nat)):∀v∈Gr bs cl,v.cells.all AV.one=true:=by
 intro v hv;unfold Gr at hv;obtain⟨i,hi⟩:=List.getElem?_of_mem hv;rw[List.getElem?_zipWith]at hi;split at hi
 ·rename_i o l _ _
  cases hi;cases o<;>rfl
 ·cases hi
theorem Ha {M:Aa} {n bg bf bc:Nat} {es:List RE} {fl:List Nat} {bs:List (Option Nat)} {cl:List (List Nat)} (h:C1 M n bg bf bc es fl bs cl) (ho:E2 M (A3 bg bf bc bs)):∀c y,M c=some y→∀v∈y.l,v.cells.all AV.one=true:=by
 intro c y hy v hv;rcases A7.1 (ho c (by rw[hy];simp))with rfl | rfl | rfl | ⟨i,hi⟩
 ·rw[h.g]at hy;cases hy;simp only[Ci,List.mem_singleton]at hv;subst hv;rfl
 ·rw[h.f]at hy;cases hy;exact Ch _ v hv
 ·rw[h.c]at hy;cases hy;exact It _ _ v hv
 ·rw[h.row i c hi]at hy;cases hy;exact Ch _ v hv
theorem C1.dom {M:Aa} {n bg bf bc:Nat} {es:List RE} {fl:List Nat} {bs:List (Option Nat)} {cl:List (List Nat)} (h:C1 M n bg bf bc es fl bs cl) {k:Nat} (hk:k∈A3 bg bf bc bs):M k≠none:=by
 rcases A7.1 hk with rfl|rfl|rfl|⟨i,hi⟩
 ·rw[h.g];simp
 ·rw[h.f];simp
 ·rw[h.c];simp
 ·rw[h.row i k hi];simp
theorem Qmh {M:Aa} {bg bf bc:Nat} {bs:List (Option Nat)} (h:∀k,M k≠none→k=bg∨k=bf∨k=bc):E2 M (A3 bg bf bc bs):=fun k hk=>by
 rw[A7];rcases h k hk with h | h | h
 ·exact .inl h
 ·exact .inr (.inl h)
 ·exact .inr (.inr (.inl h))
theorem Z7 (n:Nat) (es:List RE) (hn:n≤12):Aj Tryz.prog 81 [.int .i64 (n:Nat),A4 es] Aa.emp fun v m=>∃bg bf bc,v=.ptr bg 3 0 0∧C1 m n bg bf bc es (List.replicate n 2) (List.replicate n none) (List.replicate n [])∧E2 m (A3 bg bf bc (List.replicate n none)):=by
 refine Ad Tryz.func81 rfl rfl 26 rfl (Nat.le_of_ble_eq_true rfl) ?_;unfold A4;(repeat refine AW.seq_k fun K hK=>?_);refine AW.rg ?_;simp[Ak];try (refine hK _ rfl ?_;clear hK K)
 refine AW.seq_ex (ι:=Aa × Nat × Nat × Nat) (fun z=>[(0,.int .i64 (n:Nat)),(5,.ptr z.2.1 3 0 0)]) (fun z=>z.1) (fun z=>C1 z.1 n z.2.1 z.2.2.1 z.2.2.2 es (List.replicate n 0) (List.replicate n none) (List.replicate n [])∧E2 z.1 (A3 z.2.1 z.2.2.1 z.2.2.2 (List.replicate n none))) ?_ ?_
 ·refine AW.rd2 2 4 [0,1,3,2,4,5,6,7] [0,1,3,4,2,5,6,7] Dm ?_ ?_
  ·simp;refine⟨by omega,Ai.intro fun bf h1=>⟨by omega,Ai.intro fun bc h2=>Ai.intro fun bg h3=>?_⟩⟩;simp only[Ap,Az,and_true]at h2 h3;exact⟨bf,bc,Yg (by simp[Ci]) (by simp[A2,h2,h3,Ao]) (by simp[A2,h2,h3]) ⟨h3.2.1,h3.1.1,h2.2⟩,Qmh (fun k hk=>by
    simp only[A2,Az]at hk;split at hk
    ·exact .inl (by assumption)
    ·split at hk
     ·exact .inr (.inr (by assumption))
     ·split at hk
      ·exact .inr (.inl (by assumption))
      ·exact absurd rfl hk)⟩
  ·simp;refine⟨by omega,Ai.intro fun bc h1=>⟨by omega,Ai.intro fun bf h2=>Ai.intro fun bg h3=>?_⟩⟩;simp only[Ap,Az,and_true]at h2 h3;exact⟨bf,bc,Yg (by simp[Ci]) (by simp[A2,h2,h3,Ao]) (by simp[A2,h2,h3]) ⟨h3.1.1,h3.2.1,h2.1⟩,Qmh (fun k hk=>by
    simp only[A2,Az]at hk;split at hk
    ·exact .inl (by assumption)
    ·split at hk
     ·exact .inr (.inl (by assumption))
     ·split at hk
      ·exact .inr (.inr (by assumption))
      ·exact absurd rfl hk)⟩
 rintro⟨M,bg,bf,bc⟩ ⟨hg,ho⟩;simp only at hg ho ⊢;refine AW.seq_ex (ι:=Aa) (fun _=>[(5,.ptr bg 3 0 0)]) (fun M=>M) (fun M=>C1 M n bg bf bc es (List.replicate n 2) (List.replicate n none) (List.replicate n [])∧E2 M (A3 bg bf bc (List.replicate n none))) ?_ ?_
 ·(repeat refine AW.seq_k fun K hK=>?_);refine AW.rg ?_;simp;try (refine hK _ rfl ?_;clear hK K)
  refine AW.block (AW.loopS (ι:=Aa × Nat) (fun z=>[(5,.ptr bg 3 0 0),(14,.int .i64 (n:Nat)),(15,.int .i64 (z.2:Nat))]) (fun z=>z.1)
   (fun z=>z.2≤n∧C1 z.1 n bg bf bc es (List.replicate z.2 2++List.replicate (n-z.2) 0) (List.replicate n none) (List.replicate n [])∧E2 z.1 (A3 bg bf bc (List.replicate n none))) (fun z=>n-z.2) (M,0) ⟨by simp,by simpa using hg,ho⟩ rfl (by simp) ?_)
  rintro⟨M,i⟩ ⟨g1,g2,g3⟩;simp only at g1 g2 g3;(repeat refine AW.seq_k fun K hK=>?_);refine AW.rg ?_;simp;try (refine hK _ rfl ?_;clear hK K)
  (repeat refine AW.seq ?_);refine AW.cs (fun hi=>?_) (fun hi=>?_) rfl<;>(try simp at hi)
  ·refine AW.skip ?_;try simp
   try (refine hK _ rfl ?_;clear hK K)
   have w1:=Aq (i+1) (by omega);have m1:=g2.g;have m2:=g2.f;have hfl:=g2.fll;have g4:=g2.setF i 2;rw[List.set_append_right _ _ (by simp),List.length_replicate,Nat.sub_self,show n-i=(n-(i+1))+1 by omega,List.replicate_succ,List.set_cons_zero]at g4;unfold Ci at m1;(repeat refine AW.seq ?_);refine AW.block ?_;(repeat refine AW.seq_k fun K hK=>?_);refine AW.rg ?_;simp;try (refine hK _ rfl ?_;clear hK K)
   (repeat refine AW.seq_k fun K hK=>?_);refine AW.rg ?_;simp[m1,m2,hi,hfl];try (refine hK _ rfl ?_;clear hK K)
   (repeat refine AW.seq_k fun K hK=>?_);refine AW.rg ?_;simp[-Int.natCast_add,w1];try (refine hK _ rfl ?_;clear hK K)
   have e:List.replicate i 2++2::List.replicate (n-(i+1)) 0=List.replicate (i+1) 2++List.replicate (n-(i+1)) 0:=by rw[List.replicate_succ',List.append_assoc];rfl
   rw[e]at g4;refine⟨_,i+1,⟨by omega,g4,g3.set _ (A7.2 (.inr (.inl rfl)))⟩,by omega,?_,rfl⟩;rw[←e]
   congr 2
   show(Ao (List.replicate i 2++List.replicate (n-i) 0)).set i (.int .i64 ((2:Nat):Int))=_
   rw[Ii,List.set_append_right _ _ (by simp),List.length_replicate,Nat.sub_self,show n-i=(n-(i+1))+1 by omega,List.replicate_succ,List.set_cons_zero]
  ·refine AW.exit ?_;try simp
   rw[show i=n by omega,Nat.sub_self,List.replicate_zero,List.append_nil]at g2;exact⟨g2,g3⟩
 rintro M ⟨hg,ho⟩;(repeat refine AW.seq_k fun K hK=>?_);refine AW.rg ?_;simp;try (refine hK _ rfl ?_;clear hK K)
 exact AW.ret (Bx rfl (Ha hg ho) ⟨bg,bf,bc,rfl,hg,ho⟩)
end Go.Av
end
section
namespace Go.Av
open Go.Proofs Go.Lam
def bools (l:List Bool):List AV:=l.map .bool
@[simp] theorem Qkf (l:List Bool):(bools l).length=l.length:=by simp[bools]
@[simp] theorem Qtk {l:List Bool} {i:Nat} (h:i<(bools l).length):(bools l)[i]=.bool (l[i]'(by simpa using h)):=by simp[bools]
theorem Fl (l:List Bool) (i:Nat) (x:Bool):(bools l).set i (.bool x)=bools (l.set i x):=by unfold bools;rw[List.map_set]
theorem K6 (l:List Bool):∀v∈bools l,v.cells.all AV.one=true:=by
 intro v hv;obtain⟨x,_,rfl⟩:=List.mem_map.1 hv;rfl
def Fb (sn:List Bool):Nat→Bool:=fun v=>sn.getD v false
theorem Jf {sn:List Bool} {i:Nat} {x:Bool} (hi:i<sn.length):Fb (sn.set i x)=Ex (Fb sn) i x:=by
 funext v
 unfold Fb Ex;rw[List.getD_eq_getElem?_getD,List.getElem?_set];by_cases h:i=v
 ·subst h;simp[hi]
 ·rw[if_neg h,if_neg (Ne.symm h),←List.getD_eq_getElem?_getD]
theorem Qs {sn:List Bool} {i:Nat} (hi:i<sn.length):Fb sn i=sn[i]:=by unfold Fb;rw[List.getD_eq_getElem?_getD,List.getElem?_eq_getElem hi];rfl
theorem E9 {fl:List Nat} {i:Nat} (hi:i<fl.length):fl[i]=D3 fl i:=by unfold D3;rw[List.getD_eq_getElem?_getD,List.getElem?_eq_getElem hi];rfl
def Fq (sn:List Bool):Nat:=sn.countP fun b=>!b
theorem Se {sn:List Bool} {i:Nat} (hi:i<sn.length) (h:sn[i]=false):Fq (sn.set i true)+1=Fq sn:=by
 unfold Fq;rw[List.countP_set hi];have hp:0<sn.countP fun b=>!b:=List.countP_pos_iff.2 ⟨sn[i],List.getElem_mem hi,by rw[h];rfl⟩;simp[h];omega
def Qp5 (bg bx c3 n:Nat):AV:=.fn 195 [.rptr [.ptr bg 3 0 0],.rptr [.osl bx 1 0 n],.ptr c3 1 0 0]
structure H7 (M:Aa) (n bg bf bc bx c3:Nat) (es:List RE) (fl:List Nat) (bs:List (Option Nat)) (cl:List (List Nat)) (sn:List Bool):Prop where
 game:C1 M n bg bf bc es fl bs cl
 seen:M bx=some ⟨4,1,bools sn⟩
 snl:sn.length=n
 cell:M c3=some ⟨100,1,[Qp5 bg bx c3 n]⟩
 off:∀k∈A3 bg bf bc bs,k≠bx∧k≠c3
 xc:bx≠c3
 only:E2 M (bx::c3::A3 bg bf bc bs)
section
variable {M:Aa} {n bg bf bc bx c3:Nat} {es:List RE} {fl:List Nat} {bs:List (Option Nat)} {cl:List (List Nat)} {sn:List Bool}
theorem H7.look (h:H7 M n bg bf bc bx c3 es fl bs cl sn) (i:Nat):H7 (M.set bx ⟨4,1,bools (sn.set i true)⟩) n bg bf bc bx c3 es fl bs cl (sn.set i true) where
 game:=h.game.congr fun k hk=>Aa.set_other _ _ (h.off k hk).1
 seen:=Aa.set_same _ _ _
 snl:=by rw[List.length_set,h.snl]
 cell:=by rw[Aa.set_other _ _ (Ne.symm h.xc)];exact h.cell
 off:=h.off
 xc:=h.xc
 only:=h.only.set _ (by simp)
theorem H7.setF (h:H7 M n bg bf bc bx c3 es fl bs cl sn) (i x:Nat):H7 (M.set bf ⟨3,1,Ao (fl.set i x)⟩) n bg bf bc bx c3 es (fl.set i x) bs cl sn where
 game:=h.game.setF i x
 seen:=by rw[Aa.set_other _ _ (Ne.symm (h.off bf (A7.2 (.inr (.inl rfl)))).1)];exact h.seen
 snl:=h.snl
 cell:=by rw[Aa.set_other _ _ (Ne.symm (h.off bf (A7.2 (.inr (.inl rfl)))).2)];exact h.cell
 off:=h.off
 xc:=h.xc
 only:=h.only.set _ (by simp[A3])
theorem Qfe {i b' k:Nat} (hi:i<bs.length) (hk:k∈A3 bg bf bc (bs.set i (some b'))):k=b'∨k∈A3 bg bf bc bs:=by
 rcases A7.1 hk with h|h|h|⟨j,hj⟩
 ·exact .inr (A7.2 (.inl h))
 ·exact .inr (A7.2 (.inr (.inl h)))
 ·exact .inr (A7.2 (.inr (.inr (.inl h))))
 ·rw[List.getElem?_set]at hj;by_cases e:i=j
  ·rw[if_pos e,if_pos hi]at hj;cases hj;exact .inl rfl
  ·rw[if_neg e]at hj;exact .inr (A7.2 (.inr (.inr (.inr ⟨j,hj⟩))))
theorem H7.dom (h:H7 M n bg bf bc bx c3 es fl bs cl sn) {k:Nat} (hk:k∈bx::c3::A3 bg bf bc bs):M k≠none:=by
 simp only[List.mem_cons]at hk;rcases hk with rfl | rfl | hk
 ·rw[h.seen];simp
 ·rw[h.cell];simp
 ·rcases A7.1 hk with rfl|rfl|rfl|⟨i,hi⟩
  ·rw[h.game.g];simp
  ·rw[h.game.f];simp
  ·rw[h.game.c];simp
  ·rw[h.game.row i k hi];simp
theorem H7.ones (h:H7 M n bg bf bc bx c3 es fl bs cl sn):∀c y,M c=some y→∀v∈y.l,v.cells.all AV.one=true:=by
 intro c y hy v hv;have hc:=h.only c (by rw[hy];simp);simp only[List.mem_cons]at hc;rcases hc with rfl | rfl | hc
 ·rw[h.seen]at hy;cases hy;exact K6 _ v hv
 ·rw[h.cell]at hy;cases hy;simp only[List.mem_singleton]at hv;subst hv;rfl
 ·rcases A7.1 hc with rfl|rfl|rfl|⟨i,hi⟩
  ·rw[h.game.g]at hy;cases hy;simp only[Ci,List.mem_singleton]at hv;subst hv;rfl
  ·rw[h.game.f]at hy;cases hy;exact Ch _ v hv
  ·rw[h.game.c]at hy;cases hy;exact It _ _ v hv
  ·rw[h.game.row i c hi]at hy;cases hy;exact Ch _ v hv
theorem H7.setC (h:H7 M n bg bf bc bx c3 es fl bs cl sn) {i b':Nat} {l':List Nat} (hi:i<n) (hf:b' ∉ bx::c3::A3 bg bf bc bs∨bs[i]?=some (some b')) {M':Aa}
  (h3:M' bc=some ⟨25,1,(Gr bs cl).set i (.osl b' 1 0 l'.length)⟩) (h4:M' b'=some ⟨3,1,Ao l'⟩) (h5:∀k∈bx::c3::A3 bg bf bc bs,k≠b'→k≠bc→bs[i]?≠some (some k)→M' k=M k)
  (h6:∀k,M' k≠none→k=b'∨k∈bx::c3::A3 bg bf bc bs∧(bs[i]?=some (some k)→k=b')):H7 M' n bg bf bc bx c3 es fl (bs.set i (some b')) (cl.set i l') sn:=by
 have hib:i<bs.length:=by rw[h.game.bsl];exact hi
 have hb':b'≠bg∧b'≠bf∧b'≠bc∧b'≠bx∧b'≠c3:=by
  rcases hf with hf|hf
  ·simp only[A3,List.mem_cons,not_or]at hf;exact⟨hf.2.2.1,hf.2.2.2.1,hf.2.2.2.2.1,hf.1,hf.2.1⟩
  ·have h1:=h.game.ndr i b' hf;have h2:=h.off b' (A7.2 (.inr (.inr (.inr ⟨i,hf⟩))));exact⟨h1.1,h1.2.1,h1.2.2,h2.1,h2.2⟩
 have hn1:bs[i]?≠some (some bg):=fun e=>(h.game.ndr i bg e).1 rfl;have hn2:bs[i]?≠some (some bf):=fun e=>(h.game.ndr i bf e).2.1 rfl;have hn3:bs[i]?≠some (some bx):=fun e=>(h.off bx (A7.2 (.inr (.inr (.inr ⟨i,e⟩))))).1 rfl;have hn4:bs[i]?≠some (some c3):=fun e=>(h.off c3 (A7.2 (.inr (.inr (.inr ⟨i,e⟩))))).2 rfl;have hbc:=h.off bc (A7.2 (.inr (.inr (.inl rfl))));have hrow:∀j,j≠i→bs[j]?≠some (some b'):=fun j hj e=>by
  rcases hf with hf|hf
  ·exact hf (by simp only[List.mem_cons];exact .inr (.inr (A7.2 (.inr (.inr (.inr ⟨j,e⟩))))))
  ·exact hj (h.game.inj j i b' e hf)
 refine⟨h.game.setC hi ⟨hb'.1,hb'.2.1,hb'.2.2.1⟩ hrow ?_ ?_ h3 h4 ?_,?_,h.snl,?_,?_,h.xc,?_⟩
 ·exact h5 bg (by simp[A3]) (Ne.symm hb'.1) h.game.nd.2.1 hn1
 ·exact h5 bf (by simp[A3]) (Ne.symm hb'.2.1) h.game.nd.2.2 hn2
 ·intro j b hj hb;have hm:b∈A3 bg bf bc bs:=A7.2 (.inr (.inr (.inr ⟨j,hb⟩)));exact h5 b (by simp only[List.mem_cons];exact .inr (.inr hm)) (fun e=>hrow j hj (e ▸ hb)) (h.game.ndr j b hb).2.2 (fun e=>hj (h.game.inj j i b hb e))
 ·rw[h5 bx (by simp) (Ne.symm hb'.2.2.2.1) (Ne.symm hbc.1) hn3];exact h.seen
 ·rw[h5 c3 (by simp) (Ne.symm hb'.2.2.2.2) (Ne.symm hbc.2) hn4];exact h.cell
 ·intro k hk;rcases Qfe hib hk with rfl | hk
  ·exact⟨hb'.2.2.2.1,hb'.2.2.2.2⟩
  ·exact h.off k hk
 ·intro k hk;simp only[List.mem_cons];rcases h6 k hk with rfl | ⟨hk,hk2⟩
  ·exact .inr (.inr (A7.2 (.inr (.inr (.inr ⟨i,by rw[List.getElem?_set,if_pos rfl,if_pos hib]⟩)))))
  ·simp only[List.mem_cons]at hk;rcases hk with hk | hk | hk
   ·exact .inl hk
   ·exact .inr (.inl hk)
   ·refine .inr (.inr (A7.2 ?_));rcases A7.1 hk with hk | hk | hk | ⟨j,hj⟩
    ·exact .inl hk
    ·exact .inr (.inl hk)
    ·exact .inr (.inr (.inl hk))
    ·by_cases hij:i=j
     ·subst hij;rw[hk2 hj];exact .inr (.inr (.inr ⟨i,by rw[List.getElem?_set,if_pos rfl,if_pos hib]⟩))
     ·exact .inr (.inr (.inr ⟨j,by rw[List.getElem?_set,if_neg hij];exact hj⟩))
end
end Go.Av
end
