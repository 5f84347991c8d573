/- A part of the proof. -/
import Derived.Test.YthflocfaafoohaaGreatP2
set_option linter.all false
set_option exponentiation.threshold 5000
set_option maxRecDepth 10000
section
namespace Go.Av
open Go.Proofs
instance:Inhabited RR:=⟨⟨false,[],false,[]⟩⟩
def rr (r:List RR) (i:Nat):RR:=r.getD i default
def Am {α:Type} (m:List (List α)) (i:Nat):List α:=m.getD i []
def Cm (r:List RR):List AV:=r.map RR.av
def A7 (r:List RR):AV:=.sl 4 (Cm r)
def Ba (m:List (List RR)):AV:=.sl 1 (m.map A7)
theorem La {r:List RR} {i:Nat} (h:i<r.length):rr r i=r[i]:=by unfold rr;rw[List.getD_eq_getElem?_getD,List.getElem?_eq_getElem h];rfl
theorem F5 {α:Type} {m:List (List α)} {i:Nat} (h:i<m.length):Am m i=m[i]:=by unfold Am;rw[List.getD_eq_getElem?_getD,List.getElem?_eq_getElem h];rfl
@[simp] theorem Qab (r:List RR):(Cm r).length=r.length:=by simp[Cm]
@[simp] theorem Qv6:Cm []=[]:=rfl
@[simp] theorem rrs_get? {r:List RR} {i:Nat} (h:i<r.length):(Cm r)[i]?=some (rr r i).av:=by simp[Cm,La h,h]
@[simp] theorem K5 (r:List RR) (i:Nat) (x:RR):(Cm r).set i x.av=Cm (r.set i x):=by simp[Cm,List.map_set]
@[simp] theorem Qsm (r:RR):r.av.cells=[.bool r.n1,An r.l1,.bool r.n2,An r.l2]:=(rfl)
@[simp] theorem Qvv (r:RR):Fx true 4 [.bool r.n1,An r.l1,.bool r.n2,An r.l2] 0=some r.av:=(rfl)
@[simp] theorem Qs8 (r:RR):r.av.isAny=false:=(rfl)
@[simp] theorem Qv5 (r:RR):(r.av=.any)=False:=by simp[RR.av]
theorem Ob (r:List RR):∀v∈Cm r,v.cells.all AV.one=true:=by
 intro v hv;obtain⟨x,_,rfl⟩:=List.mem_map.1 hv;rfl
@[simp] theorem Qv8 (r:List RR):(Cm r).all (fun v=>v.cells.length==4&&v.cells.all AV.one)=true:=by
 rw[List.all_eq_true];intro v hv;obtain⟨x,_,rfl⟩:=List.mem_map.1 hv;rfl
@[simp] theorem Qse (r:List RR):(A7 r).cells=[A7 r]:=(rfl)
@[simp] theorem Qv0 (r:List RR):(A7 r).one=true:=(rfl)
@[simp] theorem Qra (r:List RR):(A7 r).isAny=false:=(rfl)
@[simp] theorem Qtd (m:List (List RR)):(Ba m).isAny=false:=(rfl)
@[simp] theorem Qwb (m:List (List RR)):(Ba m).one=true:=(rfl)
@[simp] theorem Qsh (m:List (List RR)):(Ba m).cells=[Ba m]:=(rfl)
section
variable (size bytes:Nat) (e:TypeId) (zero:AV) (fs:List (Nat × Nat × Option Bool)) (k:IntKind) (n:Int)
@[simp] theorem Qtp (r:List RR):Jh ⟨size,bytes,.slice e,zero,fs⟩ (A7 r)=some (.int .i64 r.length):=by simp[A7]
@[simp] theorem Qtb (m:List (List RR)):Jh ⟨size,bytes,.slice e,zero,fs⟩ (Ba m)=some (.int .i64 m.length):=by simp[Ba]
@[simp] theorem Qq0 (mm:Aa) (r:List RR):Fq mm 4 (A7 r)=some (Cm r):=by simp[A7,Fq]
@[simp] theorem Qim (P:Program) (r:List RR):Bs P ⟨size,bytes,.slice e,zero,fs⟩ (A7 r) (.int k n)=(Ai P e).bind fun te=>if 4=te.size∧0≤n∧n<r.length then some (.rptr [.bool (rr r n.toNat).n1,An (rr r n.toNat).l1,.bool (rr r n.toNat).n2,An (rr r n.toNat).l2]) else none:=by
 unfold A7;rw[Gt]
 congr 1
 funext te
 rw[Qab];by_cases h:4=te.size∧0≤n∧n<r.length
 ·rw[if_pos h,if_pos h];have h1:n.toNat<r.length:=by omega
  rw[List.getD_eq_getElem?_getD,rrs_get? h1];rfl
 ·rw[if_neg h,if_neg h]
@[simp] theorem Qir (P:Program) (m:List (List RR)):Bs P ⟨size,bytes,.slice e,zero,fs⟩ (Ba m) (.int k n)=(Ai P e).bind fun te=>if 1=te.size∧0≤n∧n<m.length then some (.rptr [A7 (Am m n.toNat)]) else none:=by
 unfold Ba;rw[Gt]
 congr 1
 funext te
 rw[List.length_map];by_cases h:1=te.size∧0≤n∧n<m.length
 ·rw[if_pos h,if_pos h];have h1:n.toNat<m.length:=by omega
  rw[List.getD_eq_getElem?_getD,List.getElem?_map,List.getElem?_eq_getElem h1,F5 h1];rfl
 ·rw[if_neg h,if_neg h]
end
def Zc (m:List (List RR)):Prop:=∀r∈m,∀x∈r,x.Lb
theorem Ll {r:List RR} (h:∀x∈r,x.Lb) (i:Nat):(rr r i).Lb:=by
 unfold rr;rw[List.getD_eq_getElem?_getD];cases hr:r[i]? with
 |none=>exact⟨fun x hx=>(by cases hx),fun x hx=>(by cases hx)⟩
 |some x=>exact h x (List.mem_of_getElem? hr)
theorem Zc.row {m:List (List RR)} (h:Zc m) (i:Nat):∀x∈Am m i,x.Lb:=by
 unfold Am;rw[List.getD_eq_getElem?_getD];cases hr:m[i]? with
 |none=>intro x hx;cases hx
 |some r=>exact h r (List.mem_of_getElem? hr)
def Jz (m:List (List RR)):Prop:=∃k,k<m.length∧64<(Am m k).length
def Oe (m:List (List RR)):Prop:=∀k,k<m.length→(Am m k).length=(Am m 0).length∧∀j,j<(Am m k).length→(rr (Am m k) j).ok=true
open Classical in
noncomputable def Zm (m:List (List RR)):Int:=if 64<m.length∨Jz m then 2 else if Oe m then 0 else 1
theorem Vp {m:List (List RR)} (h:64<m.length∨Jz m):Zm m=2:=if_pos h
theorem Qft {m:List (List RR)} (h:¬(64<m.length∨Jz m)) (h2:Oe m):Zm m=0:=by unfold Zm;rw[if_neg h,if_pos h2]
theorem Vv {m:List (List RR)} (h:¬(64<m.length∨Jz m)) (h2:¬Oe m):Zm m=1:=by unfold Zm;rw[if_neg h,if_neg h2]
theorem Sk (m:List (List RR)):Aj Tryz.prog 108 [Ba m] Aa.emp fun v mm=>v=.int .i64 ((Am m 0).length:Nat)∧mm=Aa.emp:=by
 refine Ae Tryz.func108 rfl rfl 10 rfl (Nat.le_of_ble_eq_true rfl) ?_;(repeat refine AW.seq_k fun K hK=>?_);refine AW.rg ?_;simp[Ak];try (refine hK _ rfl ?_;clear hK K)
 (repeat refine AW.seq_k fun K hK=>?_);refine AW.rg ?_;simp;try (refine hK _ rfl ?_;clear hK K)
 (repeat refine AW.seq ?_);refine AW.cs (fun h=>?_) (fun h=>?_) rfl<;>(try simp at h)
 ·subst h;(repeat refine AW.seq_k fun K hK=>?_);refine AW.rg ?_;simp;try (refine hK _ rfl ?_;clear hK K)
  exact AW.ret (Af rfl _ (.same _) ⟨by simp[Am],rfl⟩)
 ·refine AW.skip ?_;try simp
  refine hK _ rfl ?_;clear hK K;have h':0<m.length:=by
   rcases m with _|_
   ·simp at h
   ·simp
  (repeat refine AW.seq_k fun K hK=>?_);refine AW.rg ?_;simp[h'];try (refine hK _ rfl ?_;clear hK K)
  exact AW.ret (Af rfl _ (.same _) ⟨by rfl,rfl⟩)
theorem Qap (m:List (List RR)) (hm:Zc m):Aj Tryz.prog 99 [Ba m] Aa.emp fun v mm=>v=.int .i64 (Zm m)∧mm=Aa.emp:=by
 refine Ae Tryz.func99 rfl rfl 46 rfl (Nat.le_of_ble_eq_true rfl) ?_;(repeat refine AW.seq_k fun K hK=>?_);refine AW.rg ?_;simp[Ak];try (refine hK _ rfl ?_;clear hK K)
 (repeat refine AW.seq_k fun K hK=>?_);refine AW.rg ?_;simp;try (refine hK _ rfl ?_;clear hK K)
 (repeat refine AW.seq ?_);refine AW.cs (fun h64=>?_) (fun h64=>?_) rfl<;>(try simp at h64)
 ·(repeat refine AW.seq_k fun K hK=>?_);refine AW.rg ?_;simp;try (refine hK _ rfl ?_;clear hK K)
  exact AW.ret (Af rfl _ (.same _) ⟨by rw[Vp (.inl h64)];rfl,rfl⟩)
 ·refine AW.skip ?_;try simp
  refine hK _ rfl ?_;clear hK K;refine AW.seq_ex (ι:=Unit) (fun _=>[(0,Ba m)]) (fun _=>Aa.emp) (fun _=>¬Jz m) ?_ ?_
  ·(repeat refine AW.seq_k fun K hK=>?_);refine AW.rg ?_;simp;try (refine hK _ rfl ?_;clear hK K)
   refine AW.block (AW.loopS (ι:=Nat) (fun i=>[(0,Ba m),(12,Ba m),(13,.int .i64 (m.length:Nat)),(14,.int .i64 (i:Nat))]) (fun _=>Aa.emp)
    (fun i=>i≤m.length∧∀k,k<i→¬64<(Am m k).length) (fun i=>m.length-i) 0 ⟨by simp,by simp⟩ rfl (by simp) ?_)
   rintro i ⟨h1,h2⟩;(repeat refine AW.seq_k fun K hK=>?_);refine AW.rg ?_;simp;try (refine hK _ rfl ?_;clear hK K)
   refine AW.seq_k fun K hK=>?_;(repeat refine AW.seq ?_);refine AW.cs (fun hi=>?_) (fun hi=>?_) rfl<;>(try simp at hi)
   ·refine AW.skip ?_;try simp
    refine hK _ rfl ?_;clear hK K;have w1:=Aq (i+1) (by omega);refine AW.seq_ex (ι:=Unit) (fun _=>[(0,Ba m),(12,Ba m),(13,.int .i64 (m.length:Nat)),(14,.int .i64 (i:Nat))]) (fun _=>Aa.emp) (fun _=>¬64<(Am m i).length) ?_ ?_
    ·(repeat refine AW.seq ?_);refine AW.block ?_;(repeat refine AW.seq_k fun K hK=>?_);refine AW.rg ?_;simp[hi];try (refine hK _ rfl ?_;clear hK K)
     (repeat refine AW.seq_k fun K hK=>?_);refine AW.rg ?_;simp;try (refine hK _ rfl ?_;clear hK K)
     (repeat refine AW.seq ?_);refine AW.cs (fun h3=>?_) (fun h3=>?_) rfl<;>(try simp at h3)
     ·(repeat refine AW.seq_k fun K hK=>?_);refine AW.rg ?_;simp;try (refine hK _ rfl ?_;clear hK K)
      exact AW.ret (Af rfl _ (.same _) ⟨by rw[Vp (.inr ⟨i,hi,h3⟩)];rfl,rfl⟩)
     ·refine AW.skip ?_;try simp
      omega
    ·rintro _ h3;(repeat refine AW.seq_k fun K hK=>?_);refine AW.rg ?_;simp[-Int.natCast_add,w1];try (refine hK _ rfl ?_;clear hK K)
     refine⟨⟨by omega,fun k hk=>?_⟩,by omega⟩;rcases Nat.lt_succ_iff_lt_or_eq.1 hk with h | rfl
     ·have:=h2 k h;omega
     ·omega
   ·refine AW.exit ?_;try simp
    rintro⟨k,hk,h⟩;exact h2 k (by omega) h
  rintro _ hbig;have hnb:¬(64<m.length∨Jz m):=fun h=>h.elim (by omega) hbig;refine AW.seq_ex (ι:=Unit) (fun _=>[]) (fun _=>Aa.emp) (fun _=>Oe m) ?_ ?_
  ·(repeat refine AW.seq_k fun K hK=>?_);refine AW.rg ?_;simp;try (refine hK _ rfl ?_;clear hK K)
   refine AW.block (AW.loopS (ι:=Nat) (fun i=>[(0,Ba m),(22,Ba m),(23,.int .i64 (m.length:Nat)),(24,.int .i64 (i:Nat))]) (fun _=>Aa.emp)
    (fun i=>i≤m.length∧∀k,k<i→(Am m k).length=(Am m 0).length∧∀j,j<(Am m k).length→(rr (Am m k) j).ok=true) (fun i=>m.length-i) 0 ⟨by simp,by simp⟩ rfl (by simp) ?_)
   rintro i ⟨h1,h2⟩;(repeat refine AW.seq_k fun K hK=>?_);refine AW.rg ?_;simp;try (refine hK _ rfl ?_;clear hK K)
   refine AW.seq_k fun K hK=>?_;(repeat refine AW.seq ?_);refine AW.cs (fun hi=>?_) (fun hi=>?_) rfl<;>(try simp at hi)
   ·refine AW.skip ?_;try simp
    refine hK _ rfl ?_;clear hK K;have w1:=Aq (i+1) (by omega);have h0:0<m.length:=by omega
    have hrow:(Am m i).length≤64:=by
     rcases Nat.lt_or_ge 64 (Am m i).length with h|h
     ·exact absurd ⟨i,hi,h⟩ hbig
     ·exact h
    refine AW.seq_ex (ι:=Unit) (fun _=>[(0,Ba m),(22,Ba m),(23,.int .i64 (m.length:Nat)),(24,.int .i64 (i:Nat))]) (fun _=>Aa.emp) (fun _=>(Am m i).length=(Am m 0).length∧∀j,j<(Am m i).length→(rr (Am m i) j).ok=true) ?_ ?_
    ·(repeat refine AW.seq ?_);refine AW.block ?_;(repeat refine AW.seq_k fun K hK=>?_);refine AW.rg ?_;simp[hi];try (refine hK _ rfl ?_;clear hK K)
     refine AW.seq_ex (ι:=Unit) (fun _=>[(0,Ba m),(22,Ba m),(23,.int .i64 (m.length:Nat)),(24,.int .i64 (i:Nat)),(6,A7 (Am m i))]) (fun _=>Aa.emp) (fun _=>(Am m i).length=(Am m 0).length) ?_ ?_
     ·(repeat refine AW.seq_k fun K hK=>?_);refine AW.rg ?_;simp[h0];try (refine hK _ rfl ?_;clear hK K)
      (repeat refine AW.seq ?_);refine AW.cs (fun h4=>?_) (fun h4=>?_) rfl<;>(try simp at h4)
      ·(repeat refine AW.seq_k fun K hK=>?_);refine AW.rg ?_;simp;try (refine hK _ rfl ?_;clear hK K)
       exact AW.ret (Af rfl _ (.same _) ⟨by rw[Vv hnb (fun h=>h4 (h i hi).1)];rfl,rfl⟩)
      ·refine AW.skip ?_;try simp
       exact h4
     rintro _ h4;(repeat refine AW.seq_k fun K hK=>?_);refine AW.rg ?_;simp;try (refine hK _ rfl ?_;clear hK K)
     refine AW.block (AW.loopS (ι:=Nat) (fun j=>[(0,Ba m),(22,Ba m),(23,.int .i64 (m.length:Nat)),(24,.int .i64 (i:Nat)),(6,A7 (Am m i)),(35,A7 (Am m i)),(36,.int .i64 ((Am m i).length:Nat)),(37,.int .i64 (j:Nat))]) (fun _=>Aa.emp)
      (fun j=>j≤(Am m i).length∧∀k,k<j→(rr (Am m i) k).ok=true) (fun j=>(Am m i).length-j) 0 ⟨by simp,by simp⟩ rfl (by simp) ?_)
     rintro j ⟨g1,g2⟩;(repeat refine AW.seq_k fun K hK=>?_);refine AW.rg ?_;simp;try (refine hK _ rfl ?_;clear hK K)
     refine AW.seq_k fun K hK=>?_;(repeat refine AW.seq ?_);refine AW.cs (fun hj=>?_) (fun hj=>?_) rfl<;>(try simp at hj)
     ·refine AW.skip ?_;try simp
      refine hK _ rfl ?_;clear hK K;have w2:=Aq (j+1) (by omega);have hv:=Fc (rr (Am m i) j) (Ll (hm.row i) j);refine AW.seq_ex (ι:=Unit) (fun _=>[(0,Ba m),(22,Ba m),(23,.int .i64 (m.length:Nat)),(24,.int .i64 (i:Nat)),(6,A7 (Am m i)),(35,A7 (Am m i)),(36,.int .i64 ((Am m i).length:Nat)),(37,.int .i64 (j:Nat))]) (fun _=>Aa.emp) (fun _=>(rr (Am m i) j).ok=true) ?_ ?_
      ·(repeat refine AW.seq ?_);refine AW.block ?_;(repeat refine AW.seq_k fun K hK=>?_);refine AW.rg ?_;simp[hj];try (refine hK _ rfl ?_;clear hK K)
       refine Ah.intro fun b8 _=>?_;try simp
       refine hK _ rfl ?_;clear hK K;(repeat refine AW.seq_k fun K hK=>?_);refine AW.rg ?_;simp;try (refine hK _ rfl ?_;clear hK K)
       refine Ac.val hv ?_;simp;refine hK _ rfl ?_;clear hK K;refine AW.toEmp [(0,Ba m),(22,Ba m),(23,.int .i64 (m.length:Nat)),(24,.int .i64 (i:Nat)),(6,A7 (Am m i)),(35,A7 (Am m i)),(36,.int .i64 ((Am m i).length:Nat)),(37,.int .i64 (j:Nat)),(43,.bool (!(rr (Am m i) j).ok))] (by simp) ?_;by_cases h5:(rr (Am m i) j).ok=true
       ·refine AW.no ?_ (by simp[h5]);exact AW.skip ⟨(),h5,rfl,rfl,by simp⟩
       ·refine AW.yes ?_ (by simp[h5]);(repeat refine AW.seq_k fun K hK=>?_);refine AW.rg ?_;simp;try (refine hK _ rfl ?_;clear hK K)
        exact AW.ret (Af rfl _ (.same _) ⟨by rw[Vv hnb (fun h=>h5 ((h i hi).2 j hj))];rfl,rfl⟩)
      ·rintro _ h5;(repeat refine AW.seq_k fun K hK=>?_);refine AW.rg ?_;simp[-Int.natCast_add,w2];try (refine hK _ rfl ?_;clear hK K)
       refine⟨⟨by omega,fun k hk=>?_⟩,by omega⟩;rcases Nat.lt_succ_iff_lt_or_eq.1 hk with h | rfl
       ·exact g2 k h
       ·exact h5
     ·refine AW.exit ?_;try simp
      exact⟨h4,fun k hk=>g2 k (by omega)⟩
    ·rintro _ h3;(repeat refine AW.seq_k fun K hK=>?_);refine AW.rg ?_;simp[-Int.natCast_add,w1];try (refine hK _ rfl ?_;clear hK K)
     refine⟨⟨by omega,fun k hk=>?_⟩,by omega⟩;rcases Nat.lt_succ_iff_lt_or_eq.1 hk with h | rfl
     ·exact h2 k h
     ·exact h3
   ·refine AW.exit ?_;try simp
    exact fun k hk=>h2 k (by omega)
  rintro _ hok;(repeat refine AW.seq_k fun K hK=>?_);refine AW.rg ?_;simp;try (refine hK _ rfl ?_;clear hK K)
  exact AW.ret (Af rfl _ (.same _) ⟨by rw[Qft hnb hok];rfl,rfl⟩)
end Go.Av
end
section
namespace Go.Av
open Go.Proofs
@[simp] theorem Qk0 (b z i j:Nat):I9 (.ptr b z i j)=some (.ptr b z i j):=(rfl)
@[simp] theorem Qiw (l:List AV):I9 (.rptr l)=some (.rptr l):=(rfl)
def RR.q (r:RR):Rat:=mkRat (if r.n1=true then -(val r.l1:Int) else val r.l1) (val r.l2)
theorem Gm (q:Rat):(Bj q).q=q:=by
 unfold RR.q Bj;simp only[A0,decide_eq_true_eq];have:(if q.num<0 then -(q.num.natAbs:Int) else (q.num.natAbs:Int))=q.num:=by split<;>omega
 rw[this,Rat.mkRat_self]
theorem El {r:RR} (hl:r.Lb) (h:r.ok=true):B1 r.q∧r=Bj r.q:=by
 obtain⟨q,h1,h2⟩:=Qpi hl h;subst h2;rw[Gm];exact⟨h1,rfl⟩
theorem Pe {r:RR} (hl:r.Lb) (h:r.ok=true):r.av=Jn r.q:=by
 have:=(El hl h).2
 calc r.av=(Bj r.q).av:=by rw[←this]
  _=Jn r.q:=rfl
def S8:RR:=⟨false,[],false,[]⟩
theorem U6:S8.av=Ch:=rfl
theorem Qk7:S8.Lb:=⟨fun x hx=>(by cases hx),fun x hx=>(by cases hx)⟩
def C0 (e:Int) (a:RR) (q:Option Rat):Int × RR:=if e=0 then (match q with | some q=>(0,Bj q) | none=>(2,S8)) else (e,a)
theorem Vg {e:Int} {a:RR} {q:Option Rat} (h:a.Lb):(C0 e a q).2.Lb:=by
 unfold C0;split
 ·cases q with
  |none=>exact Qk7
  |some q=>exact Gf q
 ·exact h
def Ln (c:Nat) (x:AV):Aa:=Aa.emp.set c ⟨118,1,[x]⟩
def F8 (x:AV) (e:Int):Prop:=x.cells=[.int .i64 e]
theorem Mf (c:Nat) (x:AV) (e f:Int) (hx:F8 x e) (r:RR):Aj Tryz.prog 158 [.ptr c 1 0 0,r.av,.int .i64 f] (Ln c x) fun v m=>v=r.av∧∃x',F8 x' (if e=0 then f else e)∧m=Ln c x':=by
 unfold F8 at hx;unfold RR.av Ln;refine Ae Tryz.func158 rfl rfl 17 rfl (Nat.le_of_ble_eq_true rfl) ?_;(repeat refine AW.seq_k fun K hK=>?_);refine AW.rgR [4] ?_;simp[Ak];try (refine hK _ rfl ?_;clear hK K)
 refine Ah.intro fun b6 hb6=>?_;simp only[Ap,Az,and_true]at hb6;refine hK _ rfl ?_;clear hK K;refine AW.seq_ex (ι:=AV) (fun x'=>[(0,.ptr c 1 0 0),(4,.rptr [.bool r.n1,An r.l1,.bool r.n2,An r.l2]),(6,.ptr b6 4 0 0)]) (fun x'=>(Aa.emp.set c ⟨118,1,[x']⟩).set b6 ⟨44,4,[.agg [.bool false,.nil,.bool false,.nil]]⟩) (fun x'=>F8 x' (if e=0 then f else e)) ?_ ?_
 ·(repeat refine AW.seq_k fun K hK=>?_);refine AW.rg ?_;simp[hb6,hx];try (refine hK _ rfl ?_;clear hK K)
  (repeat refine AW.seq ?_);refine AW.cs (fun he=>?_) (fun he=>?_) rfl<;>(try simp at he)
  ·(repeat refine AW.seq_k fun K hK=>?_);refine AW.rg ?_;simp[hb6,hx];try (refine hK _ rfl ?_;clear hK K)
   refine⟨.int .i64 f,by simp[F8,he],?_⟩;rw[W7 _ hb6.2]
  ·refine AW.skip ⟨x,?_,rfl,rfl,by simp⟩;simp[F8,he];exact hx
 rintro x' hx';(repeat refine AW.seq_k fun K hK=>?_);refine AW.rg ?_;simp[hb6];try (refine hK _ rfl ?_;clear hK K)
 refine AW.ret (Cy (vs:=[.agg [.bool r.n1,An r.l1,.bool r.n2,An r.l2]]) [.agg [.bool r.n1,An r.l1,.bool r.n2,An r.l2]] c ⟨118,1,[x']⟩ (by simp[hb6]) (by simp[hb6]) ?_ (Bc _ _ _) ⟨rfl,x',hx',rfl⟩);intro v hv;simp at hv;subst hv;unfold F8 at hx';rw[hx'];rfl
theorem Qc4 (c:Nat) (x:AV) (e:Int) (hx:F8 x e) (a b:RR) (ha:a.Lb) (hb:b.Lb) (h:e=0→a.ok=true∧b.ok=true):Aj Tryz.prog 146 [.ptr c 1 0 0,a.av,b.av] (Ln c x) fun v m=>v=(C0 e a (Dh a.q b.q)).2.av∧∃x',F8 x' (C0 e a (Dh a.q b.q)).1∧m=Ln c x':=by
 have hone:∀x' e',F8 x' e'→∀v∈(⟨118,1,[x']⟩:Ep).l,v.cells.all AV.one=true:=by
  intro x' e' hx' v hv;simp at hv;subst hv;unfold F8 at hx';rw[hx'];rfl
 have hone:=hone;have hx0:=hx;unfold F8 at hx;by_cases he:e=0
 ·obtain⟨o1,o2⟩:=h he;obtain⟨g1,e1⟩:=El ha o1;obtain⟨g2,e2⟩:=El hb o2;have hr:=Kx a.q b.q g1 g2;rw[←Pe ha o1,←Pe hb o2]at hr;have hk:=Mf c x e;subst he;generalize Dh a.q b.q=q at *;unfold Ln at hk ⊢;unfold RR.av at hr ⊢;refine Ae Tryz.func146 rfl rfl 20 rfl (Nat.le_of_ble_eq_true rfl) ?_;(repeat refine AW.seq_k fun K hK=>?_);refine AW.rgR [4,5] ?_;simp[Ak];try (refine hK _ rfl ?_;clear hK K)
  refine Ah.intro fun b6 hb6=>?_;simp only[Ap,Az,and_true]at hb6;refine hK _ rfl ?_;clear hK K;(repeat refine AW.seq_k fun K hK=>?_);refine AW.rg ?_;simp[hb6,hx];try (refine hK _ rfl ?_;clear hK K)
  refine AW.no ?_ rfl;refine AW.skip ?_;try simp
  refine hK _ rfl ?_;clear hK K;cases q with
  |none =>
   (repeat refine AW.seq_k fun K hK=>?_);refine AW.rg ?_;simp[hb6];try (refine hK _ rfl ?_;clear hK K)
   refine Ac.val hr ?_;simp[Ff,Ch];have hk2:=hk 2 hx0 S8;refine Ac.grant (R:=fun v y=>v=S8.av∧∃x',F8 x' 2∧y=⟨118,1,[x']⟩) c ⟨118,1,[x]⟩ (by simp[hb6]) (by simp) (hk2.mono fun v m ⟨h1,x',h2,h3⟩=>⟨_,⟨h1,x',h2,rfl⟩,h3⟩) ?_;rintro _ _ ⟨rfl,x',hx',rfl⟩;simp[hb6,U6,Ch];refine hK _ rfl ?_;clear hK K;refine AW.ret (Cy (vs:=[Ch]) [Ch] c ⟨118,1,[x']⟩ (by simp[hb6,Ch]) (by simp[hb6]) (hone x' 2 hx') (Bc _ _ _) ⟨rfl,x',hx',rfl⟩)
  |some q =>
   (repeat refine AW.seq_k fun K hK=>?_);refine AW.rg ?_;simp[hb6];try (refine hK _ rfl ?_;clear hK K)
   refine Ac.val hr ?_;simp[Ff];have hk2:=hk 0 hx0 (Bj q);refine Ac.grant (R:=fun v y=>v=(Bj q).av∧∃x',F8 x' 0∧y=⟨118,1,[x']⟩) c ⟨118,1,[x]⟩ (by simp[hb6]) (by simp) (hk2.mono fun v m ⟨h1,x',h2,h3⟩=>⟨_,⟨h1,x',h2,rfl⟩,h3⟩) ?_;rintro _ _ ⟨rfl,x',hx',rfl⟩;simp[hb6];refine hK _ rfl ?_;clear hK K;refine AW.ret (Cy (vs:=[(Bj q).av]) [(Bj q).av] c ⟨118,1,[x']⟩ (by simp[hb6,RR.av]) (by simp[hb6]) (hone x' 0 hx') (Bc _ _ _) ⟨rfl,x',hx',rfl⟩)
 ·have e3:C0 e a (Dh a.q b.q)=(e,a):=if_neg he;rw[e3];unfold Ln;unfold RR.av;refine Ae Tryz.func146 rfl rfl 20 rfl (Nat.le_of_ble_eq_true rfl) ?_;(repeat refine AW.seq_k fun K hK=>?_);refine AW.rgR [4,5] ?_;simp[Ak];try (refine hK _ rfl ?_;clear hK K)
  refine Ah.intro fun b6 hb6=>?_;simp only[Ap,Az,and_true]at hb6;refine hK _ rfl ?_;clear hK K;(repeat refine AW.seq_k fun K hK=>?_);refine AW.rg ?_;simp[hb6,hx];try (refine hK _ rfl ?_;clear hK K)
  refine AW.yes ?_ (by simp[he]);(repeat refine AW.seq_k fun K hK=>?_);refine AW.rg ?_;simp[hb6];try (refine hK _ rfl ?_;clear hK K)
  refine AW.ret (Cy (vs:=[.agg [.bool a.n1,An a.l1,.bool a.n2,An a.l2]]) [.agg [.bool a.n1,An a.l1,.bool a.n2,An a.l2]] c ⟨118,1,[x]⟩ (by simp[hb6]) (by simp[hb6]) (hone x e hx0) (Bc _ _ _) ⟨rfl,x,hx0,rfl⟩)
theorem Qd1 (c:Nat) (x:AV) (e:Int) (hx:F8 x e) (a b:RR) (ha:a.Lb) (hb:b.Lb) (h:e=0→a.ok=true∧b.ok=true):Aj Tryz.prog 111 [.ptr c 1 0 0,a.av,b.av] (Ln c x) fun v m=>v=(C0 e a (Eb a.q b.q)).2.av∧∃x',F8 x' (C0 e a (Eb a.q b.q)).1∧m=Ln c x':=by
 have hone:∀x' e',F8 x' e'→∀v∈(⟨118,1,[x']⟩:Ep).l,v.cells.all AV.one=true:=by
  intro x' e' hx' v hv;simp at hv;subst hv;unfold F8 at hx';rw[hx'];rfl
 have hone:=hone;have hx0:=hx;unfold F8 at hx;by_cases he:e=0
 ·obtain⟨o1,o2⟩:=h he;obtain⟨g1,e1⟩:=El ha o1;obtain⟨g2,e2⟩:=El hb o2;have hr:=Qdw a.q b.q g1 g2;rw[←Pe ha o1,←Pe hb o2]at hr;have hk:=Mf c x e;subst he;generalize Eb a.q b.q=q at *;unfold Ln at hk ⊢;unfold RR.av at hr ⊢;refine Ae Tryz.func111 rfl rfl 20 rfl (Nat.le_of_ble_eq_true rfl) ?_;(repeat refine AW.seq_k fun K hK=>?_);refine AW.rgR [4,5] ?_;simp[Ak];try (refine hK _ rfl ?_;clear hK K)
  refine Ah.intro fun b6 hb6=>?_;simp only[Ap,Az,and_true]at hb6;refine hK _ rfl ?_;clear hK K;(repeat refine AW.seq_k fun K hK=>?_);refine AW.rg ?_;simp[hb6,hx];try (refine hK _ rfl ?_;clear hK K)
  refine AW.no ?_ rfl;refine AW.skip ?_;try simp
  refine hK _ rfl ?_;clear hK K;cases q with
  |none =>
   (repeat refine AW.seq_k fun K hK=>?_);refine AW.rg ?_;simp[hb6];try (refine hK _ rfl ?_;clear hK K)
   refine Ac.val hr ?_;simp[Ff,Ch];have hk2:=hk 2 hx0 S8;refine Ac.grant (R:=fun v y=>v=S8.av∧∃x',F8 x' 2∧y=⟨118,1,[x']⟩) c ⟨118,1,[x]⟩ (by simp[hb6]) (by simp) (hk2.mono fun v m ⟨h1,x',h2,h3⟩=>⟨_,⟨h1,x',h2,rfl⟩,h3⟩) ?_;rintro _ _ ⟨rfl,x',hx',rfl⟩;simp[hb6,U6,Ch];refine hK _ rfl ?_;clear hK K;refine AW.ret (Cy (vs:=[Ch]) [Ch] c ⟨118,1,[x']⟩ (by simp[hb6,Ch]) (by simp[hb6]) (hone x' 2 hx') (Bc _ _ _) ⟨rfl,x',hx',rfl⟩)
  |some q =>
   (repeat refine AW.seq_k fun K hK=>?_);refine AW.rg ?_;simp[hb6];try (refine hK _ rfl ?_;clear hK K)
   refine Ac.val hr ?_;simp[Ff];have hk2:=hk 0 hx0 (Bj q);refine Ac.grant (R:=fun v y=>v=(Bj q).av∧∃x',F8 x' 0∧y=⟨118,1,[x']⟩) c ⟨118,1,[x]⟩ (by simp[hb6]) (by simp) (hk2.mono fun v m ⟨h1,x',h2,h3⟩=>⟨_,⟨h1,x',h2,rfl⟩,h3⟩) ?_;rintro _ _ ⟨rfl,x',hx',rfl⟩;simp[hb6];refine hK _ rfl ?_;clear hK K;refine AW.ret (Cy (vs:=[(Bj q).av]) [(Bj q).av] c ⟨118,1,[x']⟩ (by simp[hb6,RR.av]) (by simp[hb6]) (hone x' 0 hx') (Bc _ _ _) ⟨rfl,x',hx',rfl⟩)
 ·have e3:C0 e a (Eb a.q b.q)=(e,a):=if_neg he;rw[e3];unfold Ln;unfold RR.av;refine Ae Tryz.func111 rfl rfl 20 rfl (Nat.le_of_ble_eq_true rfl) ?_;(repeat refine AW.seq_k fun K hK=>?_);refine AW.rgR [4,5] ?_;simp[Ak];try (refine hK _ rfl ?_;clear hK K)
  refine Ah.intro fun b6 hb6=>?_;simp only[Ap,Az,and_true]at hb6;refine hK _ rfl ?_;clear hK K;(repeat refine AW.seq_k fun K hK=>?_);refine AW.rg ?_;simp[hb6,hx];try (refine hK _ rfl ?_;clear hK K)
  refine AW.yes ?_ (by simp[he]);(repeat refine AW.seq_k fun K hK=>?_);refine AW.rg ?_;simp[hb6];try (refine hK _ rfl ?_;clear hK K)
  refine AW.ret (Cy (vs:=[.agg [.bool a.n1,An a.l1,.bool a.n2,An a.l2]]) [.agg [.bool a.n1,An a.l1,.bool a.n2,An a.l2]] c ⟨118,1,[x]⟩ (by simp[hb6]) (by simp[hb6]) (hone x e hx0) (Bc _ _ _) ⟨rfl,x,hx0,rfl⟩)
theorem Qdb (c:Nat) (x:AV) (e:Int) (hx:F8 x e) (a b:RR) (ha:a.Lb) (hb:b.Lb) (h:e=0→a.ok=true∧b.ok=true∧b.q≠0):Aj Tryz.prog 145 [.ptr c 1 0 0,a.av,b.av] (Ln c x) fun v m=>v=(C0 e a (Gh a.q b.q)).2.av∧∃x',F8 x' (C0 e a (Gh a.q b.q)).1∧m=Ln c x':=by
 have hone:∀x' e',F8 x' e'→∀v∈(⟨118,1,[x']⟩:Ep).l,v.cells.all AV.one=true:=by
  intro x' e' hx' v hv;simp at hv;subst hv;unfold F8 at hx';rw[hx'];rfl
 have hone:=hone;have hx0:=hx;unfold F8 at hx;by_cases he:e=0
 ·obtain⟨o1,o2,o3⟩:=h he;obtain⟨g1,e1⟩:=El ha o1;obtain⟨g2,e2⟩:=El hb o2;have hr:=Qdm a.q b.q g1 g2 o3;rw[←Pe ha o1,←Pe hb o2]at hr;have hk:=Mf c x e;subst he;generalize Gh a.q b.q=q at *;unfold Ln at hk ⊢;unfold RR.av at hr ⊢;refine Ae Tryz.func145 rfl rfl 20 rfl (Nat.le_of_ble_eq_true rfl) ?_;(repeat refine AW.seq_k fun K hK=>?_);refine AW.rgR [4,5] ?_;simp[Ak];try (refine hK _ rfl ?_;clear hK K)
  refine Ah.intro fun b6 hb6=>?_;simp only[Ap,Az,and_true]at hb6;refine hK _ rfl ?_;clear hK K;(repeat refine AW.seq_k fun K hK=>?_);refine AW.rg ?_;simp[hb6,hx];try (refine hK _ rfl ?_;clear hK K)
  refine AW.no ?_ rfl;refine AW.skip ?_;try simp
  refine hK _ rfl ?_;clear hK K;cases q with
  |none =>
   (repeat refine AW.seq_k fun K hK=>?_);refine AW.rg ?_;simp[hb6];try (refine hK _ rfl ?_;clear hK K)
   refine Ac.val hr ?_;simp[Ff,Ch];have hk2:=hk 2 hx0 S8;refine Ac.grant (R:=fun v y=>v=S8.av∧∃x',F8 x' 2∧y=⟨118,1,[x']⟩) c ⟨118,1,[x]⟩ (by simp[hb6]) (by simp) (hk2.mono fun v m ⟨h1,x',h2,h3⟩=>⟨_,⟨h1,x',h2,rfl⟩,h3⟩) ?_;rintro _ _ ⟨rfl,x',hx',rfl⟩;simp[hb6,U6,Ch];refine hK _ rfl ?_;clear hK K;refine AW.ret (Cy (vs:=[Ch]) [Ch] c ⟨118,1,[x']⟩ (by simp[hb6,Ch]) (by simp[hb6]) (hone x' 2 hx') (Bc _ _ _) ⟨rfl,x',hx',rfl⟩)
  |some q =>
   (repeat refine AW.seq_k fun K hK=>?_);refine AW.rg ?_;simp[hb6];try (refine hK _ rfl ?_;clear hK K)
   refine Ac.val hr ?_;simp[Ff];have hk2:=hk 0 hx0 (Bj q);refine Ac.grant (R:=fun v y=>v=(Bj q).av∧∃x',F8 x' 0∧y=⟨118,1,[x']⟩) c ⟨118,1,[x]⟩ (by simp[hb6]) (by simp) (hk2.mono fun v m ⟨h1,x',h2,h3⟩=>⟨_,⟨h1,x',h2,rfl⟩,h3⟩) ?_;rintro _ _ ⟨rfl,x',hx',rfl⟩;simp[hb6];refine hK _ rfl ?_;clear hK K;refine AW.ret (Cy (vs:=[(Bj q).av]) [(Bj q).av] c ⟨118,1,[x']⟩ (by simp[hb6,RR.av]) (by simp[hb6]) (hone x' 0 hx') (Bc _ _ _) ⟨rfl,x',hx',rfl⟩)
 ·have e3:C0 e a (Gh a.q b.q)=(e,a):=if_neg he;rw[e3];unfold Ln;unfold RR.av;refine Ae Tryz.func145 rfl rfl 20 rfl (Nat.le_of_ble_eq_true rfl) ?_;(repeat refine AW.seq_k fun K hK=>?_);refine AW.rgR [4,5] ?_;simp[Ak];try (refine hK _ rfl ?_;clear hK K)
  refine Ah.intro fun b6 hb6=>?_;simp only[Ap,Az,and_true]at hb6;refine hK _ rfl ?_;clear hK K;(repeat refine AW.seq_k fun K hK=>?_);refine AW.rg ?_;simp[hb6,hx];try (refine hK _ rfl ?_;clear hK K)
  refine AW.yes ?_ (by simp[he]);(repeat refine AW.seq_k fun K hK=>?_);refine AW.rg ?_;simp[hb6];try (refine hK _ rfl ?_;clear hK K)
  refine AW.ret (Cy (vs:=[.agg [.bool a.n1,An a.l1,.bool a.n2,An a.l2]]) [.agg [.bool a.n1,An a.l1,.bool a.n2,An a.l2]] c ⟨118,1,[x]⟩ (by simp[hb6]) (by simp[hb6]) (hone x e hx0) (Bc _ _ _) ⟨rfl,x,hx0,rfl⟩)
end Go.Av
end
section
namespace Go.Av
open Go.Proofs
def Qc (n:Int):Rat:=Rat.divInt n 1
theorem Ih:Qc 0=0:=Rat.zero_divInt 1
theorem J3:Qc 1=1:=by decide
theorem Uk {n:Int} (h:n.natAbs<18446744073709551616):B1 (Qc n):=Ge (Se h) (by decide) (by omega)
theorem L1 (n:Int) (h1:-9223372036854775808≤n) (h2:n<9223372036854775808):Aj Tryz.prog 152 [.int .i64 n] Aa.emp fun v m=>v=(Bj (Qc n)).av∧m=Aa.emp:=by
 have ho:=Qb2 n 1 h1 h2 (by omega) (by omega) (by omega);have e:Rat.divInt n 1=Qc n:=rfl;rw[e,Ff]at ho;generalize Qc n=q at *;rw[H0];unfold Jn at *;refine Ae Tryz.func152 rfl rfl 11 rfl (Nat.le_of_ble_eq_true rfl) ?_;(repeat refine AW.seq_k fun K hK=>?_);refine AW.rg ?_;simp[Ak];try (refine hK _ rfl ?_;clear hK K)
 refine Ah.intro fun b2 _=>?_;refine hK _ rfl ?_;clear hK K;(repeat refine AW.seq_k fun K hK=>?_);refine AW.rg ?_;simp;try (refine hK _ rfl ?_;clear hK K)
 refine Ac.val ho ?_;simp;refine Ah.intro fun b3 hb3=>?_;simp only[Ap,Az,and_true]at hb3;try simp[hb3]
 refine hK _ rfl ?_;clear hK K;(repeat refine AW.seq_k fun K hK=>?_);refine AW.rg ?_;simp[hb3];try (refine hK _ rfl ?_;clear hK K)
 exact AW.ret (Ag (vs:=[.agg [.bool (decide (q.num<0)),An (Ao q.num.natAbs),.bool false,An (Ao q.den)]]) [.agg [.bool (decide (q.num<0)),An (Ao q.num.natAbs),.bool false,An (Ao q.den)]] (by simp[hb3]) (by simp) ⟨rfl,rfl⟩)
section
variable {P:Program} {av:Nat→Prop} {f:FuncId} {args:List AV} {m:Aa} {k:AV→Aa→Prop}
theorem Ac.make {R:Nat→AV→Ep→Prop} (h:Aj P f args Aa.emp fun v m'=>∃b x,R b v x∧m'=Aa.emp.set b x) (hk:∀b v x,R b v x→m b=none→¬av b→k v (m.set b x)):Ac P av f args m k:=by
 refine .inl ⟨Aa.emp,_,fun c y hy=>(by cases hy),h,?_⟩;rintro v g' ⟨b,x,hr,rfl⟩ hf;have hb:=hf b (by simp);rcases hb with hb | ⟨h1,h2⟩
 ·exact absurd rfl hb
 ·have e:D8 m Aa.emp (Aa.emp.set b x)=m.set b x:=by
   funext c
   unfold D8;simp only[A1,Az];by_cases hc:c=b
   ·simp[hc]
   ·simp[hc]
  rw[e];exact hk b v x hr h1 h2
end
def Qg6:AV:=.agg [.bool false,.nil,.bool false,.nil]
def Kg (l:List RR) (i n:Nat):List AV:=Cm (l.take i)++List.replicate (n-i) Qg6
theorem Rz (l:List RR) (n:Nat):Kg l 0 n=List.replicate n Qg6:=by simp[Kg]
theorem Q5 (l:List RR):Kg l l.length l.length=Cm l:=by simp[Kg]
theorem Qy (l:List RR) (i:Nat) (h:i<l.length):(Kg l i l.length).set i (rr l i).av=Kg l (i+1) l.length:=by
 unfold Kg;have hl:(Cm (l.take i)).length=i:=by simp;omega
 rw[List.set_append_right _ _ (by omega),hl,Nat.sub_self,show l.length-i=(l.length-(i+1))+1 by omega,List.replicate_succ,List.set_cons_zero];have e:l.take (i+1)=l.take i++[l[i]]:=by rw[List.take_add_one,List.getElem?_eq_getElem h];rfl
 rw[e];simp only[Cm,List.map_append,List.append_assoc,List.map_cons,List.map_nil,List.cons_append,List.nil_append,La h]
@[simp] theorem fillL_get? {l:List RR} {i:Nat} (h:i<l.length):(Kg l i l.length)[i]?=some Qg6:=by
 unfold Kg;have hl:(Cm (l.take i)).length=i:=by simp;omega
 rw[List.getElem?_append_right (by omega),hl,Nat.sub_self,show l.length-i=(l.length-(i+1))+1 by omega,List.replicate_succ];rfl
theorem Y1 (n:Nat) (hn:n<2^40):Aj Tryz.prog 109 [.int .i64 n] Aa.emp fun v m=>∃b x,(v=.osl b 4 0 n∧x=⟨44,4,Cm (List.replicate n (Bj 0))⟩)∧m=Aa.emp.set b x:=by
 have hw:=L1 0 (by omega) (by omega);rw[Ih]at hw;generalize hl:List.replicate n (Bj 0)=l at *;have hlen:l.length=n:=by rw[←hl];simp
 have hget:∀i,i<n→rr l i=Bj 0:=by
  intro i hi;rw[La (by omega)];subst hl;simp
 generalize Bj 0=z at *;clear hl;subst hlen;refine Ae Tryz.func109 rfl rfl 18 rfl (Nat.le_of_ble_eq_true rfl) ?_;(repeat refine AW.seq_k fun K hK=>?_);refine AW.rg ?_;simp[Ak];try (refine hK _ rfl ?_;clear hK K)
 (repeat refine AW.seq_k fun K hK=>?_);refine AW.rg ?_;simp[-Int.natCast_mul];try (refine hK _ rfl ?_;clear hK K)
 refine⟨by omega,Ah.intro fun b _=>?_⟩;refine hK _ rfl ?_;clear hK K;refine AW.seq_has [(3,.osl b 4 0 l.length)] (Aa.emp.set b ⟨44,4,Cm l⟩) ?_ ?_
 ·(repeat refine AW.seq_k fun K hK=>?_);refine AW.rg ?_;simp;try (refine hK _ rfl ?_;clear hK K)
  refine AW.block (AW.loopS (ι:=Nat) (fun i=>[(3,.osl b 4 0 l.length),(8,.int .i64 (l.length:Nat)),(9,.int .i64 (i:Nat))]) (fun i=>Aa.emp.set b ⟨44,4,Kg l i l.length⟩)
   (fun i=>i≤l.length) (fun i=>l.length-i) 0 (by simp) (by rw[Rz];rfl) (by simp) ?_)
  intro i h1;(repeat refine AW.seq_k fun K hK=>?_);refine AW.rg ?_;simp;try (refine hK _ rfl ?_;clear hK K)
  refine AW.seq_k fun K hK=>?_;(repeat refine AW.seq ?_);refine AW.cs (fun hi=>?_) (fun hi=>?_) rfl<;>(try simp at hi)
  ·refine AW.skip ?_;try simp
   refine hK _ rfl ?_;clear hK K;have w1:=Aq (i+1) (by omega);(repeat refine AW.seq ?_);refine AW.block ?_;(repeat refine AW.seq_k fun K hK=>?_);refine AW.rg ?_;simp;try (refine hK _ rfl ?_;clear hK K)
   (repeat refine AW.seq_k fun K hK=>?_);refine AW.rg ?_;simp[hi];try (refine hK _ rfl ?_;clear hK K)
   refine Ac.val hw ?_;simp[hi,Qg6];rw[←hget i hi,Qy l i hi];(repeat refine AW.seq_k fun K hK=>?_);refine AW.rg ?_;simp[-Int.natCast_add,w1];try (refine hK _ rfl ?_;clear hK K)
   exact⟨i+1,hi,by omega,rfl,rfl⟩
  ·refine AW.exit ?_;try simp
   have:i=l.length:=by omega
   subst this;rw[Q5]
 (repeat refine AW.seq_k fun K hK=>?_);refine AW.rg ?_;simp;try (refine hK _ rfl ?_;clear hK K)
 exact AW.ret (Bz rfl (Si (Ob l)) ⟨b,_,⟨rfl,rfl⟩,rfl⟩)
theorem Wt (l:List RR) (hl:∀x∈l,x.l1.length<2^40∧x.l2.length<2^40) (hn:l.length<2^40):Aj Tryz.prog 143 [A7 l] Aa.emp fun v m=>∃b x,(v=.osl b 4 0 l.length∧x=⟨44,4,Cm l⟩)∧m=Aa.emp.set b x:=by
 refine Ae Tryz.func143 rfl rfl 23 rfl (Nat.le_of_ble_eq_true rfl) ?_;(repeat refine AW.seq_k fun K hK=>?_);refine AW.rg ?_;simp[Ak];try (refine hK _ rfl ?_;clear hK K)
 (repeat refine AW.seq_k fun K hK=>?_);refine AW.rg ?_;simp[-Int.natCast_mul];try (refine hK _ rfl ?_;clear hK K)
 refine⟨by omega,Ah.intro fun b _=>?_⟩;refine hK _ rfl ?_;clear hK K;refine AW.seq_has [(3,.osl b 4 0 l.length)] (Aa.emp.set b ⟨44,4,Cm l⟩) ?_ ?_
 ·(repeat refine AW.seq_k fun K hK=>?_);refine AW.rg ?_;simp;try (refine hK _ rfl ?_;clear hK K)
  refine AW.block (AW.loopS (ι:=Nat) (fun i=>[(0,A7 l),(3,.osl b 4 0 l.length),(9,.int .i64 (l.length:Nat)),(10,.int .i64 (i:Nat))]) (fun i=>Aa.emp.set b ⟨44,4,Kg l i l.length⟩)
   (fun i=>i≤l.length) (fun i=>l.length-i) 0 (by simp) (by rw[Rz];rfl) (by simp) ?_)
  intro i h1;(repeat refine AW.seq_k fun K hK=>?_);refine AW.rg ?_;simp;try (refine hK _ rfl ?_;clear hK K)
  refine AW.seq_k fun K hK=>?_;(repeat refine AW.seq ?_);refine AW.cs (fun hi=>?_) (fun hi=>?_) rfl<;>(try simp at hi)
  ·refine AW.skip ?_;try simp
   refine hK _ rfl ?_;clear hK K;have w1:=Aq (i+1) (by omega);have hx:=hl (rr l i) (by rw[La hi];exact List.getElem_mem hi);have ho:=Qgu (rr l i) hx.1 hx.2;(repeat refine AW.seq ?_);refine AW.block ?_;(repeat refine AW.seq_k fun K hK=>?_);refine AW.rg ?_;simp;try (refine hK _ rfl ?_;clear hK K)
   (repeat refine AW.seq_k fun K hK=>?_);refine AW.rg ?_;simp[hi];try (refine hK _ rfl ?_;clear hK K)
   refine Ac.val ho ?_;simp[hi,Qg6];rw[Qy l i hi];(repeat refine AW.seq_k fun K hK=>?_);refine AW.rg ?_;simp[-Int.natCast_add,w1];try (refine hK _ rfl ?_;clear hK K)
   exact⟨i+1,hi,by omega,rfl,rfl⟩
  ·refine AW.exit ?_;try simp
   have:i=l.length:=by omega
   subst this;rw[Q5]
 (repeat refine AW.seq_k fun K hK=>?_);refine AW.rg ?_;simp;try (refine hK _ rfl ?_;clear hK K)
 exact AW.ret (Bz rfl (Si (Ob l)) ⟨b,_,⟨rfl,rfl⟩,rfl⟩)
end Go.Av
end
section
namespace Go.Av
open Go.Proofs
def Gj (bs:List Nat) (rows:List (List RR)):List AV:=List.zipWith (fun b (r:List RR)=>.osl b 4 0 r.length) bs rows
def nb (bs:List Nat) (i:Nat):Nat:=bs.getD i 0
theorem Ii {bs:List Nat} {i:Nat} (h:i<bs.length):nb bs i=bs[i]:=by unfold nb;rw[List.getD_eq_getElem?_getD,List.getElem?_eq_getElem h];rfl
theorem Er {bs:List Nat} {i:Nat} (h:i<bs.length):nb bs i∈bs:=by rw[Ii h];exact List.getElem_mem h
theorem Cs {bs:List Nat} {rows:List (List RR)} (h:bs.length=rows.length):(Gj bs rows).length=rows.length:=by simp[Gj,h]
theorem hdrs_get? {bs:List Nat} {rows:List (List RR)} (h:bs.length=rows.length) {i:Nat} (hi:i<rows.length):(Gj bs rows)[i]?=some (.osl (nb bs i) 4 0 (Am rows i).length):=by
 unfold Gj;rw[List.getElem?_zipWith,List.getElem?_eq_getElem (by omega),List.getElem?_eq_getElem hi,Ii (by omega),F5 hi]
structure Eh (M:Aa) (B:Nat) (bs:List Nat) (rows:List (List RR)):Prop where
 top:M B=some ⟨51,1,Gj bs rows⟩
 len:bs.length=rows.length
 row:∀i,i<rows.length→M (nb bs i)=some ⟨44,4,Cm (Am rows i)⟩
 nd:bs.Nodup
 nB:B ∉ bs
theorem Qhn {bs:List Nat} (hnd:bs.Nodup) {i j:Nat} (hi:i<bs.length) (hj:j<bs.length) (h:nb bs i=nb bs j):i=j:=by
 rw[Ii hi,Ii hj]at h;exact(List.getElem_inj hnd).1 h
section
variable {M:Aa} {B:Nat} {bs:List Nat} {rows:List (List RR)}
theorem Eh.ne (h:Eh M B bs rows) {i:Nat} (hi:i<rows.length):nb bs i≠B:=fun e=>h.nB (e ▸ Er (by rw[h.len];exact hi))
theorem Eh.get (h:Eh M B bs rows) {i:Nat} (hi:i<rows.length):(Gj bs rows)[i]?=some (.osl (nb bs i) 4 0 (Am rows i).length):=hdrs_get? h.len hi
theorem Qdh {bs:List Nat} {rows:List (List RR)} (i:Nat) (r:List RR) (hr:r.length=(Am rows i).length):Gj bs (rows.set i r)=Gj bs rows:=by
 unfold Gj;refine List.ext_getElem? fun k=>?_;rw[List.getElem?_zipWith,List.getElem?_zipWith,List.getElem?_set];by_cases hk:i=k
 ·subst hk;rw[if_pos rfl];by_cases hi:i<rows.length
  ·rw[if_pos hi,List.getElem?_eq_getElem hi];cases bs[i]? with
   |none=>rfl
   |some b=>simp[hr,F5 hi]
  ·rw[if_neg hi,List.getElem?_eq_none (l:=rows) (by omega)]
 ·rw[if_neg hk]
theorem Hf {α:Type} {rows:List (List α)} {i:Nat} (hi:i<rows.length) (r:List α) (k:Nat):Am (rows.set i r) k=if k=i then r else Am rows k:=by
 unfold Am;rw[List.getD_eq_getElem?_getD,List.getElem?_set];by_cases h:i=k
 ·subst h;simp[hi]
 ·rw[if_neg h,if_neg (Ne.symm h),←List.getD_eq_getElem?_getD]
theorem Eh.setRow (h:Eh M B bs rows) {i:Nat} (hi:i<rows.length) (r:List RR) (hr:r.length=(Am rows i).length):Eh (M.set (nb bs i) ⟨44,4,Cm r⟩) B bs (rows.set i r):=by
 refine⟨?_,by simpa using h.len,fun k hk=>?_,h.nd,h.nB⟩
 ·rw[Qdh i r hr];simp only[A1];rw[if_neg (Ne.symm (h.ne hi))];exact h.top
 ·have hk':k<rows.length:=by simpa using hk
  simp only[A1];rw[Hf hi];by_cases hki:k=i
  ·subst hki;simp
  ·have:nb bs k≠nb bs i:=fun e=>hki (Qhn h.nd (by rw[h.len];exact hk') (by rw[h.len];exact hi) e);rw[if_neg this,if_neg hki];exact h.row k hk'
theorem Eh.other (h:Eh M B bs rows) {c:Nat} (h1:c≠B) (h2:c ∉ bs) (x:Ep):Eh (M.set c x) B bs rows:=by
 refine⟨?_,h.len,fun k hk=>?_,h.nd,h.nB⟩
 ·simp only[A1];rw[if_neg (Ne.symm h1)];exact h.top
 ·have:nb bs k≠c:=fun e=>h2 (e ▸ Er (by rw[h.len];exact hk));simp only[A1];rw[if_neg this];exact h.row k hk
theorem Us (bs:List Nat) (rows:List (List RR)):∀v∈Gj bs rows,v.cells.all AV.one=true:=by
 intro v hv;unfold Gj at hv;obtain⟨k,hk⟩:=List.getElem?_of_mem hv;rw[List.getElem?_zipWith]at hk;cases h1:bs[k]?<;>cases h2:rows[k]?<;>simp[h1,h2]at hk
 subst hk;rfl
theorem Eh.view (h:Eh M B bs rows):Bv M Aa.emp (.osl B 1 0 rows.length) (Ba rows):=by
 refine .osl B 1 0 rows.length _ _ h.top rfl rfl (by simp) (by simp[Cs h.len]) fun k v v' h1 h2=>?_;simp only[Nat.zero_add]at h1;have hk:k<rows.length:=by
  have:=(List.getElem?_eq_some_iff.1 h2).1;simpa using this
 rw[h.get hk]at h1;rw[List.getElem?_map,List.getElem?_eq_getElem hk]at h2;cases h1;cases h2;rw[←F5 hk];refine .osl (nb bs k) 4 0 _ _ _ (h.row k hk) rfl rfl (by simp) (by simp) fun j u u' g1 g2=>?_;simp only[Nat.zero_add]at g1;rw[g1]at g2;cases g2;exact .same _
end
def Dn (M:Aa) (l:List Nat):Prop:=∀b,M b≠none→b∈l
theorem Dn.none {M:Aa} {l:List Nat} (h:Dn M l) {b:Nat} (hb:b ∉ l):M b=Option.none:=by
 cases hx:M b with
 |none=>rfl
 |some x=>exact absurd (h b (by rw[hx];simp)) hb
theorem Eh.ones {M:Aa} {B:Nat} {bs:List Nat} {rows:List (List RR)} (h:Eh M B bs rows) {l:List Nat} (ho:Dn M (l++B::bs)) (hl:∀c∈l,∀x,M c=some x→∀v∈x.l,v.cells.all AV.one=true):∀(b:Nat) (x:Ep),M b=some x→∀v∈x.l,v.cells.all AV.one=true:=by
 intro b x hx;have:=ho b (by rw[hx];simp);rcases List.mem_append.1 this with h1 | h1
 ·exact hl b h1 x hx
 ·rcases List.mem_cons.1 h1 with rfl|h1
  ·rw[h.top]at hx;cases hx;exact Us bs rows
  ·obtain⟨i,hi⟩:=List.getElem?_of_mem h1;have hib:i<bs.length:=(List.getElem?_eq_some_iff.1 hi).1;have hir:i<rows.length:=by rw[←h.len];exact hib
   have e:nb bs i=b:=by rw[Ii hib];exact(List.getElem?_eq_some_iff.1 hi).2
   have:=h.row i hir;rw[e,hx]at this;cases this;exact Ob _
structure Qe7 (M:Aa) (B:Nat) (bs:List Nat) (rows:List (List RR)) (k:Nat):Prop where
 top:M B=some ⟨51,1,Gj bs rows++List.replicate k AV.nil⟩
 len:bs.length=rows.length
 row:∀i,i<rows.length→M (nb bs i)=some ⟨44,4,Cm (Am rows i)⟩
 nd:bs.Nodup
 nB:B ∉ bs
 only:Dn M (B::bs)
theorem Qeb {bs:List Nat} {rows:List (List RR)} (h:bs.length=rows.length) (b:Nat) (r:List RR):Gj (bs++[b]) (rows++[r])=Gj bs rows++[.osl b 4 0 r.length]:=by
 unfold Gj;rw[List.zipWith_append h];rfl
theorem Qe9 {α:Type} (rows:List (List α)) (r:List α) (i:Nat) (hi:i<rows.length+1):Am (rows++[r]) i=if i<rows.length then Am rows i else r:=by
 unfold Am;rw[List.getD_eq_getElem?_getD];by_cases h:i<rows.length
 ·rw[if_pos h,List.getElem?_append_left h,←List.getD_eq_getElem?_getD]
 ·rw[if_neg h,List.getElem?_append_right (by omega),show i-rows.length=0 by omega];rfl
theorem Qjc (bs:List Nat) (b:Nat) (i:Nat) (hi:i<bs.length+1):nb (bs++[b]) i=if i<bs.length then nb bs i else b:=by
 unfold nb;rw[List.getD_eq_getElem?_getD];by_cases h:i<bs.length
 ·rw[if_pos h,List.getElem?_append_left h,←List.getD_eq_getElem?_getD]
 ·rw[if_neg h,List.getElem?_append_right (by omega),show i-bs.length=0 by omega];rfl
theorem Qe7.step {M:Aa} {B:Nat} {bs:List Nat} {rows:List (List RR)} {k:Nat} (h:Qe7 M B bs rows (k+1)) {b:Nat} (hb:M b=none) (r:List RR) :
  Qe7 ((M.set b ⟨44,4,Cm r⟩).set B ⟨51,1,(Gj bs rows++List.replicate (k+1) AV.nil).set rows.length (.osl b 4 0 r.length)⟩) B (bs++[b]) (rows++[r]) k:=by
 have hbB:b≠B:=by rintro rfl;rw[h.top]at hb;cases hb
 have hbb:b ∉ bs:=by
  intro hm;obtain⟨i,hi⟩:=List.getElem?_of_mem hm;have hib:i<bs.length:=(List.getElem?_eq_some_iff.1 hi).1;have e:nb bs i=b:=by rw[Ii hib];exact(List.getElem?_eq_some_iff.1 hi).2
  have:=h.row i (by rw[←h.len];exact hib);rw[e,hb]at this;cases this
 refine⟨?_,by simp[h.len],fun i hi=>?_,?_,?_,fun c hc=>?_⟩
 ·simp only[A1,if_true];rw[Qeb h.len,List.set_append_right _ _ (by rw[Cs h.len];omega),Cs h.len,Nat.sub_self,List.replicate_succ,List.set_cons_zero];simp
 ·have hi':i<rows.length+1:=by simpa using hi
  rw[Qjc bs b i (by rw[h.len];exact hi'),Qe9 rows r i hi',h.len];by_cases hlt:i<rows.length
  ·rw[if_pos hlt,if_pos hlt];have n1:nb bs i≠B:=fun e=>h.nB (e ▸ Er (by rw[h.len];exact hlt));have n2:nb bs i≠b:=fun e=>hbb (e ▸ Er (by rw[h.len];exact hlt));simp only[A1];rw[if_neg n1,if_neg n2];exact h.row i hlt
  ·rw[if_neg hlt,if_neg hlt];simp[hbB]
 ·rw[List.nodup_append];exact⟨h.nd,by simp,fun x hx y hy=>by simp at hy;subst hy;exact fun e=>hbb (e ▸ hx)⟩
 ·simp only[List.mem_append,List.mem_singleton,not_or];exact⟨h.nB,Ne.symm hbB⟩
 ·simp only[A1]at hc;by_cases h1:c=B
  ·simp[h1]
  ·rw[if_neg h1]at hc;by_cases h2:c=b
   ·simp[h2]
   ·rw[if_neg h2]at hc;have:=h.only c hc;simp at this ⊢;rcases this with h3 | h3
    ·exact absurd h3 h1
    ·exact .inr (.inl h3)
theorem Qe7.full {M:Aa} {B:Nat} {bs:List Nat} {rows:List (List RR)} (h:Qe7 M B bs rows 0):Eh M B bs rows∧Dn M (B::bs) :=
 ⟨⟨by rw[h.top];simp,h.len,h.row,h.nd,h.nB⟩,h.only⟩
def Qgn (m:List (List RR)):Prop:=∀r∈m,∀x∈r,x.l1.length<2^40∧x.l2.length<2^40
theorem Zz (m:List (List RR)) (hs:Qgn m) (h1:m.length<2^40) (h2:∀r∈m,r.length<2^40):Aj Tryz.prog 100 [Ba m] Aa.emp fun v M=>∃B bs,v=.osl B 1 0 m.length∧Eh M B bs m∧Dn M (B::bs):=by
 refine Ae Tryz.func100 rfl rfl 23 rfl (Nat.le_of_ble_eq_true rfl) ?_;(repeat refine AW.seq_k fun K hK=>?_);refine AW.rg ?_;simp[Ak];try (refine hK _ rfl ?_;clear hK K)
 (repeat refine AW.seq_k fun K hK=>?_);refine AW.rg ?_;simp;try (refine hK _ rfl ?_;clear hK K)
 refine⟨by omega,Ah.intro fun B _=>?_⟩;refine hK _ rfl ?_;clear hK K;refine AW.seq_ex (ι:=Aa × List Nat) (fun z=>[(3,.osl B 1 0 m.length)]) (fun z=>z.1) (fun z=>Eh z.1 B z.2 m∧Dn z.1 (B::z.2)) ?_ ?_
 ·(repeat refine AW.seq_k fun K hK=>?_);refine AW.rg ?_;simp;try (refine hK _ rfl ?_;clear hK K)
  refine AW.block (AW.loopS (ι:=Nat × Aa × List Nat) (fun z=>[(0,Ba m),(3,.osl B 1 0 m.length),(9,.int .i64 (m.length:Nat)),(10,.int .i64 (z.1:Nat))]) (fun z=>z.2.1)
   (fun z=>z.1≤m.length∧Qe7 z.2.1 B z.2.2 (m.take z.1) (m.length-z.1)) (fun z=>m.length-z.1) (0,Aa.emp.set B ⟨51,1,List.replicate m.length .nil⟩,[]) ⟨by simp,⟨by simp[Gj],rfl,fun i hi=>(by simp at hi),by simp,by simp,fun b hb=>by
    simp only[A1,Az]at hb;by_cases h:b=B
    ·simp[h]
    ·simp[h]at hb⟩⟩ rfl (by simp) ?_)
  rintro⟨i,M,bs⟩ ⟨g1,g2⟩;simp only at g1 g2;(repeat refine AW.seq_k fun K hK=>?_);refine AW.rg ?_;simp;try (refine hK _ rfl ?_;clear hK K)
  refine AW.seq_k fun K hK=>?_;(repeat refine AW.seq ?_);refine AW.cs (fun hi=>?_) (fun hi=>?_) rfl<;>(try simp at hi)
  ·refine AW.skip ?_;try simp
   refine hK _ rfl ?_;clear hK K;have w1:=Aq (i+1) (by omega);obtain⟨k,hk⟩:∃k,m.length-i=k+1:=⟨m.length-i-1,by omega⟩;rw[hk]at g2;have hmem:Am m i∈m:=by rw[F5 hi];exact List.getElem_mem hi
   have ho:=Wt (Am m i) (hs _ hmem) (h2 _ hmem);have htl:(m.take i).length=i:=by simp;omega
   have hlen:(Gj bs (m.take i)++List.replicate (k+1) AV.nil)[i]?=some .nil:=by
    rw[List.getElem?_append_right (by rw[Cs g2.len];omega),Cs g2.len,htl,Nat.sub_self];rfl
   (repeat refine AW.seq ?_);refine AW.block ?_;(repeat refine AW.seq_k fun K hK=>?_);refine AW.rg ?_;simp;try (refine hK _ rfl ?_;clear hK K)
   (repeat refine AW.seq_k fun K hK=>?_);refine AW.rg ?_;simp[hi];try (refine hK _ rfl ?_;clear hK K)
   refine Ac.make ho ?_;rintro b _ _ ⟨rfl,rfl⟩ hb _;have hbB:B≠b:=by rintro rfl;rw[g2.top]at hb;cases hb
   simp[hi,hbB,g2.top,hlen];have hst:=g2.step hb (Am m i);rw[htl]at hst;(repeat refine AW.seq_k fun K hK=>?_);refine AW.rg ?_;simp[-Int.natCast_add,w1];try (refine hK _ rfl ?_;clear hK K)
   refine⟨i+1,_,⟨hi,bs++[b],?_⟩,by omega,rfl,rfl⟩;have e:m.take (i+1)=m.take i++[Am m i]:=by rw[List.take_add_one,List.getElem?_eq_getElem hi,F5 hi];rfl
   rw[e,show m.length-(i+1)=k by omega];exact hst
  ·refine AW.exit ?_;try simp
   have:i=m.length:=by omega
   subst this;rw[Nat.sub_self,List.take_length]at g2;exact⟨bs,g2.full⟩
 rintro⟨M,bs⟩ ⟨g1,g2⟩;simp only at g1 g2;(repeat refine AW.seq_k fun K hK=>?_);refine AW.rg ?_;simp;try (refine hK _ rfl ?_;clear hK K)
 refine AW.ret (Bz rfl ?_ ⟨B,bs,rfl,g1,g2⟩);exact g1.ones (l:=[]) g2 (by simp)
end Go.Av
end
section
namespace Go.Av
open Go.Proofs
def Be {α:Type} (f:Nat→α→Option α):Nat→α→Option α
 |0,s=>some s
 |n+1,s=>(Be f n s).bind (f n)
theorem D9 {α:Type} (f:Nat→α→Option α) (n:Nat) (s:α):Be f (n+1) s=(Be f n s).bind (f n):=rfl
theorem Rf {α:Type} {f:Nat→α→Option α} {n:Nat} {s:α} (h:Be f n s=none):∀k,Be f (n+k) s=none
 |0=>h
 |k+1=>by rw[←Nat.add_assoc,D9,Rf h k];rfl
theorem Yo {α:Type} {f:Nat→α→Option α} {n m:Nat} {s:α} (h:Be f n s=none) (hm:n≤m):Be f m s=none:=by
 have:=Rf h (m-n)
 rwa [Nat.add_sub_cancel' hm]at this
def Dr (r:List Rat) (i:Nat):Rat:=r.getD i 0
def Jb (M:List (List Rat)) (i j:Nat):Rat:=Dr (Am M i) j
def Ci (M:List (List Rat)):List (List RR):=M.map fun r=>r.map Bj
def Dx (M:List (List Rat)):Prop:=∀r∈M,∀q∈r,B1 q
def De {α:Type} (l:List (List α)) (i j:Nat):List (List α):=(l.set i (Am l j)).set j (Am l i)
def Hu (op:Rat→Nat→Option Rat) (k:Nat) (row:List Rat):Option (List Rat):=(op (Dr row k) k).map (row.set k)
def Co (d:Rat):Nat→List Rat→Option (List Rat):=Hu fun q _=>Gh q d
def Uu (a f b:Rat):Option Rat:=(Eb b f).bind (Dh a)
def Fj (by_:List Rat) (f:Rat):Nat→List Rat→Option (List Rat):=Hu fun q k=>Uu q f (Dr by_ k)
def Cd (r j i:Nat) (M:List (List Rat)):Option (List (List Rat)) :=
 if i=r∨Jb M i j=0 then some M else (Be (Fj (Am M r) (Jb M i j)) (Am M i).length (Am M i)).map (M.set i)
def J8 (M:List (List Rat)) (j r:Nat):Option (List (List Rat)) :=
 (Be (Co (Jb M r j)) (Am M r).length (Am M r)).bind fun row=>Be (Cd r j) M.length (M.set r row)
def Z8 (M:List (List Rat)) (j r:Nat):Option Nat:=(List.range M.length).find? fun i=>decide (r≤i)&&!decide (Jb M i j=0)
def C7 (j:Nat) (z:List (List Rat) × List Nat):Option (List (List Rat) × List Nat) :=
 match Z8 z.1 j z.2.length with
 |none=>some z
 |some i=>(J8 (De z.1 i z.2.length) j z.2.length).map fun M=>(M,z.2++[j])
def F6 (M:List (List Rat)):Option (List (List Rat) × List Nat):=Be C7 (Am M 0).length (M,[])
/-! ### The numbers in memory -/
theorem Bh (M:List (List Rat)):(Ci M).length=M.length:=by simp[Ci]
theorem Cb (M:List (List Rat)) (i:Nat):Am (Ci M) i=(Am M i).map Bj:=by
 unfold Am Ci;rw[List.getD_eq_getElem?_getD,List.getD_eq_getElem?_getD,List.getElem?_map];cases M[i]?<;>rfl
theorem Jd {r:List Rat} {i:Nat} (h:i<r.length):rr (r.map Bj) i=Bj (Dr r i):=by
 unfold rr Dr;rw[List.getD_eq_getElem?_getD,List.getD_eq_getElem?_getD,List.getElem?_map,List.getElem?_eq_getElem h];rfl
theorem Nd (M:List (List Rat)) (i:Nat) (r:List Rat):Ci (M.set i r)=(Ci M).set i (r.map Bj):=by simp[Ci,List.map_set]
theorem Yc (M:List (List Rat)) (i j:Nat):Ci (De M i j)=De (Ci M) i j:=by
 unfold De;rw[Nd,Nd,Cb,Cb]
theorem Dx.at {M:List (List Rat)} (h:Dx M) {i j:Nat} (hj:j<(Am M i).length):B1 (Jb M i j):=by
 unfold Jb Dr;have hi:i<M.length:=by
  rcases Nat.lt_or_ge i M.length with h|h
  ·exact h
  ·unfold Am at hj;rw[List.getD_eq_getElem?_getD,List.getElem?_eq_none h]at hj;simp at hj
 rw[List.getD_eq_getElem?_getD,List.getElem?_eq_getElem hj];refine h (Am M i) ?_ _ (List.getElem_mem hj);rw[F5 hi];exact List.getElem_mem hi
theorem Dx.set {M:List (List Rat)} (h:Dx M) (i:Nat) {r:List Rat} (hr:∀q∈r,B1 q):Dx (M.set i r):=by
 intro x hx q hq;rcases List.mem_or_eq_of_mem_set hx with h1 | rfl
 ·exact h x h1 q hq
 ·exact hr q hq
theorem Dx.row {M:List (List Rat)} (h:Dx M) (i:Nat):∀q∈Am M i,B1 q:=by
 intro q hq;unfold Am at hq;rw[List.getD_eq_getElem?_getD]at hq;cases hm:M[i]? with
 |none=>rw[hm]at hq;cases hq
 |some r=>rw[hm]at hq;exact h r (List.mem_of_getElem? hm) q hq
theorem Yx {r:List Rat} (h:∀q∈r,B1 q) (k:Nat) {x:Rat} (hx:B1 x):∀q∈r.set k x,B1 q:=by
 intro q hq;rcases List.mem_or_eq_of_mem_set hq with h1 | rfl
 ·exact h q h1
 ·exact hx
theorem Dx.swap {M:List (List Rat)} (h:Dx M) (i j:Nat):Dx (De M i j):=(h.set i (h.row j)).set j (h.row i)
def Jl {α:Type} (M:List (List α)) (w:Nat):Prop:=∀i,i<M.length→(Am M i).length=w
theorem Jl.set {α:Type} {M:List (List α)} {w:Nat} (h:Jl M w) {i:Nat} {r:List α} (hr:r.length=w):Jl (M.set i r) w:=by
 intro k hk;have hk':k<M.length:=by simpa using hk
 by_cases hi:i<M.length
 ·rw[Hf hi];split
  ·exact hr
  ·exact h k hk'
 ·rw[List.set_eq_of_length_le (by omega)];exact h k hk'
theorem Jl.swap {α:Type} {M:List (List α)} {w:Nat} (h:Jl M w) {i j:Nat} (hi:i<M.length) (hj:j<M.length):Jl (De M i j) w:=(h.set (h j hj)).set (h i hi)
theorem I4 {α:Type} (M:List (List α)) (i j:Nat):(De M i j).length=M.length:=by simp[De]
theorem Qcj {M:List (List Rat)} {w:Nat} (h:Jl M w):Jl (Ci M) w:=by
 intro i hi;rw[Cb,List.length_map];exact h i (by simpa[Ci]using hi)
theorem Vx (M:List (List Rat)):Zc (Ci M):=by
 intro r hr x hx;obtain⟨s,_,rfl⟩:=List.mem_map.1 hr;obtain⟨q,_,rfl⟩:=List.mem_map.1 hx;exact Gf q
theorem Zc.set {M:List (List RR)} (h:Zc M) (i:Nat) {r:List RR} (hr:∀x∈r,x.Lb):Zc (M.set i r):=by
 intro x hx q hq;rcases List.mem_or_eq_of_mem_set hx with h1 | rfl
 ·exact h x h1 q hq
 ·exact hr q hq
theorem Qn0 {r:List RR} (h:∀x∈r,x.Lb) (k:Nat) {y:RR} (hy:y.Lb):∀x∈r.set k y,x.Lb:=by
 intro x hx;rcases List.mem_or_eq_of_mem_set hx with h1 | rfl
 ·exact h x h1
 ·exact hy
theorem Zc.swap {M:List (List RR)} (h:Zc M) (i j:Nat):Zc (De M i j):=(h.set i (h.row j)).set j (h.row i)
def Th (e:Int) (rows:List (List RR)) (X:Option (List (List Rat))):Prop :=
 match X with
 |some M=>e=0∧rows=Ci M∧Dx M
 |none=>e=2
theorem Qhe {op:Rat→Nat→Option Rat} (hop:∀q k x,op q k=some x→B1 x) {X:Option (List (List Rat))} {n w r k:Nat} {e e':Int} {rows:List (List RR)} {y:RR} (hn:rows.length=n) (hr:r<n) (hd:Jl rows w) (hk:k<w)
  {Z:Option (List (List Rat) × List Rat)} (hZ:X=Z.map fun z=>z.1.set r z.2) (hM:Th e rows X) (h1:e≠0→e'=e) (h2:e=0→match op (rr (Am rows r) k).q k with | some z=>e'=0∧y=Bj z | none=>e'=2) :
  Th e' (rows.set r ((Am rows r).set k y)) (Z.bind fun z=>(Hu op k z.2).map fun row=>z.1.set r row):=by
 cases Z with
 |none =>
  subst hZ;have:e=2:=hM;exact(h1 (by omega)).trans this
 |some z =>
  subst hZ;obtain⟨M,row⟩:=z;obtain⟨m1,m2,m3⟩:e=0∧rows=Ci (M.set r row)∧Dx (M.set r row):=hM;have hMl:M.length=n:=by rw[m2]at hn;simpa[Ci]using hn
  have hrow:Am rows r=row.map Bj:=by rw[m2,Cb,Hf (by omega),if_pos rfl]
  have hkr:k<row.length:=by
   have:=hd r (by omega);rw[hrow,List.length_map]at this;omega
  have hq:(rr (Am rows r) k).q=Dr row k:=by rw[hrow,Jd hkr,Gm]
  have h2:=h2 m1;rw[hq]at h2;show Th e' _ ((Hu op k row).map fun row=>M.set r row)
  unfold Hu;cases ho:op (Dr row k) k with
  |none=>rw[ho]at h2;exact h2
  |some z =>
   rw[ho]at h2;obtain⟨e1,e2⟩:=h2;refine⟨e1,?_,?_⟩
   ·rw[e2,hrow,m2,Nd,Nd,List.set_set,List.map_set]
   ·have:=m3.set r (r:=row.set k z) (Yx (by have:=m3.row r;rwa [Hf (by omega),if_pos rfl]at this) k (hop _ _ _ ho))
    rwa [List.set_set]at this
theorem Lz {q:Rat}:Qcr q=0↔q=0:=by
 unfold Qcr;constructor
 ·intro h;split at h
  ·cases h
  ·split at h
   ·rename_i h2;exact Rat.num_eq_zero.1 h2
   ·cases h
 ·rintro rfl;rfl
def Qav (rows:List (List RR)) (j r:Nat):Option Nat:=(List.range rows.length).find? fun i=>decide (r≤i)&&!decide (Dd (rr (Am rows i) j)=0)
theorem Rr {α:Type} {p q:α→Bool}:∀{l:List α},(∀x∈l,p x=q x)→l.find? p=l.find? q
 |[],_=>rfl
 |a::l,h=>by
  rw[List.find?_cons,List.find?_cons,h a (by simp),Rr fun x hx=>h x (by simp[hx])]
theorem Qgx {M:List (List Rat)} (hg:Dx M) {w j:Nat} (hd:Jl M w) (hj:j<w) (r:Nat):Qav (Ci M) j r=Z8 M j r:=by
 unfold Qav Z8;rw[Bh];refine Rr ?_;intro i hi;have hi':i<M.length:=List.mem_range.1 hi;have hl:j<(Am M i).length:=by rw[hd i hi'];exact hj
 rw[Cb,Jd hl,show Dr (Am M i) j=Jb M i j from rfl,Nw (hg.at hl)]
 congr 2
 simp only[Lz]
theorem Qa1 {n:Nat} {p:Nat→Bool} {i:Nat} (h:(List.range n).find? p=some i):i<n∧p i=true∧∀k,k<i→p k=false:=by
 rw[List.find?_range_eq_some]at h;exact⟨List.mem_range.1 h.2.1,h.1,fun k hk=>by simpa using h.2.2 k hk⟩
end Go.Av
end
section
namespace Go.Av
open Go.Proofs
section
variable {P:Program} {av:Nat→Prop} {f:FuncId} {args:List AV} {m:Aa} {k:AV→Aa→Prop}
def Aa.only (m:Aa) (l:List Nat):Aa:=fun b=>if b∈l then m b else none
def Aa.back (m:Aa) (l:List Nat) (g:Aa):Aa:=fun b=>match g b with
 |some x=>some x
 |none=>if b∈l then none else m b
theorem Bt {l:List Nat} {b:Nat} (h:b∈l):m.only l b=m b:=if_pos h
theorem Bq {l:List Nat} {b:Nat} (h:b ∉ l):m.only l b=none:=if_neg h
theorem Tv {l:List Nat} {g:Aa} {b:Nat} {x:Ep} (h:g b=some x):m.back l g b=some x:=by unfold Aa.back;rw[h]
theorem Hb {l:List Nat} {g:Aa} {b:Nat} (h:g b=none) (hb:b ∉ l):m.back l g b=m b:=by unfold Aa.back;rw[h];exact if_neg hb
theorem Qcf {l:List Nat} {g:Aa} {b:Nat} (hb:b∈l):m.back l g b=g b:=by
 unfold Aa.back;cases h:g b with
 |none=>exact if_pos hb
 |some x=>rfl
theorem Ac.hand {R:AV→Aa→Prop} (l:List Nat) (hl:∀b∈l,¬av b) (h:Aj P f args (m.only l) R) (hk:∀v g,R v g→(∀b,g b≠none→b∈l∨(m b=none∧¬av b))→k v (m.back l g)):Ac P av f args m k:=by
 refine .inl ⟨m.only l,R,fun c y hy=>?_,h,?_⟩
 ·by_cases hc:c∈l
  ·rw[Bt hc]at hy;exact⟨hy,hl c hc⟩
  ·rw[Bq hc]at hy;cases hy
 ·intro v g hr hf;have e:D8 m (m.only l) g=m.back l g:=by
   funext c
   unfold D8 Aa.back;cases g c with
   |some x=>rfl
   |none =>
    by_cases hc:c∈l
    ·rw[Bt hc,if_pos hc];cases hm:m c<;>rfl
    ·rw[Bq hc,if_neg hc]
  rw[e];refine hk v g hr fun b hb=>?_;rcases hf b hb with h1 | h1
  ·by_cases hc:b∈l
   ·exact .inl hc
   ·exact absurd (Bq hc) h1
  ·exact .inr h1
end
theorem Eh.only {M:Aa} {B:Nat} {bs:List Nat} {rows:List (List RR)} (h:Eh M B bs rows) {l:List Nat} (hl:∀b,b=B∨b∈bs→b∈l):Eh (M.only l) B bs rows :=
 ⟨by rw[Bt (hl B (.inl rfl))];exact h.top,h.len,fun i hi=>by rw[Bt (hl _ (.inr (Er (by rw[h.len];exact hi))))];exact h.row i hi,h.nd,h.nB⟩
theorem Z7 (M:Aa) (l:List Nat):Dn (M.only l) l:=by
 intro b hb;rcases Classical.em (b∈l)with h | h
 ·exact h
 ·exact absurd (Bq h) hb
theorem Eh.back {M g:Aa} {B:Nat} {bs:List Nat} {rows:List (List RR)} (h:Eh g B bs rows) (l:List Nat):Eh (M.back l g) B bs rows :=
 ⟨Tv h.top,h.len,fun i hi=>Tv (h.row i hi),h.nd,h.nB⟩
theorem Qeq {M:Aa} {l:List Nat} (h:Dn M l):M.only l=M:=by
 funext b
 by_cases hb:b∈l
 ·exact Bt hb
 ·rw[Bq hb,h.none hb]
def E9 (bs:List Nat) (i r:Nat):List Nat:=(bs.set i (nb bs r)).set r (nb bs i)
theorem Qfi {bs:List Nat} {i:Nat} (hi:i<bs.length) (b k:Nat):nb (bs.set i b) k=if k=i then b else nb bs k:=by
 unfold nb;rw[List.getD_eq_getElem?_getD,List.getElem?_set];by_cases h:i=k
 ·subst h;simp[hi]
 ·rw[if_neg h,if_neg (Ne.symm h),←List.getD_eq_getElem?_getD]
theorem Hq {bs:List Nat} {i r:Nat} (hi:i<bs.length) (hr:r<bs.length) (k:Nat):nb (E9 bs i r) k=if k=r then nb bs i else if k=i then nb bs r else nb bs k:=by
 unfold E9;rw[Qfi (by simpa using hr),Qfi hi]
theorem Kw {α:Type} {rows:List (List α)} {i r:Nat} (hi:i<rows.length) (hr:r<rows.length) (k:Nat):Am (De rows i r) k=if k=r then Am rows i else if k=i then Am rows r else Am rows k:=by
 unfold De;rw[Hf (by simpa using hr),Hf hi]
theorem K4 {bs:List Nat} {i r:Nat} (hi:i<bs.length) (hr:r<bs.length) (b:Nat):b∈E9 bs i r↔b∈bs:=by
 have hl:(E9 bs i r).length=bs.length:=by simp[E9]
 constructor
 ·intro h;obtain⟨k,hk,e⟩:=List.mem_iff_getElem.1 h;rw[←e,←Ii hk,Hq hi hr];rw[hl]at hk;split
  ·exact Er hi
  ·split
   ·exact Er hr
   ·exact Er hk
 ·intro h;obtain⟨k,hk,e⟩:=List.mem_iff_getElem.1 h;rw[←e,←Ii hk];have key:∀k',k'<bs.length→nb (E9 bs i r) k'∈E9 bs i r:=fun k' h'=>Er (by rw[hl];exact h');by_cases h1:k=i
  ·have:=key r hr;rw[Hq hi hr,if_pos rfl]at this;rw[h1];exact this
  ·by_cases h2:k=r
   ·have:=key i hi;rw[Hq hi hr]at this;rw[h2];by_cases h3:i=r
    ·rw[if_pos h3]at this;rw[←h3];rw[←h3]at this;exact this
    ·rw[if_neg h3,if_pos rfl]at this;exact this
   ·have:=key k hk
    rwa [Hq hi hr,if_neg h2,if_neg h1]at this
theorem Qhx {bs:List Nat} {i r:Nat} (hi:i<bs.length) (hr:r<bs.length) (h:bs.Nodup):(E9 bs i r).Nodup:=by
 have hl:(E9 bs i r).length=bs.length:=by simp[E9]
 unfold List.Nodup;rw[List.pairwise_iff_getElem];intro x y hx hy hxy;rw[←Ii hx,←Ii hy,Hq hi hr,Hq hi hr];rw[hl]at hy hx;intro e;have inj:∀{a b},a<bs.length→b<bs.length→nb bs a=nb bs b→a=b:=fun ha hb=>Qhn h ha hb;split at e<;>split at e<;>(try split at e)<;>(try split at e)<;>have:=inj (by omega) (by omega) e<;>omega
theorem Qd4 {bs:List Nat} {rows:List (List RR)} (h:bs.length=rows.length) {i r:Nat} (hi:i<rows.length) (hr:r<rows.length) :
  ((Gj bs rows).set i (.osl (nb bs r) 4 0 (Am rows r).length)).set r (.osl (nb bs i) 4 0 (Am rows i).length)=Gj (E9 bs i r) (De rows i r):=by
 have hl:(E9 bs i r).length=(De rows i r).length:=by simp[E9,De,h]
 have h0:(De rows i r).length=rows.length:=I4 _ _ _;refine List.ext_getElem? fun k=>?_;by_cases hk:k<rows.length
 ·rw[hdrs_get? hl (by rw[h0];exact hk),Hq (by omega) (by omega),Kw hi hr,List.getElem?_set,List.getElem?_set,hdrs_get? h hk];have e:=Cs h;simp only[List.length_set,e,hi,hr,if_true];by_cases h1:r=k
  ·subst h1;simp
  ·rw[if_neg h1,if_neg (Ne.symm h1),if_neg (Ne.symm h1)];by_cases h2:i=k
   ·subst h2;simp
   ·rw[if_neg h2,if_neg (Ne.symm h2),if_neg (Ne.symm h2)]
 ·rw[List.getElem?_eq_none (by simp[Cs h];omega),List.getElem?_eq_none (by rw[Cs hl,h0];omega)]
theorem Eh.swap {M:Aa} {B:Nat} {bs:List Nat} {rows:List (List RR)} (h:Eh M B bs rows) {i r:Nat} (hi:i<rows.length) (hr:r<rows.length) :
  Eh (M.set B ⟨51,1,((Gj bs rows).set i (.osl (nb bs r) 4 0 (Am rows r).length)).set r (.osl (nb bs i) 4 0 (Am rows i).length)⟩) B (E9 bs i r) (De rows i r):=by
 have h0:(De rows i r).length=rows.length:=I4 _ _ _;have hi':i<bs.length:=by rw[h.len];exact hi
 have hr':r<bs.length:=by rw[h.len];exact hr
 refine⟨by rw[Qd4 h.len hi hr];simp,by rw[h0,←h.len];simp[E9],fun k hk=>?_,Qhx hi' hr' h.nd,fun hm=>h.nB ((K4 hi' hr' B).1 hm)⟩;rw[h0]at hk;rw[Hq hi' hr',Kw hi hr];have key:∀k,k<rows.length→(M.set B ⟨51,1,((Gj bs rows).set i (.osl (nb bs r) 4 0 (Am rows r).length)).set r (.osl (nb bs i) 4 0 (Am rows i).length)⟩) (nb bs k)=some ⟨44,4,Cm (Am rows k)⟩:=fun k hk=>by
  simp only[A1];rw[if_neg (h.ne hk)];exact h.row k hk
 split
 ·exact key i hi
 ·split
  ·exact key r hr
  ·exact key k hk
attribute [simp high] rrs_get?
theorem Dn.set {M:Aa} {l:List Nat} (h:Dn M l) {b:Nat} (hb:b∈l) (x:Ep):Dn (M.set b x) l:=by
 intro c hc;simp only[A1]at hc;by_cases e:c=b
 ·rw[e];exact hb
 ·rw[if_neg e]at hc;exact h c hc
theorem Dn.sub {M:Aa} {l l':List Nat} (h:Dn M l) (hs:∀b∈l,b∈l'):Dn M l':=fun c hc=>hs c (h c hc)
theorem Qep {rows:List (List RR)} {j r:Nat} (h:∀k,r≤k→k<rows.length→Dd (rr (Am rows k) j)=0):Qav rows j r=none:=by
 unfold Qav;rw[List.find?_eq_none];intro k hk;have hk:=List.mem_range.1 hk;by_cases hr:r≤k
 ·simp[h k hr hk]
 ·simp[hr]
theorem Qef {rows:List (List RR)} {j r i:Nat} (h:∀k,r≤k→k<i→Dd (rr (Am rows k) j)=0) (hr:r≤i) (hi:i<rows.length) (hs:¬Dd (rr (Am rows i) j)=0):Qav rows j r=some i:=by
 unfold Qav;rw[List.find?_range_eq_some];refine⟨by simp[hr,hs],List.mem_range.2 hi,fun k hk=>?_⟩;by_cases hrk:r≤k
 ·simp[h k hrk hk]
 ·simp[hrk]
def Vl (M:Aa) (B:Nat) (bs:List Nat) (rows:List (List RR)) (j r:Nat) (v:AV) (M':Aa):Prop :=
 match Qav rows j r with
 |none=>v=.tup [.bool false,.bool false]∧M'=M
 |some i=>v=.tup [.bool true,.bool (decide (i≠r))]∧Eh M' B (E9 bs i r) (De rows i r)∧Dn M' (B::bs)
theorem Qax (M:Aa) (B:Nat) (bs:List Nat) (rows:List (List RR)) (hM:Eh M B bs rows) (hO:Dn M (B::bs)) (hlb:Zc rows) (w j r:Nat) (hd:Jl rows w) (hj:j<w) (h1:rows.length<2^40) (h2:w<2^40) (h3:r<2^40) :
  Aj Tryz.prog 144 [.osl B 1 0 rows.length,.int .i64 j,.int .i64 r] M (Vl M B bs rows j r):=by
 have hones:=hM.ones (l:=[]) hO (by simp);refine Ae Tryz.func144 rfl rfl 42 rfl (Nat.le_of_ble_eq_true rfl) ?_;(repeat refine AW.seq_k fun K hK=>?_);refine AW.rg ?_;simp[Ak];try (refine hK _ rfl ?_;clear hK K)
 refine AW.scope (AW.seq (AW.label ?_));intro _;refine AW.seq_ex (ι:=Unit) (fun _=>[]) (fun _=>M) (fun _=>∀k,r≤k→k<rows.length→Dd (rr (Am rows k) j)=0) ?_ ?_
 ·(repeat refine AW.seq_k fun K hK=>?_);refine AW.rg ?_;simp;try (refine hK _ rfl ?_;clear hK K)
  refine AW.block (AW.loopS (ι:=Nat) (fun i=>[(0,.osl B 1 0 rows.length),(1,.int .i64 j),(2,.int .i64 r),(8,.int .i64 (i:Nat))]) (fun _=>M) (fun i=>r≤i∧∀k,r≤k→k<i→Dd (rr (Am rows k) j)=0) (fun i=>rows.length-i) r ⟨by omega,by omega⟩ rfl (by simp) ?_);rintro i ⟨g1,g2⟩;(repeat refine AW.seq_k fun K hK=>?_);refine AW.rg ?_;simp;try (refine hK _ rfl ?_;clear hK K)
  (repeat refine AW.seq ?_);refine AW.cs (fun hi=>?_) (fun hi=>?_) rfl<;>(try simp at hi)
  ·refine AW.skip ?_;try simp
   refine hK _ rfl ?_;clear hK K;have w1:=Aq (i+1) (by omega);have hri:r<rows.length:=by omega
   have hwi:=hd i hi;refine AW.seq_ex (ι:=Unit) (fun _=>[(0,.osl B 1 0 rows.length),(1,.int .i64 j),(2,.int .i64 r),(8,.int .i64 (i:Nat))]) (fun _=>M) (fun _=>Dd (rr (Am rows i) j)=0) ?_ ?_
   ·(repeat refine AW.seq ?_);refine AW.block ?_;have hs:=L5 (rr (Am rows i) j) (Ll (hlb.row i) j);refine AW.seq_ex (ι:=Unit) (fun _=>[(0,.osl B 1 0 rows.length),(1,.int .i64 j),(2,.int .i64 r),(8,.int .i64 (i:Nat))]) (fun _=>M) (fun _=>¬Dd (rr (Am rows i) j)=0) ?_ ?_
    ·(repeat refine AW.seq_k fun K hK=>?_);refine AW.rg ?_;simp[hi,hM.top,↓hM.get hi,hM.row i hi,hwi,hj];try (refine hK _ rfl ?_;clear hK K)
     refine Ac.val hs ?_;simp;refine hK _ rfl ?_;clear hK K;(repeat refine AW.seq ?_);refine AW.cs (fun h0=>?_) (fun h0=>?_) rfl<;>(try simp at h0)
     ·refine AW.exit ?_;try simp
      exact h0
     ·refine AW.skip ?_;try simp
      exact h0
    rintro _ h0;(repeat refine AW.seq_k fun K hK=>?_);refine AW.rdA B [0,1,2,3,4,5,6,7,8,9,10,11,12,13,14,15] C8 (by simp[hi,hri,hM.top,↓hM.get hi,↓hM.get hri,Cs hM.len]) ?_;simp[hi,hri,hM.top,↓hM.get hi,↓hM.get hri,Cs hM.len];try (refine hK _ rfl ?_;clear hK K)
    (repeat refine AW.seq_k fun K hK=>?_);refine AW.rg ?_;simp;try (refine hK _ rfl ?_;clear hK K)
    have hO':Dn (M.set B ⟨51,1,((Gj bs rows).set i (.osl (nb bs r) 4 0 (Am rows r).length)).set r (.osl (nb bs i) 4 0 (Am rows i).length)⟩) (B::bs):=hO.set (by simp) _;have hb:∀b,b∈B::E9 bs i r↔b∈B::bs:=fun b=>by simp[K4 (bs:=bs) (i:=i) (r:=r) (by rw[hM.len];exact hi) (by rw[hM.len];exact hri) b]
    refine AW.ret (Bz rfl ?_ ?_)
    ·exact(hM.swap hi hri).ones (l:=[]) (hO'.sub fun b h=>(hb b).2 h) (by simp)
    ·unfold Vl;rw[Qef g2 g1 hi h0];refine⟨?_,hM.swap hi hri,hO'⟩;by_cases e:i=r
     ·simp[e]
     ·simp[e]
   ·rintro _ h0;(repeat refine AW.seq_k fun K hK=>?_);refine AW.rg ?_;simp[-Int.natCast_add,w1];try (refine hK _ rfl ?_;clear hK K)
    refine⟨⟨by omega,fun k hk1 hk2=>?_⟩,by omega⟩;rcases Nat.lt_succ_iff_lt_or_eq.1 hk2 with h | rfl
    ·exact g2 k hk1 h
    ·exact h0
  ·refine AW.exit ?_;try simp
   exact fun k a b=>g2 k a (by omega)
 rintro _ hno;(repeat refine AW.seq_k fun K hK=>?_);refine AW.rg ?_;simp;try (refine hK _ rfl ?_;clear hK K)
 refine AW.ret (Bz rfl hones ?_);unfold Vl;rw[Qep hno];exact⟨rfl,rfl⟩
end Go.Av
end
section
namespace Go.Av
open Go.Proofs
theorem Bo.sub {m m':Aa} (h:∀b x,m' b=some x→m b=some x∧∀v∈x.l,v.cells.all AV.one=true):Bo m m':=by
 refine⟨fun c y hy=>⟨y,(h c y hy).1,rfl,rfl,rfl,fun k v v' q1 q2=>?_⟩⟩;rw[q1]at q2;cases q2;exact⟨.same _,(h c y hy).2 v (List.mem_of_getElem? q1)⟩
theorem Bo.drop {m:Aa} {b:Nat} {x:Ep} (hb:m b=none) (h1:∀c y,m c=some y→∀v∈y.l,v.cells.all AV.one=true):Bo (m.set b x) m :=
 Bo.sub fun c y hy=>⟨by
  simp only[A1];rw[if_neg (by rintro rfl;rw[hb]at hy;cases hy)];exact hy,h1 c y hy⟩
theorem Kr {M:Aa} {b z:Nat} {e:TypeId} {cs:List AV} (hb:M b=none):Bv (M.set b ⟨e,z,[.agg cs]⟩) M (.ptr b z 0 0) (.rptr cs) :=
 Bv.ptr b z 0 0 ⟨e,z,[.agg cs]⟩ (.agg cs) (Aa.set_same _ _ _) hb rfl rfl
section
variable {av:Nat→Prop} {m:Aa} {k:AV→Aa→Prop} {c:Nat} {x:AV} {e:Int} {a b:RR}
theorem Qgt (hc:m c=some ⟨118,1,[x]⟩) (hv:¬av c) (hx:F8 x e) (ha:a.Lb) (hb:b.Lb) (h:e=0→a.ok=true∧b.ok=true) (hk:∀x',F8 x' (C0 e a (Dh a.q b.q)).1→k (C0 e a (Dh a.q b.q)).2.av (m.set c ⟨118,1,[x']⟩)):Ac Tryz.prog av 146 [.ptr c 1 0 0,a.av,b.av] m k :=
 Ac.grant (R:=fun v y=>v=(C0 e a (Dh a.q b.q)).2.av∧∃x',F8 x' (C0 e a (Dh a.q b.q)).1∧y=⟨118,1,[x']⟩) c _ hc hv ((Qc4 c x e hx a b ha hb h).mono fun v m ⟨h1,x',h2,h3⟩=>⟨_,⟨h1,x',h2,rfl⟩,h3⟩) (by rintro _ _ ⟨rfl,x',hx',rfl⟩;exact hk x' hx')
theorem Qo4 (hc:m c=some ⟨118,1,[x]⟩) (hv:¬av c) (hx:F8 x e) (ha:a.Lb) (hb:b.Lb) (h:e=0→a.ok=true∧b.ok=true) (hk:∀x',F8 x' (C0 e a (Eb a.q b.q)).1→k (C0 e a (Eb a.q b.q)).2.av (m.set c ⟨118,1,[x']⟩)):Ac Tryz.prog av 111 [.ptr c 1 0 0,a.av,b.av] m k :=
 Ac.grant (R:=fun v y=>v=(C0 e a (Eb a.q b.q)).2.av∧∃x',F8 x' (C0 e a (Eb a.q b.q)).1∧y=⟨118,1,[x']⟩) c _ hc hv ((Qd1 c x e hx a b ha hb h).mono fun v m ⟨h1,x',h2,h3⟩=>⟨_,⟨h1,x',h2,rfl⟩,h3⟩) (by rintro _ _ ⟨rfl,x',hx',rfl⟩;exact hk x' hx')
theorem Qqn (hc:m c=some ⟨118,1,[x]⟩) (hv:¬av c) (hx:F8 x e) (ha:a.Lb) (hb:b.Lb) (h:e=0→a.ok=true∧b.ok=true∧b.q≠0) (hk:∀x',F8 x' (C0 e a (Gh a.q b.q)).1→k (C0 e a (Gh a.q b.q)).2.av (m.set c ⟨118,1,[x']⟩)):Ac Tryz.prog av 145 [.ptr c 1 0 0,a.av,b.av] m k :=
 Ac.grant (R:=fun v y=>v=(C0 e a (Gh a.q b.q)).2.av∧∃x',F8 x' (C0 e a (Gh a.q b.q)).1∧y=⟨118,1,[x']⟩) c _ hc hv ((Qdb c x e hx a b ha hb h).mono fun v m ⟨h1,x',h2,h3⟩=>⟨_,⟨h1,x',h2,rfl⟩,h3⟩) (by rintro _ _ ⟨rfl,x',hx',rfl⟩;exact hk x' hx')
end
theorem Ve {e:Int} {rows:List (List RR)} {Z:Option (List (List Rat))} (h:Th e rows Z) (he:e=0) {i j:Nat} (hj:j<(Am rows i).length):(rr (Am rows i) j).ok=true:=by
 cases Z with
 |none=>have:e=2:=h;omega
 |some M =>
  obtain⟨_,m2,m3⟩:e=0∧rows=Ci M∧Dx M:=h;subst m2;rw[Cb,List.length_map]at hj;rw[Cb,Jd hj];exact Eu (m3.at hj)
theorem Km {e:Int} {a:RR} {q:Option Rat} (h:e≠0):C0 e a q=(e,a):=if_neg h
theorem Qcq {e:Int} {a:RR} {q:Option Rat} (h:e=0):match q with | some z=>(C0 e a q).1=0∧(C0 e a q).2=Bj z | none=>(C0 e a q).1=2:=by
 unfold C0;rw[if_pos h];cases q with
 |none=>rfl
 |some z=>exact⟨rfl,rfl⟩
theorem Ny {e:Int} {a:RR} (h:e=0):C0 e a none=(2,S8):=if_pos h
theorem Kp {e:Int} {a:RR} {z:Rat} (h:e=0):C0 e a (some z)=(0,Bj z):=if_pos h
def Al (l:List Nat):List AV:=l.map fun p=>.int .i64 (p:Nat)
@[simp] theorem Jw (l:List Nat):(Al l).length=l.length:=by simp[Al]
theorem Ce (l:List Nat):∀v∈Al l,v.cells.all AV.one=true:=by
 intro v hv;obtain⟨p,_,rfl⟩:=List.mem_map.1 hv;rfl
theorem Cv (l:List Nat) (p:Nat):Al (l++[p])=Al l++[.int .i64 (p:Nat)]:=by simp[Al]
def U7 (M:Aa) (pv:AV) (pb ps:List Nat):Prop :=
 (ps=[]∧pb=[]∧pv=.nil)∨∃b,pb=[b]∧pv=.osl b 1 0 ps.length∧M b=some ⟨3,1,Al ps⟩
theorem U7.keep {M M':Aa} {pv:AV} {pb ps:List Nat} (h:U7 M pv pb ps) (hm:∀b∈pb,M' b=M b):U7 M' pv pb ps:=by
 rcases h with h|⟨b,h1,h2,h3⟩
 ·exact .inl h
 ·exact .inr ⟨b,h1,h2,by rw[hm b (by simp[h1])];exact h3⟩
theorem U7.len {M:Aa} {pv:AV} {pb ps:List Nat} (h:U7 M pv pb ps) (size bytes:Nat) (e:TypeId) (zero:AV) (fs:List (Nat × Nat × Option Bool)):Jh ⟨size,bytes,.slice e,zero,fs⟩ pv=some (.int .i64 ps.length):=by
 rcases h with⟨rfl,_,rfl⟩|⟨b,_,rfl,_⟩
 ·simp
 ·simp
theorem U7.view {M:Aa} {pv:AV} {pb ps:List Nat} (h:U7 M pv pb ps):Bv M Aa.emp pv (.sl 1 (Al ps)):=by
 rcases h with⟨rfl,_,rfl⟩|⟨b,_,rfl,h⟩
 ·exact .nilsl 1
 ·refine .osl b 1 0 ps.length _ _ h rfl rfl (by simp) (by simp) fun j u u' g1 g2=>?_;simp only[Nat.zero_add]at g1;rw[g1]at g2;cases g2;exact .same _
structure Dg (M:Aa) (c B:Nat) (bs:List Nat) (rows:List (List RR)) (x pv:AV) (pb ps:List Nat):Prop where
 mat:Eh M B bs rows
 cell:M c=some ⟨118,1,[x]⟩
 piv:U7 M pv pb ps
 only:Dn M (c::B::(bs++pb))
 cB:c≠B
 cb:c ∉ bs
 pB:B ∉ pb
 pc:c ∉ pb
 pd:∀b∈pb,b ∉ bs
section
variable {M:Aa} {c B:Nat} {bs:List Nat} {rows:List (List RR)} {x pv:AV} {pb ps:List Nat}
theorem Qb0 {x:AV} {e:Int} (h:F8 x e):x.cells.all AV.one=true:=by unfold F8 at h;rw[h];rfl
theorem Dg.nc (h:Dg M c B bs rows x pv pb ps) {i:Nat} (hi:i<rows.length):nb bs i≠c:=fun e=>h.cb (e ▸ Er (by rw[h.mat.len];exact hi))
theorem Dg.np (h:Dg M c B bs rows x pv pb ps) {i:Nat} (hi:i<rows.length):nb bs i ∉ pb:=fun e=>h.pd _ e (Er (by rw[h.mat.len];exact hi))
theorem Dg.setE (h:Dg M c B bs rows x pv pb ps) (x':AV):Dg (M.set c ⟨118,1,[x']⟩) c B bs rows x' pv pb ps :=
 ⟨h.mat.other h.cB h.cb _,by simp,h.piv.keep fun b hb=>by simp only[A1];rw[if_neg (by rintro rfl;exact h.pc hb)],h.only.set (by simp) _,h.cB,h.cb,h.pB,h.pc,h.pd⟩
theorem Dg.setRow (h:Dg M c B bs rows x pv pb ps) {i:Nat} (hi:i<rows.length) (r:List RR) (hr:r.length=(Am rows i).length):Dg (M.set (nb bs i) ⟨44,4,Cm r⟩) c B bs (rows.set i r) x pv pb ps :=
 ⟨h.mat.setRow hi r hr,by simp only[A1];rw[if_neg (Ne.symm (h.nc hi))];exact h.cell,h.piv.keep fun b hb=>by simp only[A1];rw[if_neg (by rintro rfl;exact h.np hi hb)],
  h.only.set (by simp[Er (show i<bs.length by rw[h.mat.len];exact hi)]) _,h.cB,h.cb,h.pB,h.pc,h.pd⟩
theorem Dg.ones (h:Dg M c B bs rows x pv pb ps) {e:Int} (hx:F8 x e):∀(b:Nat) (y:Ep),M b=some y→∀v∈y.l,v.cells.all AV.one=true:=by
 refine h.mat.ones (l:=c::pb) (h.only.sub fun b hb=>by simp at hb ⊢;rcases hb with h | h | h | h<;>simp[h]) fun b hb y hy=>?_
 rcases List.mem_cons.1 hb with rfl|hb
 ·rw[h.cell]at hy;cases hy;intro v hv;simp at hv;subst hv;exact Qb0 hx
 ·rcases h.piv with⟨_,h1,_⟩|⟨b',h1,_,h3⟩
  ·rw[h1]at hb;cases hb
  ·rw[h1]at hb;simp at hb;subst hb;rw[h3]at hy;cases hy;exact Ce ps
theorem Dg.back (h:Dg M c B bs rows x pv pb ps) {g:Aa} {bs':List Nat} {rows':List (List RR)} (hg:Eh g B bs' rows') (ho:Dn g (B::bs)) (hb:∀b,b∈bs'↔b∈bs):Dg (M.back (B::bs) g) c B bs' rows' x pv pb ps:=by
 have hout:∀b,b ∉ B::bs→(M.back (B::bs) g) b=M b:=fun b hb=>Hb (ho.none hb) hb;refine⟨hg.back _,by rw[hout c (by simp[h.cB,h.cb])];exact h.cell,h.piv.keep fun b hb'=>hout b ?_,fun b hb'=>?_,h.cB,fun hh=>h.cb ((hb _).1 hh),h.pB,h.pc,fun b h1 h2=>h.pd b h1 ((hb _).1 h2)⟩
 ·simp only[List.mem_cons,not_or];exact⟨by rintro rfl;exact h.pB hb',h.pd b hb'⟩
 ·by_cases hm:b∈B::bs
  ·simp only[List.mem_cons,List.mem_append,hb]at hm ⊢;rcases hm with h | h<;>simp[h]
  ·rw[hout b hm]at hb';have:=h.only b hb';simp only[List.mem_cons,List.mem_append,hb]at this ⊢;exact this
theorem Dg.matOnly (h:Dg M c B bs rows x pv pb ps):Eh (M.only (B::bs)) B bs rows∧Dn (M.only (B::bs)) (B::bs) :=
 ⟨h.mat.only fun b hb=>by simpa using hb,Z7 _ _⟩
theorem Dg.fresh (h:Dg M c B bs rows x pv pb ps) {b:Nat} (hb:M b=none):b≠c∧b≠B∧b ∉ bs∧b ∉ pb:=by
 refine⟨(by rintro rfl;rw[h.cell]at hb;cases hb),(by rintro rfl;rw[h.mat.top]at hb;cases hb),fun hm=>?_,fun hm=>?_⟩
 ·obtain⟨i,hi,e⟩:=List.mem_iff_getElem.1 hm;rw[←Ii hi]at e;have:=h.mat.row i (by rw[←h.mat.len];exact hi);rw[e,hb]at this;cases this
 ·rcases h.piv with⟨_,h1,_⟩|⟨b',h1,_,h3⟩
  ·rw[h1]at hm;cases hm
  ·rw[h1]at hm;simp at hm;subst hm;rw[h3]at hb;cases hb
theorem Dg.push0 (h:Dg M c B bs rows x .nil [] []) {b:Nat} (hb:M b=none) (j:Nat):Dg (M.set b ⟨3,1,[.int .i64 (j:Nat)]⟩) c B bs rows x (.osl b 1 0 1) [b] [j]:=by
 obtain⟨f1,f2,f3,_⟩:=h.fresh hb;refine⟨h.mat.other f2 f3 _,by simp only[A1];rw[if_neg (Ne.symm f1)];exact h.cell,.inr ⟨b,rfl,rfl,by simp[Al]⟩,?_,h.cB,h.cb,by simpa using Ne.symm f2,by simpa using Ne.symm f1,by simpa using f3⟩;exact(h.only.sub fun a ha=>by simp at ha ⊢;rcases ha with h | h | h<;>simp[h]).set (by simp) _
theorem Dg.push1 {b0:Nat} (h:Dg M c B bs rows x (.osl b0 1 0 ps.length) [b0] ps) {b:Nat} (hb:(M.del b0) b=none) (j:Nat):Dg ((M.del b0).set b ⟨3,1,Al ps++[.int .i64 (j:Nat)]⟩) c B bs rows x (.osl b 1 0 (ps.length+1)) [b] (ps++[j]):=by
 have hB:B≠b0:=by have:=h.pB;simpa using this
 have hc:c≠b0:=by have:=h.pc;simpa using this
 have hd:b0 ∉ bs:=h.pd b0 (by simp);have hh:Dg (M.del b0) c B bs rows x .nil [] []:=by
  have hdel:∀a,a≠b0→(M.del b0) a=M a:=fun a ha=>if_neg ha;refine⟨⟨by rw[hdel B hB];exact h.mat.top,h.mat.len,fun i hi=>?_,h.mat.nd,h.mat.nB⟩,by rw[hdel c hc];exact h.cell,.inl ⟨rfl,rfl,rfl⟩,fun a ha=>?_,h.cB,h.cb,by simp,by simp,by simp⟩
  ·rw[hdel _ (fun e=>hd (e ▸ Er (by rw[h.mat.len];exact hi)))];exact h.mat.row i hi
  ·have h1:a≠b0:=by
    rintro rfl;exact ha (if_pos rfl)
   rw[hdel a h1]at ha;have:=h.only a ha;simp at this ⊢;rcases this with h | h | h | h
   ·exact .inl h
   ·exact .inr (.inl h)
   ·exact .inr (.inr h)
   ·exact absurd h h1
 obtain⟨f1,f2,f3,_⟩:=hh.fresh hb;refine⟨hh.mat.other f2 f3 _,by simp only[A1];rw[if_neg (Ne.symm f1)];exact hh.cell,.inr ⟨b,rfl,by simp,by simp[Cv]⟩,?_,h.cB,h.cb,by simpa using Ne.symm f2,by simpa using Ne.symm f1,by simpa using f3⟩;exact(hh.only.sub fun a ha=>by simp at ha ⊢;rcases ha with h | h | h<;>simp[h]).set (by simp) _
end
end Go.Av
end
section
namespace Go.Av
open Go.Proofs
theorem Qdf (M:Aa) (l:List Nat):M.back l (M.only l)=M:=by
 funext b
 by_cases hb:b∈l
 ·rw[Qcf hb,Bt hb]
 ·rw[Hb (Bq hb) hb]
def Qf0 (c B:Nat) (X0:List (List Rat)) (v:AV) (M':Aa):Prop :=
 ∃x',M' c=some ⟨118,1,[x']⟩∧(∀b y,M' b=some y→∀v∈y.l,v.cells.all AV.one=true)∧match F6 X0 with
 |none=>F8 x' 2
 |some z=>F8 x' 0∧∃bs' pb,Dg M' c B bs' (Ci z.1) x' v pb z.2
structure Qok where
 X:List (List Rat)
 ps:List Nat
 M:Aa
 bs:List Nat
 pv:AV
 pb:List Nat
 x:AV
structure V8 where
 M:Aa
 rows:List (List RR)
 x:AV
 e:Int
def Quk (X0:List (List Rat)) (c B w j:Nat) (s:Qok):Prop :=
 Be C7 j (X0,[])=some (s.X,s.ps)∧Dx s.X∧Jl s.X w∧s.X.length=X0.length∧s.ps.length≤j∧Dg s.M c B s.bs (Ci s.X) s.x s.pv s.pb s.ps∧F8 s.x 0
def Jj (c B:Nat) (bs:List Nat) (pv:AV) (pb ps:List Nat) (w n:Nat) (Z:Option (List (List Rat))) (s:V8):Prop :=
 Dg s.M c B bs s.rows s.x pv pb ps∧F8 s.x s.e∧Zc s.rows∧Jl s.rows w∧s.rows.length=n∧Th s.e s.rows Z
theorem Jj.row {op:Rat→Nat→Option Rat} (hop:∀q k x,op q k=some x→B1 x) {c B:Nat} {bs:List Nat} {pv:AV} {pb ps:List Nat} {w n:Nat} {Z0:Option (List (List Rat))} {s:V8} (h:Jj c B bs pv pb ps w n Z0 s) {i k:Nat} (hi:i<n) (hk:k<w)
  {Z:Option (List (List Rat) × List Rat)} (hZ:Z0=Z.map fun z=>z.1.set i z.2) {e':Int} {y:RR} {x':AV} (hx:F8 x' e') (hy:y.Lb) (h1:s.e≠0→e'=s.e) (h2:s.e=0→match op (rr (Am s.rows i) k).q k with | some z=>e'=0∧y=Bj z | none=>e'=2) :
  Jj c B bs pv pb ps w n (Z.bind fun z=>(Hu op k z.2).map fun row=>z.1.set i row) ⟨(s.M.set c ⟨118,1,[x']⟩).set (nb bs i) ⟨44,4,Cm ((Am s.rows i).set k y)⟩,s.rows.set i ((Am s.rows i).set k y),x',e'⟩:=by
 obtain⟨g1,g2,g3,g4,g5,g6⟩:=h;exact⟨(g1.setE x').setRow (by omega) _ (by simp),hx,g3.set i (Qn0 (g3.row i) k hy),g4.set (by rw[List.length_set];exact g4 i (by omega)),by simp[g5],Qhe hop g5 hi g4 hk hZ g6 h1 h2⟩
theorem Th.mono {e:Int} {rows:List (List RR)} {Z Z':Option (List (List Rat))} (h:Th e rows Z) (hZ:Z'=Z):Th e rows Z':=hZ ▸ h
theorem Jj.to {c B:Nat} {bs:List Nat} {pv:AV} {pb ps:List Nat} {w n:Nat} {Z Z':Option (List (List Rat))} {s:V8} (h:Jj c B bs pv pb ps w n Z s) (hZ:Z'=Z):Jj c B bs pv pb ps w n Z' s:=hZ ▸ h
theorem Qgk {e:Int} {a b f:RR} {bq fq:Rat} (hb:e=0→b.q=bq∧f.q=fq) {e1:Int} {p:RR} (hp:C0 e b (Eb b.q f.q)=(e1,p)) :
  (e≠0→(C0 e1 a (Dh a.q p.q)).1=e)∧(e=0→match Uu a.q fq bq with | some z=>(C0 e1 a (Dh a.q p.q)).1=0∧(C0 e1 a (Dh a.q p.q)).2=Bj z | none=>(C0 e1 a (Dh a.q p.q)).1=2):=by
 constructor
 ·intro he;rw[Km he]at hp;cases hp;rw[Km he]
 ·intro he;obtain⟨h1,h2⟩:=hb he;unfold Uu;rw[h1,h2]at hp;cases hm:Eb bq fq with
  |none =>
   rw[hm,Ny he]at hp;cases hp;show(C0 2 a _).1=2
   rw[Km (by omega)]
  |some m =>
   rw[hm,Kp he]at hp;cases hp;rw[Gm];exact Qcq rfl
theorem Qkz {e:Int} {b f:RR} (hg:∀z,Eb b.q f.q=some z→B1 z) {e1:Int} {p:RR} (hp:C0 e b (Eb b.q f.q)=(e1,p)) (h1:e1=0):e=0∧p.ok=true:=by
 by_cases he:e=0
 ·refine⟨he,?_⟩;cases hm:Eb b.q f.q with
  |none=>rw[hm,Ny he]at hp;cases hp;omega
  |some m =>
   rw[hm,Kp he]at hp;cases hp;exact Eu (hg m hm)
 ·rw[Km he]at hp;cases hp;exact absurd h1 he
theorem Uo {a f b c:Rat} (h:Uu a f b=some c):B1 c:=by
 unfold Uu at h;cases hm:Eb b f with
 |none=>rw[hm]at h;cases h
 |some m=>rw[hm]at h;exact X3 h
theorem Uj {M:List (List Rat)} {j r i:Nat} (h:Z8 M j r=some i):i<M.length∧r≤i∧Jb M i j≠0:=by
 obtain⟨h1,h2,_⟩:=Qa1 h;simp at h2;exact⟨h1,h2.1,h2.2⟩
theorem V1 (M0:Aa) (c B:Nat) (bs0:List Nat) (X0:List (List Rat)) (x0:AV) (w:Nat) (hR0:Dg M0 c B bs0 (Ci X0) x0 .nil [] []) (hx0:F8 x0 0) (hg0:Dx X0) (hd0:Jl X0 w) (hw:w=(Am X0 0).length) (hn:X0.length<2^40) (hw2:w<2^40) :
  Aj Tryz.prog 101 [.ptr c 1 0 0,.osl B 1 0 X0.length] M0 (Qf0 c B X0):=by
 have hwid:=Sk (Ci X0);have e0:(Am (Ci X0) 0).length=w:=by rw[Cb,List.length_map,hw]
 have hv0:=hR0.mat.view;rw[Bh]at hv0;rw[e0]at hwid;have hq:F6 X0=Be C7 w (X0,[]):=by unfold F6;rw[hw]
 generalize hN:X0.length=n at *;refine Ae Tryz.func101 rfl rfl 129 rfl (Nat.le_of_ble_eq_true rfl) ?_;(repeat refine AW.seq_k fun K hK=>?_);refine AW.rg ?_;simp[Ak];try (refine hK _ rfl ?_;clear hK K)
 refine AW.scope ?_;(repeat refine AW.seq_k fun K hK=>?_);refine AW.rg ?_;simp;try (refine hK _ rfl ?_;clear hK K)
 refine AW.seq (AW.label ?_);intro _;refine AW.seq_ex (ι:=Aa × AV) (fun z=>[(5,z.2)]) (fun z=>z.1) (fun z=>Qf0 c B X0 z.2 z.1) ?_ ?_
 ·(repeat refine AW.seq_k fun K hK=>?_);refine AW.rg ?_;simp;try (refine hK _ rfl ?_;clear hK K)
  refine Ac.borrow [Ba (Ci X0)] (by simpa using hv0) hwid ?_;rintro _ rfl;refine⟨rfl,?_⟩;simp;refine hK _ rfl ?_;clear hK K;refine AW.block (AW.loopS (ι:=Nat × Qok) (fun z=>[(0,.ptr c 1 0 0),(1,.osl B 1 0 n),(5,z.2.pv),(16,.int .i64 w),(17,.int .i64 (z.1:Nat))]) (fun z=>z.2.M) (fun z=>z.1≤w∧Quk X0 c B w z.1 z.2) (fun z=>w-z.1) (0,⟨X0,[],M0,bs0,.nil,[],x0⟩) ⟨by simp,rfl,hg0,hd0,rfl,by simp,hR0,hx0⟩ rfl (by simp) ?_);rintro⟨j,X,ps,M,bs,pv,pb,x⟩ ⟨hjw,i1,i2,i3,i4,i5,i6,i7⟩;simp only at hjw i1 i2 i3 i4 i5 i6 i7;rw[hN]at i4;simp only
  (repeat refine AW.seq_k fun K hK=>?_);refine AW.rg ?_;simp;try (refine hK _ rfl ?_;clear hK K)
  (repeat refine AW.seq ?_);refine AW.cs (fun hj=>?_) (fun hj=>?_) rfl<;>(try simp at hj)
  ·refine AW.skip ?_;try simp
   have w1:=Aq (j+1) (by omega);have hlen:=i6.piv.len;refine AW.seq_ex (ι:=Qok) (fun s=>[(0,.ptr c 1 0 0),(1,.osl B 1 0 n),(5,s.pv),(16,.int .i64 w),(17,.int .i64 (j:Nat))]) (fun s=>s.M) (fun s=>Quk X0 c B w (j+1) s) ?_ ?_
   ·(repeat refine AW.seq ?_);refine AW.block ?_;(repeat refine AW.seq_k fun K hK=>?_);refine AW.rg ?_;simp;try (refine hK _ rfl ?_;clear hK K)
    (repeat refine AW.seq_k fun K hK=>?_);refine AW.rg ?_;simp[hlen];try (refine hK _ rfl ?_;clear hK K)
    have hp:=Qax _ B bs (Ci X) i6.matOnly.1 i6.matOnly.2 (Vx X) w j ps.length (Qcj i3) hj (by rw[Bh];omega) hw2 (by omega);rw[Bh,i4]at hp;(repeat refine AW.seq_k fun K hK=>?_);refine AW.rg ?_;simp;try (refine hK _ rfl ?_;clear hK K)
    refine Ac.hand (B::bs) (by simp) hp ?_;intro v g hv _;unfold Vl at hv;rw[Qgx i2 i3 hj]at hv;have hcol:Be C7 (j+1) (X0,[])=C7 j (X,ps):=by rw[D9,i1];rfl
    cases hpq:Z8 X j ps.length with
    |none =>
     rw[hpq]at hv;obtain⟨rfl,rfl⟩:=hv;rw[Qdf];simp;refine hK _ rfl ?_;clear hK K;(repeat refine AW.seq_k fun K hK=>?_);refine AW.rg ?_;simp;try (refine hK _ rfl ?_;clear hK K)
     refine AW.yes ?_ rfl;refine AW.exit ?_;try simp
     refine⟨⟨X,ps,M,bs,pv,pb,x⟩,⟨?_,i2,i3,by rw[hN];exact i4,by show ps.length≤j+1;omega,i6,i7⟩,by simp⟩;rw[hcol];unfold C7;simp only[hpq]
    |some i =>
     rw[hpq]at hv;obtain⟨rfl,hg1,hg2⟩:=hv;obtain⟨p1,p2,p3⟩:=Uj hpq;rw[i4]at p1;have hr:ps.length<n:=by omega
     have hR1:=i6.back hg1 hg2 (fun b=>K4 (bs:=bs) (i:=i) (r:=ps.length) (by rw[i6.mat.len,Bh,i4];exact p1) (by rw[i6.mat.len,Bh,i4];exact hr) b);rw[←Yc]at hR1;have hcol:Be C7 (j+1) (X0,[])=(J8 (De X i ps.length) j ps.length).map fun M=>(M,ps++[j]):=by rw[hcol];unfold C7;simp only[hpq]
     have hX1:Dx (De X i ps.length):=i2.swap _ _;have hd1:Jl (De X i ps.length) w:=i3.swap (by omega) (by omega);have hn1:(De X i ps.length).length=n:=by rw[I4,i4]
     have hdq:Jb (De X i ps.length) ps.length j≠0:=by
      unfold Jb;rw[Kw (by omega) (by omega),if_pos rfl];exact p3
     generalize De X i ps.length=X1 at *;generalize M.back (B::bs) g=M1 at *;generalize E9 bs i ps.length=bs1 at *;generalize decide (i≠ps.length)=sw;simp;refine hK _ rfl ?_;clear hK K;(repeat refine AW.seq_k fun K hK=>?_);refine AW.rg ?_;simp;try (refine hK _ rfl ?_;clear hK K)
     refine AW.no ?_ rfl;refine AW.skip ?_;try simp
     refine hK _ rfl ?_;clear hK K;have hrl:(Am (Ci X1) ps.length).length=w:=by rw[Cb,List.length_map];exact hd1 _ (by omega)
     have hre:ps.length<(Ci X1).length:=by rw[Bh,hn1];exact hr
     have hde:rr (Am (Ci X1) ps.length) j=Bj (Jb X1 ps.length j):=by rw[Cb,Jd (by rw[hd1 _ (by omega)];exact hj)];rfl
     have hd0:B1 (Jb X1 ps.length j):=hX1.at (by rw[hd1 _ (by omega)];exact hj);(repeat refine AW.seq_k fun K hK=>?_);refine AW.rg ?_;simp[hr,hR1.mat.top,↓hR1.mat.get hre,hR1.mat.row ps.length hre,hrl,hj];try (refine hK _ rfl ?_;clear hK K)
     refine Ah.intro fun b10 hb10=>?_;refine hK _ rfl ?_;clear hK K;have hdlb:(rr (Am (Ci X1) ps.length) j).Lb:=Ll ((Vx X1).row _) j;generalize hrr:ps.length=r at *;generalize hdr:rr (Am (Ci X1) r) j=dr at *;refine AW.turn [(0,.ptr c 1 0 0),(1,.osl B 1 0 n),(5,pv),(16,.int .i64 w),(17,.int .i64 (j:Nat)),(6,.int .i64 (j:Nat)),(7,.int .i64 r),(10,.rptr [.bool dr.n1,An dr.l1,.bool dr.n2,An dr.l2])] M1 (Bo.drop hb10 (hR1.ones i7)) ?_ ?_
     ·simp[Kr hb10]
     generalize hrow0:Am X1 r=row0 at *;generalize hd:Jb X1 r j=d at *;refine AW.seq_ex (ι:=V8) (fun s=>[(0,.ptr c 1 0 0),(1,.osl B 1 0 n),(5,pv),(16,.int .i64 w),(17,.int .i64 (j:Nat)),(6,.int .i64 (j:Nat)),(7,.int .i64 r),(10,.rptr [.bool dr.n1,An dr.l1,.bool dr.n2,An dr.l2])]) (fun s=>s.M) (fun s=>Jj c B bs1 pv pb ps w n ((Be (Co d) w row0).map fun row=>X1.set r row) s) ?_ ?_
     ·(repeat refine AW.seq_k fun K hK=>?_);refine AW.rg ?_;simp[hr,hR1.mat.top,↓hR1.mat.get hre,hrl];try (refine hK _ rfl ?_;clear hK K)
      refine AW.block (AW.loopS (ι:=Nat × V8) (fun z=>[(0,.ptr c 1 0 0),(1,.osl B 1 0 n),(5,pv),(16,.int .i64 w),(17,.int .i64 (j:Nat)),(6,.int .i64 (j:Nat)),(7,.int .i64 r),(10,.rptr [.bool dr.n1,An dr.l1,.bool dr.n2,An dr.l2]),(42,.int .i64 w),(43,.int .i64 (z.1:Nat))]) (fun z=>z.2.M) (fun z=>z.1≤w∧Jj c B bs1 pv pb ps w n ((Be (Co d) z.1 row0).map fun row=>X1.set r row) z.2) (fun z=>w-z.1) (0,⟨M1,Ci X1,x,0⟩) ⟨by simp,hR1,i7,Vx X1,Qcj hd1,by rw[Bh,hn1],?_⟩ rfl (by simp) ?_)
      ·show Th 0 (Ci X1) (some (X1.set r row0))
       rw[←hrow0,F5 (by omega),List.set_getElem_self];exact⟨rfl,rfl,hX1⟩
      rintro⟨k,M,rows,x,e⟩ ⟨g1,g2,g3,g4,g5,g6,g7⟩;simp only at g1 g2 g3 g4 g5 g6 g7;(repeat refine AW.seq_k fun K hK=>?_);refine AW.rg ?_;simp;try (refine hK _ rfl ?_;clear hK K)
      (repeat refine AW.seq ?_);refine AW.cs (fun hk=>?_) (fun hk=>?_) rfl<;>(try simp at hk)
      ·refine AW.skip ?_;try simp
       (repeat refine AW.seq ?_);refine AW.block ?_;(repeat refine AW.seq_k fun K hK=>?_);refine AW.rg ?_;simp;try (refine hK _ rfl ?_;clear hK K)
       have hrr':r<rows.length:=by omega
       have hlr:=g5 r hrr';(repeat refine AW.seq_k fun K hK=>?_);refine AW.rdT [] [10] [] [B,nb bs1 r] [0,1,2,3,4,5,6,7,8,9,10,11,12,13,14,15,16] C8 (by simp[hr,hk,g2.mat.top,↓g2.mat.get hrr',g2.mat.row r hrr',hlr]) (by simp[hr,hk,g2.mat.top,↓g2.mat.get hrr',g2.mat.row r hrr',hlr]) (by simp[hr,hk,g2.mat.top,↓g2.mat.get hrr',g2.mat.row r hrr',hlr]) (by simp[hr,hk,g2.mat.top,↓g2.mat.get hrr',g2.mat.row r hrr',hlr]) (by simp[hr,hk,g2.mat.top,↓g2.mat.get hrr',g2.mat.row r hrr',hlr]) ?_;simp[hr,hk,g2.mat.top,↓g2.mat.get hrr',g2.mat.row r hrr',hlr]
       try (refine hK _ rfl ?_;clear hK K)
       have nB:=Ne.symm g2.cB;have nR:=g2.nc hrr';have n0:=g2.mat.ne hrr';refine Qqn (a:=rr (Am rows r) k) (b:=dr) g2.cell (by simp[nB,Ne.symm nR,g2.cB]) g3 (Ll (g4.row r) k) hdlb (fun he=>⟨Ve g7 he (by rw[hlr];exact hk),by rw[hde];exact Eu hd0,by rw[hde,Gm];exact hdq⟩) ?_;intro x' hx';simp[hr,hk,nR,n0,g2.mat.row r hrr',hlr];have w2:=Aq (k+1) (by omega);(repeat refine AW.seq_k fun K hK=>?_);refine AW.rg ?_;simp[-Int.natCast_add,w2];try (refine hK _ rfl ?_;clear hK K)
       have hs:=Jj.row (op:=fun q _=>Gh q d) (y:=(C0 e (rr (Am rows r) k) (Gh (rr (Am rows r) k).q dr.q)).2) (fun q k x hx=>Wh hdq hx) (s:=⟨M,rows,x,e⟩) ⟨g2,g3,g4,g5,g6,g7⟩ hr hk (Z:=(Be (Co d) k row0).map fun row=>(X1,row)) (by cases Be (Co d) k row0<;>rfl) hx' (Vg (Ll (g4.row r) k)) (fun he=>by rw[Km he]) (fun he=>by
        have:=Qcq (a:=rr (Am rows r) k) (q:=Gh (rr (Am rows r) k).q dr.q) he;rw[hde,Gm]at this ⊢;exact this)
       exact⟨k+1,_,⟨hk,hs.to (by rw[D9];cases Be (Co d) k row0<;>rfl)⟩,by omega,rfl,rfl⟩
      ·refine AW.exit ?_;try simp
       have:k=w:=by omega
       subst this;exact⟨⟨M,rows,x,e⟩,⟨g2,g3,g4,g5,g6,g7⟩,rfl⟩
     rintro⟨M2,rows2,x2,e2⟩ hs2;simp only;refine AW.seq_ex (ι:=V8) (fun s=>[(0,.ptr c 1 0 0),(1,.osl B 1 0 n),(5,pv),(16,.int .i64 w),(17,.int .i64 (j:Nat)),(6,.int .i64 (j:Nat)),(7,.int .i64 r),(10,.rptr [.bool dr.n1,An dr.l1,.bool dr.n2,An dr.l2])]) (fun s=>s.M) (fun s=>Jj c B bs1 pv pb ps w n ((Be (Co d) w row0).bind fun row=>Be (Cd r j) n (X1.set r row)) s) ?_ ?_
     ·(repeat refine AW.seq_k fun K hK=>?_);refine AW.rg ?_;simp;try (refine hK _ rfl ?_;clear hK K)
      refine AW.block (AW.loopS (ι:=Nat × V8) (fun z=>[(0,.ptr c 1 0 0),(1,.osl B 1 0 n),(5,pv),(16,.int .i64 w),(17,.int .i64 (j:Nat)),(6,.int .i64 (j:Nat)),(7,.int .i64 r),(10,.rptr [.bool dr.n1,An dr.l1,.bool dr.n2,An dr.l2]),(64,.int .i64 n),(65,.int .i64 (z.1:Nat))]) (fun z=>z.2.M) (fun z=>z.1≤n∧Jj c B bs1 pv pb ps w n ((Be (Co d) w row0).bind fun row=>Be (Cd r j) z.1 (X1.set r row)) z.2) (fun z=>n-z.1) (0,⟨M2,rows2,x2,e2⟩) ⟨by simp,hs2.to (by cases Be (Co d) w row0<;>rfl)⟩ rfl (by simp) ?_)
      rintro⟨i,M,rows,x,e⟩ ⟨g1,g2,g3,g4,g5,g6,g7⟩;simp only at g1 g2 g3 g4 g5 g6 g7;generalize hZ:((Be (Co d) w row0).bind fun row=>Be (Cd r j) i (X1.set r row))=Z at g7;have hZ1:((Be (Co d) w row0).bind fun row=>Be (Cd r j) (i+1) (X1.set r row))=Z.bind (Cd r j i):=by
       rw[←hZ];cases Be (Co d) w row0<;>rfl
      (repeat refine AW.seq_k fun K hK=>?_);refine AW.rg ?_;simp;try (refine hK _ rfl ?_;clear hK K)
      (repeat refine AW.seq ?_);refine AW.cs (fun hi=>?_) (fun hi=>?_) rfl<;>(try simp at hi)
      ·refine AW.skip ?_;try simp
       have hi':i<rows.length:=by omega
       have hr':r<rows.length:=by omega
       have hli:=g5 i hi';have hlr:=g5 r hr';have w3:=Aq (i+1) (by omega);refine AW.seq_ex (ι:=V8) (fun s=>[(0,.ptr c 1 0 0),(1,.osl B 1 0 n),(5,pv),(16,.int .i64 w),(17,.int .i64 (j:Nat)),(6,.int .i64 (j:Nat)),(7,.int .i64 r),(10,.rptr [.bool dr.n1,An dr.l1,.bool dr.n2,An dr.l2]),(64,.int .i64 n),(65,.int .i64 (i:Nat))]) (fun s=>s.M) (fun s=>Jj c B bs1 pv pb ps w n ((Be (Co d) w row0).bind fun row=>Be (Cd r j) (i+1) (X1.set r row)) s) ?_ ?_
       ·(repeat refine AW.seq ?_);refine AW.block ?_;(repeat refine AW.seq_k fun K hK=>?_);refine AW.rg ?_;simp;try (refine hK _ rfl ?_;clear hK K)
        (repeat refine AW.seq_k fun K hK=>?_);refine AW.rg ?_;simp[hi,g2.mat.top,↓g2.mat.get hi',g2.mat.row i hi',hli,hj];try (refine hK _ rfl ?_;clear hK K)
        refine Ah.intro fun b13 hb13=>?_;refine hK _ rfl ?_;clear hK K;have hflb:(rr (Am rows i) j).Lb:=Ll (g4.row i) j;have hfq:∀X',Z=some X'→rr (Am rows i) j=Bj (Jb X' i j)∧B1 (Jb X' i j):=by
         intro X' hX';subst hX';obtain⟨_,m2,m3⟩:e=0∧rows=Ci X'∧Dx X':=g7;subst m2;have hjl:j<(Am X' i).length:=by rw[Cb,List.length_map]at hli;omega
         exact⟨by rw[Cb,Jd hjl];rfl,m3.at hjl⟩
        have hsg:=L5 _ hflb;generalize hfr:rr (Am rows i) j=fr at *;refine AW.turn [(0,.ptr c 1 0 0),(1,.osl B 1 0 n),(5,pv),(16,.int .i64 w),(17,.int .i64 (j:Nat)),(6,.int .i64 (j:Nat)),(7,.int .i64 r),(10,.rptr [.bool dr.n1,An dr.l1,.bool dr.n2,An dr.l2]),(64,.int .i64 n),(65,.int .i64 (i:Nat)),(12,.int .i64 (i:Nat)),(13,.rptr [.bool fr.n1,An fr.l1,.bool fr.n2,An fr.l2])] M (Bo.drop hb13 (g2.ones g3)) ?_ ?_
        ·simp[Kr hb13]
        have hskip:i=r∨Dd fr=0→((Be (Co d) w row0).bind fun row=>Be (Cd r j) (i+1) (X1.set r row))=Z:=by
         intro h;rw[hZ1];cases Z with
         |none=>rfl
         |some X' =>
          obtain⟨q1,q2⟩:=hfq X' rfl;have:i=r∨Jb X' i j=0:=h.imp id fun h=>by rw[q1,Nw q2]at h;exact Lz.1 h
          exact if_pos this
        refine AW.seq_ex (ι:=Unit) (fun _=>[(0,.ptr c 1 0 0),(1,.osl B 1 0 n),(5,pv),(16,.int .i64 w),(17,.int .i64 (j:Nat)),(6,.int .i64 (j:Nat)),(7,.int .i64 r),(10,.rptr [.bool dr.n1,An dr.l1,.bool dr.n2,An dr.l2]),(64,.int .i64 n),(65,.int .i64 (i:Nat)),(12,.int .i64 (i:Nat)),(13,.rptr [.bool fr.n1,An fr.l1,.bool fr.n2,An fr.l2])]) (fun _=>M) (fun _=>i≠r∧Dd fr≠0) ?_ ?_
        ·by_cases hir:i=r
         ·(repeat refine AW.seq_k fun K hK=>?_);refine AW.rg ?_;simp[hir];try (refine hK _ rfl ?_;clear hK K)
          refine AW.yes ?_ rfl;refine AW.exit ?_;try simp
          exact⟨⟨M,rows,x,e⟩,Jj.to ⟨g2,g3,g4,g5,g6,g7⟩ (hskip (.inl hir)),by simp[hir]⟩
         ·(repeat refine AW.seq_k fun K hK=>?_);refine AW.rg ?_;simp[hir];try (refine hK _ rfl ?_;clear hK K)
          refine Ac.val hsg ?_;simp;refine hK _ rfl ?_;clear hK K;(repeat refine AW.seq ?_);refine AW.cs (fun h0=>?_) (fun h0=>?_) rfl<;>(try simp at h0)
          ·refine AW.exit ?_;try simp
           exact⟨⟨M,rows,x,e⟩,Jj.to ⟨g2,g3,g4,g5,g6,g7⟩ (hskip (.inr h0)),by simp⟩
          ·refine AW.skip ?_;try simp
           exact⟨hir,h0⟩
        rintro _ ⟨h1,h2⟩;have hgo:∀X',Z=some X'→Cd r j i X'=(Be (Fj (Am X' r) (Jb X' i j)) (Am X' i).length (Am X' i)).map (X'.set i):=by
         intro X' hX';obtain⟨q1,q2⟩:=hfq X' hX';refine if_neg ?_;rintro(h | h)
         ·exact h1 h
         ·exact h2 (by rw[q1,Nw q2];exact Lz.2 h)
        clear hskip;have hZl:∀X',Z=some X'→X'.length=n∧∀k,k<n→(Am X' k).length=w:=by
         intro X' hX';subst hX';obtain⟨_,m2,_⟩:e=0∧rows=Ci X'∧Dx X':=g7;subst m2;rw[Bh]at g6;exact⟨g6,fun k hk=>by have:=g5 k (by rw[Bh];omega);rwa [Cb,List.length_map]at this⟩
        have hend:((Be (Co d) w row0).bind fun row=>Be (Cd r j) (i+1) (X1.set r row))=Z.bind fun X'=>(Be (Fj (Am X' r) (Jb X' i j)) w (Am X' i)).map (X'.set i):=by
         rw[hZ1];cases hZ2:Z with
         |none=>rfl
         |some X' =>
          show Cd r j i X'=_
          rw[hgo X' hZ2,(hZl X' hZ2).2 i hi];rfl
        have hbeg:(Z.bind fun X'=>(Be (Fj (Am X' r) (Jb X' i j)) 0 (Am X' i)).map (X'.set i))=Z:=by
         cases hZ2:Z with
         |none=>rfl
         |some X' =>
          have:=(hZl X' hZ2).1;show some (X'.set i (Am X' i))=some X'
          rw[F5 (by omega),List.set_getElem_self]
        (repeat refine AW.seq_k fun K hK=>?_);refine AW.rg ?_;simp[hi,g2.mat.top,↓g2.mat.get hi',hli];try (refine hK _ rfl ?_;clear hK K)
        refine AW.block (AW.loopS (ι:=Nat × V8) (fun z=>[(0,.ptr c 1 0 0),(1,.osl B 1 0 n),(5,pv),(16,.int .i64 w),(17,.int .i64 (j:Nat)),(6,.int .i64 (j:Nat)),(7,.int .i64 r),(10,.rptr [.bool dr.n1,An dr.l1,.bool dr.n2,An dr.l2]),(64,.int .i64 n),(65,.int .i64 (i:Nat)),(12,.int .i64 (i:Nat)),(13,.rptr [.bool fr.n1,An fr.l1,.bool fr.n2,An fr.l2]),(87,.int .i64 w),(88,.int .i64 (z.1:Nat))]) (fun z=>z.2.M) (fun z=>z.1≤w∧Jj c B bs1 pv pb ps w n (Z.bind fun X'=>(Be (Fj (Am X' r) (Jb X' i j)) z.1 (Am X' i)).map (X'.set i)) z.2) (fun z=>w-z.1) (0,⟨M,rows,x,e⟩) ⟨by simp,Jj.to ⟨g2,g3,g4,g5,g6,g7⟩ hbeg⟩ rfl (by simp) ?_)
        clear hbeg;clear g2 g3 g4 g5 g6 hi' hr' hli hlr;rintro⟨k,M,rows,x,e⟩ ⟨g1,g2,g3,g4,g5,g6,g8⟩;simp only at g1 g2 g3 g4 g5 g6 g8;(repeat refine AW.seq_k fun K hK=>?_);refine AW.rg ?_;simp;try (refine hK _ rfl ?_;clear hK K)
        (repeat refine AW.seq ?_);refine AW.cs (fun hk=>?_) (fun hk=>?_) rfl<;>(try simp at hk)
        ·refine AW.skip ?_;try simp
         (repeat refine AW.seq ?_);refine AW.block ?_;(repeat refine AW.seq_k fun K hK=>?_);refine AW.rg ?_;simp;try (refine hK _ rfl ?_;clear hK K)
         have hi':i<rows.length:=by omega
         have hr':r<rows.length:=by omega
         have hli:=g5 i hi';have hlr:=g5 r hr';have nB:=Ne.symm g2.cB;have nI:=g2.nc hi';have nR:=g2.nc hr';have n0:=g2.mat.ne hi';have hb:e=0→(rr (Am rows r) k).q=Dr (Am (Z.getD []) r) k∧fr.q=Jb (Z.getD []) i j:=by
          intro he;cases hZ2:Z with
          |none=>rw[hZ2]at g8;have:e=2:=g8;omega
          |some X' =>
           rw[hZ2]at g8;obtain⟨q1,q2⟩:=hfq X' hZ2;show _=Dr (Am X' r) k∧fr.q=Jb X' i j
           refine⟨?_,by rw[q1,Gm]⟩;replace g8:Th e rows ((Be (Fj (Am X' r) (Jb X' i j)) k (Am X' i)).map (X'.set i)):=g8;cases hit:Be (Fj (Am X' r) (Jb X' i j)) k (Am X' i)with
           |none=>rw[hit]at g8;have:e=2:=g8;omega
           |some row =>
            rw[hit]at g8;obtain⟨_,m2,_⟩:e=0∧rows=Ci (X'.set i row)∧Dx (X'.set i row):=g8;rw[m2,Cb,Hf (by rw[(hZl X' hZ2).1];exact hi),if_neg (Ne.symm h1),Jd (by rw[(hZl X' hZ2).2 r hr];exact hk),Gm]
         (repeat refine AW.seq_k fun K hK=>?_);refine AW.rdT [] [13] [] [B,nb bs1 i,nb bs1 r] [0,1,2,3,4,5,6,7,8,9,10,11,12,13,14,15,16,17,18,19,20,21,22,23,24,25] C8 (by simp[hi,hr,hk,g2.mat.top,↓g2.mat.get hi',↓g2.mat.get hr',g2.mat.row i hi',g2.mat.row r hr',hli,hlr]) (by simp[hi,hr,hk,g2.mat.top,↓g2.mat.get hi',↓g2.mat.get hr',g2.mat.row i hi',g2.mat.row r hr',hli,hlr]) (by simp[hi,hr,hk,g2.mat.top,↓g2.mat.get hi',↓g2.mat.get hr',g2.mat.row i hi',g2.mat.row r hr',hli,hlr]) (by simp[hi,hr,hk,g2.mat.top,↓g2.mat.get hi',↓g2.mat.get hr',g2.mat.row i hi',g2.mat.row r hr',hli,hlr]) (by simp[hi,hr,hk,g2.mat.top,↓g2.mat.get hi',↓g2.mat.get hr',g2.mat.row i hi',g2.mat.row r hr',hli,hlr]) ?_
         simp[hi,hr,hk,g2.mat.top,↓g2.mat.get hi',↓g2.mat.get hr',g2.mat.row i hi',g2.mat.row r hr',hli,hlr];try (refine hK _ rfl ?_;clear hK K)
         have hfok:e=0→fr.ok=true:=by
          intro he;cases hZ2:Z with
          |none=>rw[hZ2]at g8;have:e=2:=g8;omega
          |some X'=>obtain⟨q1,q2⟩:=hfq X' hZ2;rw[q1];exact Eu q2
         refine Qo4 (a:=rr (Am rows r) k) (b:=fr) g2.cell (by simp[nB,Ne.symm nR,Ne.symm nI,g2.cB]) g3 (Ll (g4.row r) k) hflb (fun he=>⟨Ve g8 he (by rw[hlr];exact hk),hfok he⟩) ?_;intro x1 hx1;have hplb:(C0 e (rr (Am rows r) k) (Eb (rr (Am rows r) k).q fr.q)).2.Lb:=Vg (Ll (g4.row r) k);have hlo:=Qgk (a:=rr (Am rows i) k) hb (e1:=(C0 e (rr (Am rows r) k) (Eb (rr (Am rows r) k).q fr.q)).1) (p:=(C0 e (rr (Am rows r) k) (Eb (rr (Am rows r) k).q fr.q)).2) rfl;have hlk:=Qkz (b:=rr (Am rows r) k) (f:=fr) (e:=e) (fun z hz=>Qhd hz) (e1:=(C0 e (rr (Am rows r) k) (Eb (rr (Am rows r) k).q fr.q)).1) (p:=(C0 e (rr (Am rows r) k) (Eb (rr (Am rows r) k).q fr.q)).2) rfl
         generalize(C0 e (rr (Am rows r) k) (Eb (rr (Am rows r) k).q fr.q))=ep at *;obtain⟨e1,p⟩:=ep;simp only at hx1 hplb hlo hlk;simp;refine Qgt (a:=rr (Am rows i) k) (b:=p) (Aa.set_same _ _ _) (by simp[nB,Ne.symm nR,Ne.symm nI,g2.cB]) hx1 (Ll (g4.row i) k) hplb (fun he=>⟨Ve g8 (hlk he).1 (by rw[hli];exact hk),(hlk he).2⟩) ?_;intro x2 hx2;simp[hi,hk,nI,nR,n0,g2.mat.row i hi',hli];have w2:=Aq (k+1) (by omega);(repeat refine AW.seq_k fun K hK=>?_);refine AW.rg ?_;simp[-Int.natCast_add,w2];try (refine hK _ rfl ?_;clear hK K)
         have hs:=Jj.row (op:=fun q k=>Uu q (Jb (Z.getD []) i j) (Dr (Am (Z.getD []) r) k)) (y:=(C0 e1 (rr (Am rows i) k) (Dh (rr (Am rows i) k).q p.q)).2) (fun q k x hx=>Uo hx) (s:=⟨M,rows,x,e⟩) ⟨g2,g3,g4,g5,g6,g8⟩ hi hk (Z:=Z.bind fun X'=>(Be (Fj (Am X' r) (Jb X' i j)) k (Am X' i)).map fun row=>(X',row)) (by
          cases Z with
          |none=>rfl
          |some X' =>
           show(Be _ k (Am X' i)).map _=_
           cases hit:Be (Fj (Am X' r) (Jb X' i j)) k (Am X' i)<;>simp[hit]) hx2 (Vg (Ll (g4.row i) k)) hlo.1 hlo.2
         exact⟨k+1,_,⟨hk,hs.to (by
          cases Z with
          |none=>rfl
          |some X' =>
           show(Be _ (k+1) (Am X' i)).map _=_
           rw[D9];cases hit:Be (Fj (Am X' r) (Jb X' i j)) k (Am X' i)with
           |none=>simp[hit]
           |some row=>simp[hit];rfl)⟩,by omega,rfl,rfl⟩
        ·refine AW.exit ?_;try simp
         have:k=w:=by omega
         subst this;exact⟨⟨M,rows,x,e⟩,Jj.to ⟨g2,g3,g4,g5,g6,g8⟩ hend,rfl⟩
       rintro⟨M3,rows3,x3,e3⟩ hs3;(repeat refine AW.seq_k fun K hK=>?_);refine AW.rg ?_;simp[-Int.natCast_add,w3];try (refine hK _ rfl ?_;clear hK K)
       exact⟨i+1,⟨M3,rows3,x3,e3⟩,⟨hi,hs3⟩,by omega,rfl,rfl⟩
      ·refine AW.exit ?_;try simp
       have:i=n:=by omega
       subst this;exact⟨⟨M,rows,x,e⟩,⟨g2,g3,g4,g5,g6,hZ ▸ g7⟩,rfl⟩
     rintro⟨M3,rows3,x3,e3⟩ ⟨g1,g2,g3,g4,g5,g6⟩;simp only at g1 g2 g3 g4 g5 g6;simp only;have hcl:J8 X1 j r=(Be (Co d) w row0).bind fun row=>Be (Cd r j) n (X1.set r row):=by
      unfold J8;rw[hd,hrow0,hn1,show row0.length=w by rw[←hrow0];exact hd1 r (by omega)]
     rw[hcl]at hcol;refine AW.seq_ex (ι:=Aa × Nat) (fun z=>[(0,.ptr c 1 0 0),(1,.osl B 1 0 n),(5,.osl z.2 1 0 (r+1)),(16,.int .i64 w),(17,.int .i64 (j:Nat))]) (fun z=>z.1) (fun z=>Dg z.1 c B bs1 rows3 x3 (.osl z.2 1 0 (r+1)) [z.2] (ps++[j])) ?_ ?_
     ·rcases g1.piv with⟨z1,z2,z3⟩|⟨b0,z2,z3,z4⟩
      ·subst z1 z2 z3;have hr0:r=0:=hrr.symm;subst hr0;(repeat refine AW.seq_k fun K hK=>?_);refine AW.rgR [120] ?_;simp;try (refine hK _ rfl ?_;clear hK K)
       exact⟨by unfold maxLen;omega,Ah.intro fun b hb=>g1.push0 hb j⟩
      ·subst z2 z3;have hps:ps.length<2^40:=by omega
       (repeat refine AW.seq_k fun K hK=>?_);refine AW.rgR [120] ?_;simp[z4];try (refine hK _ rfl ?_;clear hK K)
       refine⟨by omega,by unfold maxLen;omega,Ah.intro fun b hb=>⟨_,b,?_,rfl,rfl,hrr⟩⟩;have:=g1.push1 hb j
       rwa [hrr]at this
     rintro⟨M4,b4⟩ hR4;simp only at hR4;have hx3:x3.cells=[.int .i64 e3]:=g2;(repeat refine AW.seq_k fun K hK=>?_);refine AW.rg ?_;simp[hR4.cell,hx3];try (refine hK _ rfl ?_;clear hK K)
     (repeat refine AW.seq ?_);refine AW.cs (fun he=>?_) (fun he=>?_) rfl<;>(try simp at he)
     ·refine AW.exit ?_;try simp
      have hno:Be C7 (j+1) (X0,[])=none:=by
       rw[hcol];generalize((Be (Co d) w row0).bind fun row=>Be (Cd r j) n (X1.set r row))=Z at g6;cases Z with
       |none=>rfl
       |some Y=>exact absurd g6.1 he
      have he2:e3=2:=by
       generalize((Be (Co d) w row0).bind fun row=>Be (Cd r j) n (X1.set r row))=Z at g6;cases Z with
       |none=>exact g6
       |some Y=>exact absurd g6.1 he
      refine⟨x3,hR4.cell,hR4.ones g2,?_⟩;rw[hq,Yo hno (by omega)];rw[he2]at g2;exact g2
     ·refine AW.skip ?_;try simp
      generalize((Be (Co d) w row0).bind fun row=>Be (Cd r j) n (X1.set r row))=Z at g6 hcol;cases Z with
      |none=>have:e3=2:=g6;omega
      |some Y =>
       obtain⟨_,m2,m3⟩:e3=0∧rows3=Ci Y∧Dx Y:=g6;subst m2;refine⟨⟨Y,ps++[j],M4,bs1,.osl b4 1 0 (r+1),[b4],x3⟩,⟨hcol,m3,?_,?_,by simp[hrr];omega,hR4,he ▸ g2⟩,rfl,rfl⟩
       ·intro i hi;have:=g4 i (by rw[Bh];exact hi)
        rwa [Cb,List.length_map]at this
       ·rw[Bh]at g5;rw[hN];exact g5
   rintro⟨X,ps,M,bs,pv,pb,x⟩ hs;(repeat refine AW.seq_k fun K hK=>?_);refine AW.rg ?_;simp[-Int.natCast_add,w1];try (refine hK _ rfl ?_;clear hK K)
   exact⟨j+1,⟨X,ps,M,bs,pv,pb,x⟩,⟨hj,hs⟩,by omega,by simp⟩
  ·refine AW.exit ?_;try simp
   have:j=w:=by omega
   subst this;refine⟨x,i6.cell,i6.ones i7,?_⟩;rw[hq,i1];exact⟨i7,bs,pb,i6⟩
 rintro⟨M,pv⟩ hs;(repeat refine AW.seq_k fun K hK=>?_);refine AW.rg ?_;simp;try (refine hK _ rfl ?_;clear hK K)
 obtain⟨x',h1,h2,h3⟩:=hs;exact AW.ret (Bz rfl h2 ⟨x',h1,h2,h3⟩)
end Go.Av
end
section
namespace Go.Av
open Go.Proofs
section
variable {P:Program} {av:Nat→Prop} {f:FuncId} {args:List AV} {m:Aa} {k:AV→Aa→Prop}
theorem Ac.news {R:AV→Aa→Prop} (h:Aj P f args Aa.emp R) (hk:∀v g,R v g→(∀b,g b≠none→m b=none∧¬av b)→k v (m.back [] g)):Ac P av f args m k:=by
 have e:m.only []=Aa.emp:=by funext b;rfl
 refine Ac.hand [] (by simp) (by rw[e];exact h) fun v g hr hf=>hk v g hr fun b hb=>?_;rcases hf b hb with h | h
 ·cases h
 ·exact h
theorem Ac.whole {R:AV→Aa→Prop} (hav:∀b,¬av b) (h:Aj P f args m R) (hk:∀v g,R v g→k v g):Ac P av f args m k:=by
 refine .inl ⟨m,R,fun c y hy=>⟨hy,hav c⟩,h,fun v g hr _=>?_⟩;have e:D8 m m g=g:=by
  funext c
  unfold D8;cases g c with
  |some x=>rfl
  |none=>cases hm:m c<;>rfl
 rw[e];exact hk v g hr
end
def Wf (m:List (List RR)):List (List Rat):=m.map fun r=>r.map RR.q
theorem I8 (m:List (List RR)):(Wf m).length=m.length:=by simp[Wf]
theorem K2 (m:List (List RR)) (i:Nat):Am (Wf m) i=(Am m i).map RR.q:=by
 unfold Am Wf;rw[List.getD_eq_getElem?_getD,List.getD_eq_getElem?_getD,List.getElem?_map];cases m[i]?<;>rfl
theorem Qh3 {m:List (List RR)} (h:Zm m=0):¬(64<m.length∨Jz m)∧Oe m:=by
 by_cases h1:64<m.length∨Jz m
 ·rw[Vp h1]at h;omega
 ·refine⟨h1,?_⟩;by_cases h2:Oe m
  ·exact h2
  ·rw[Vv h1 h2]at h;omega
theorem Qcb {m:List (List RR)} {r:List RR} (h:r∈m):∃i,i<m.length∧Am m i=r:=by
 obtain⟨i,hi,e⟩:=List.mem_iff_getElem.1 h;exact⟨i,hi,by rw[F5 hi,e]⟩
theorem Qqb {r:List RR} {x:RR} (h:x∈r):∃j,j<r.length∧rr r j=x:=by
 obtain⟨j,hj,e⟩:=List.mem_iff_getElem.1 h;exact⟨j,hj,by rw[La hj,e]⟩
theorem Qch {m:List (List RR)} (hm:Zc m) (h:Zm m=0):m=Ci (Wf m)∧Dx (Wf m)∧Jl (Wf m) (Am (Wf m) 0).length∧m.length≤64∧(Am (Wf m) 0).length≤64:=by
 obtain⟨h1,h2⟩:=Qh3 h;have hok:∀r∈m,∀x∈r,x.ok=true:=by
  intro r hr x hx;obtain⟨i,hi,rfl⟩:=Qcb hr;obtain⟨j,hj,rfl⟩:=Qqb hx;exact(h2 i hi).2 j hj
 refine⟨?_,?_,?_,?_,?_⟩
 ·unfold Ci Wf;rw[List.map_map]
  conv=>lhs;rw[←List.map_id m]
  refine List.map_congr_left fun r hr=>?_;show r=(r.map RR.q).map Bj
  rw[List.map_map]
  conv=>lhs;rw[←List.map_id r]
  refine List.map_congr_left fun x hx=>?_;exact(El (hm r hr x hx) (hok r hr x hx)).2
 ·intro r hr q hq;obtain⟨s,hs,rfl⟩:=List.mem_map.1 hr;obtain⟨x,hx,rfl⟩:=List.mem_map.1 hq;exact(El (hm s hs x hx) (hok s hs x hx)).1
 ·intro i hi;rw[K2,K2,List.length_map,List.length_map];exact(h2 i (by rwa [I8]at hi)).1
 ·rcases Nat.lt_or_ge 64 m.length with h|h
  ·exact absurd (.inl h) h1
  ·exact h
 ·rw[K2,List.length_map];rcases Nat.lt_or_ge 64 (Am m 0).length with h | h
  ·rcases Nat.eq_zero_or_pos m.length with h0|h0
   ·have:m=[]:=List.eq_nil_of_length_eq_zero h0;subst this;simp[Am]at h
   ·exact absurd (.inr ⟨0,h0,h⟩) h1
  ·exact h
/-! ### What the steps keep -/
def F7 (r:List Rat):Prop:=∀q∈r,B1 q
theorem Oa {α:Type} {f:Nat→α→Option α} {p:α→Prop} (h:∀i s t,p s→f i s=some t→p t):∀{n:Nat} {s t:α},p s→Be f n s=some t→p t
 |0,s,t,hs,he=>by cases he;exact hs
 |n+1,s,t,hs,he=>by
  rw[D9]at he;cases hm:Be f n s with
  |none=>rw[hm]at he;cases he
  |some u=>rw[hm]at he;exact h n u t (Oa h hs hm) he
theorem Nc {op:Rat→Nat→Option Rat} (hop:∀q k x,op q k=some x→B1 x) {w k:Nat} {row row':List Rat} (h:F7 row∧row.length=w) (he:Hu op k row=some row'):F7 row'∧row'.length=w:=by
 unfold Hu at he;cases ho:op (Dr row k) k with
 |none=>rw[ho]at he;cases he
 |some z=>rw[ho]at he;cases he;exact⟨Yx h.1 k (hop _ _ _ ho),by simpa using h.2⟩
def Da (n w:Nat) (M:List (List Rat)):Prop:=Dx M∧Jl M w∧M.length=n
theorem Da.set {n w:Nat} {M:List (List Rat)} (h:Da n w M) (i:Nat) {r:List Rat} (hr:F7 r∧r.length=w):Da n w (M.set i r) :=
 ⟨h.1.set i hr.1,h.2.1.set hr.2,by simpa using h.2.2⟩
theorem Da.row {n w:Nat} {M:List (List Rat)} (h:Da n w M) {i:Nat} (hi:i<n):F7 (Am M i)∧(Am M i).length=w:=⟨h.1.row i,h.2.1 i (by rw[h.2.2];exact hi)⟩
theorem Da.swap {n w:Nat} {M:List (List Rat)} (h:Da n w M) {i j:Nat} (hi:i<n) (hj:j<n):Da n w (De M i j):=(h.set i (h.row hj)).set j (h.row hi)
theorem Qdx {n w r j i:Nat} {M M':List (List Rat)} (hi:i<n) (h:Da n w M) (he:Cd r j i M=some M'):Da n w M':=by
 unfold Cd at he;split at he
 ·cases he;exact h
 ·cases hm:Be (Fj (Am M r) (Jb M i j)) (Am M i).length (Am M i)with
  |none=>rw[hm]at he;cases he
  |some row =>
   rw[hm]at he;cases he;exact h.set i (Oa (p:=fun row=>F7 row∧row.length=w) (fun k s t hs hst=>Nc (fun q k x hx=>Uo hx) hs hst) (h.row hi) hm)
theorem Rb {α:Type} {f:Nat→α→Option α} {p:α→Prop}:∀{n:Nat} (h:∀i s t,i<n→p s→f i s=some t→p t) {s t:α},p s→Be f n s=some t→p t
 |0,_,s,t,hs,he=>by cases he;exact hs
 |n+1,h,s,t,hs,he=>by
  rw[D9]at he;cases hm:Be f n s with
  |none=>rw[hm]at he;cases he
  |some u=>rw[hm]at he;exact h n u t (by omega) (Rb (fun i s t hi=>h i s t (by omega)) hs hm) he
theorem Qaq {n w r j:Nat} {M M':List (List Rat)} (hr:r<n) (h:Da n w M) (hd:Jb M r j≠0) (he:J8 M j r=some M'):Da n w M':=by
 unfold J8 at he;cases hm:Be (Co (Jb M r j)) (Am M r).length (Am M r)with
 |none=>rw[hm]at he;cases he
 |some row =>
  rw[hm]at he;have h1:=Oa (p:=fun row=>F7 row∧row.length=w) (fun k s t hs hst=>Nc (fun q k x hx=>Wh hd hx) hs hst) (h.row hr) hm;have he':Be (Cd r j) n (M.set r row)=some M':=by rw[←h.2.2];exact he
  exact Rb (p:=Da n w) (fun i s t hi hs hst=>Qdx hi hs hst) (h.set r h1) he'
def I6 (n w j:Nat) (z:List (List Rat) × List Nat):Prop:=Da n w z.1∧z.2.length≤n∧z.2.length≤j∧∀p∈z.2,p<j
theorem Qgg {n w j:Nat} {z z':List (List Rat) × List Nat} (h:I6 n w j z) (he:C7 j z=some z'):I6 n w (j+1) z':=by
 obtain⟨h1,h2,h3,h4⟩:=h;unfold C7 at he;cases hp:Z8 z.1 j z.2.length with
 |none=>simp only[hp]at he;cases he;exact⟨h1,h2,by omega,fun p hp=>by have:=h4 p hp;omega⟩
 |some i =>
  simp only[hp]at he;obtain⟨p1,p2,p3⟩:=Uj hp;rw[h1.2.2]at p1;have hr:z.2.length<n:=by omega
  cases hc:J8 (De z.1 i z.2.length) j z.2.length with
  |none=>rw[hc]at he;cases he
  |some M =>
   rw[hc]at he;cases he;refine⟨Qaq hr (h1.swap p1 hr) ?_ hc,by simp;omega,by simp;omega,fun p hp=>?_⟩
   ·unfold Jb;rw[Kw (by rw[h1.2.2];exact p1) (by rw[h1.2.2];exact hr),if_pos rfl];exact p3
   ·simp at hp;rcases hp with hp | rfl
    ·have:=h4 p hp;omega
    ·omega
theorem N3 {n w:Nat} {z0:List (List Rat) × List Nat} (h:I6 n w 0 z0):∀{j:Nat} {z:List (List Rat) × List Nat},Be C7 j z0=some z→I6 n w j z
 |0,z,he=>by cases he;exact h
 |j+1,z,he=>by
  rw[D9]at he;cases hm:Be C7 j z0 with
  |none=>rw[hm]at he;cases he
  |some u=>rw[hm]at he;exact Qgg (N3 h hm) he
theorem Pr {n w:Nat} {M:List (List Rat)} (h:Da n w M) {z:List (List Rat) × List Nat} (he:F6 M=some z):I6 n (w) ((Am M 0).length) z :=
 N3 (z0:=(M,[])) ⟨h,by simp,by simp,by simp⟩ he
/-! ### Reduce -/
theorem Qde {X:List (List Rat)} (h:Dx X):Qgn (Ci X):=by
 intro r hr x hx;obtain⟨s,hs,rfl⟩:=List.mem_map.1 hr;obtain⟨q,hq,rfl⟩:=List.mem_map.1 hx;have:=h s hs q hq;have key:∀n,n<Bf→(Ao n).length<2^40:=fun n hn=>by
  have:=Bd hn;omega
 exact⟨key _ this.1,key _ this.2⟩
noncomputable def H2 (m:List (List RR)):Int × List (List Rat) × List Nat :=
 if Zm m≠0 then (Zm m,[],[]) else match F6 (Wf m)with
  |none=>(2,[],[])
  |some z=>(0,z.1,z.2)
theorem Dg.start {X:List (List Rat)} {c:Nat} {x:AV} {g:Aa} {B:Nat} {bs:List Nat} (hg:Eh g B bs (Ci X)) (ho:Dn g (B::bs)) (hf:∀b,g b≠none→(Aa.emp.set c ⟨118,1,[x]⟩) b=none) :
  Dg ((Aa.emp.set c ⟨118,1,[x]⟩).back [] g) c B bs (Ci X) x .nil [] []:=by
 have hc:g c=none:=by
  cases h:g c with
  |none=>rfl
  |some y=>have:=hf c (by rw[h];simp);simp at this
 refine⟨hg.back _,by rw[Hb hc (by simp)];simp,.inl ⟨rfl,rfl,rfl⟩,fun b hb=>?_,?_,fun hm=>?_,by simp,by simp,by simp⟩
 ·cases h:g b with
  |some y=>have:=ho b (by rw[h];simp);simp at this ⊢;exact .inr this
  |none =>
   rw[Hb h (by simp)]at hb;by_cases e:b=c
   ·simp[e]
   ·simp[e]at hb
 ·rintro rfl;rw[hg.top]at hc;cases hc
 ·obtain⟨i,hi,e⟩:=List.mem_iff_getElem.1 hm;rw[←Ii hi]at e;have:=hg.row i (by rw[←hg.len];exact hi);rw[e,hc]at this;cases this
theorem U9 (m:List (List RR)) (hm:Zc m):Aj Tryz.prog 66 [Ba m] Aa.emp fun v mm=>v=.tup [Ba (Ci (H2 m).2.1),.sl 1 (Al (H2 m).2.2),.int .i64 (H2 m).1]∧mm=Aa.emp:=by
 have hck:=Qap m hm;by_cases h0:Zm m=0
 ·obtain⟨h1,h2,h3,h4,h5⟩:=Qch hm h0;have hR:H2 m=match F6 (Wf m)with
   |none=>(2,[],[])
   |some z=>(0,z.1,z.2):=by unfold H2;rw[if_neg (by simp[h0])]
  have hlen:=I8 m;rw[h0]at hck;have hcl:=Zz m (by rw[h1];exact Qde h2) (by omega) (fun r hr=>by
   obtain⟨i,hi,rfl⟩:=Qcb hr;have:=h3 i (by rw[hlen];exact hi);rw[K2,List.length_map]at this;omega)
  rw[hR];clear hR;generalize Wf m=X at *;subst h1;rw[Bh]at *;have hrd:=fun(M0:Aa) (c B:Nat) (bs0:List Nat) (x0:AV) (hR0:Dg M0 c B bs0 (Ci X) x0 .nil [] []) (hx0:F8 x0 0)=>V1 M0 c B bs0 X x0 _ hR0 hx0 h2 h3 rfl (by omega) (by omega);refine Ae Tryz.func66 rfl rfl 32 rfl (Nat.le_of_ble_eq_true rfl) ?_;(repeat refine AW.seq_k fun K hK=>?_);refine AW.rg ?_;simp[Ak];try (refine hK _ rfl ?_;clear hK K)
  (repeat refine AW.seq_k fun K hK=>?_);refine AW.rg ?_;simp;try (refine hK _ rfl ?_;clear hK K)
  refine Ac.val hck ?_;simp;refine hK _ rfl ?_;clear hK K;(repeat refine AW.seq_k fun K hK=>?_);refine AW.rg ?_;simp;try (refine hK _ rfl ?_;clear hK K)
  refine AW.no ?_ rfl;refine AW.skip ?_;try simp
  refine hK _ rfl ?_;clear hK K;(repeat refine AW.seq_k fun K hK=>?_);refine AW.rg ?_;simp;try (refine hK _ rfl ?_;clear hK K)
  refine Ah.intro fun c hc=>?_;refine hK _ rfl ?_;clear hK K;(repeat refine AW.seq_k fun K hK=>?_);refine AW.rg ?_;simp;try (refine hK _ rfl ?_;clear hK K)
  refine Ac.news hcl ?_;rintro _ g ⟨B,bs,rfl,g1,g2⟩ hf;have hM:=Dg.start g1 g2 (c:=c) (x:=.agg [.int .i64 0]) (fun b hb=>(hf b hb).1);generalize(Aa.emp.set c ⟨118,1,[.agg [.int .i64 0]]⟩).back [] g=M at *;simp;refine hK _ rfl ?_;clear hK K;(repeat refine AW.seq_k fun K hK=>?_);refine AW.rg ?_;simp;try (refine hK _ rfl ?_;clear hK K)
  refine Ac.whole (by simp) (hrd M c B bs _ hM rfl) ?_;rintro v M' ⟨x',q1,q2,q3⟩;simp;refine hK _ rfl ?_;clear hK K;cases hq:F6 X with
  |none =>
   rw[hq]at q3;have hx':x'.cells=[.int .i64 2]:=q3;(repeat refine AW.seq_k fun K hK=>?_);refine AW.rg ?_;simp[q1,hx'];try (refine hK _ rfl ?_;clear hK K)
   refine AW.yes ?_ rfl;(repeat refine AW.seq_k fun K hK=>?_);refine AW.rdA c [0,1,2,3,4,5,6] C8 (by simp[q1,hx']) ?_;simp[q1,hx'];try (refine hK _ rfl ?_;clear hK K)
   exact AW.ret (Ag [Ba [],.sl 1 [],.int .i64 2] rfl ⟨.nilsl 1,.nilsl 1,.same _,trivial⟩ ⟨rfl,rfl⟩)
  |some z =>
   obtain⟨Y,ps⟩:=z;rw[hq]at q3;obtain⟨q3,bs',pb,q4⟩:=q3;have hx':x'.cells=[.int .i64 0]:=q3;(repeat refine AW.seq_k fun K hK=>?_);refine AW.rg ?_;simp[q1,hx'];try (refine hK _ rfl ?_;clear hK K)
   refine AW.no ?_ rfl;refine AW.skip ?_;try simp
   refine hK _ rfl ?_;clear hK K;(repeat refine AW.seq_k fun K hK=>?_);refine AW.rg ?_;simp;try (refine hK _ rfl ?_;clear hK K)
   have hk:=Pr ⟨h2,h3,rfl⟩ hq;have hv:=q4.mat.view;rw[Bh,hk.1.2.2]at hv;exact AW.ret (Ag [Ba (Ci Y),.sl 1 (Al ps),.int .i64 0] rfl ⟨hv,q4.piv.view,.same _,trivial⟩ ⟨rfl,rfl⟩)
 ·have hR:H2 m=(Zm m,[],[]):=by unfold H2;rw[if_pos h0]
  rw[hR];generalize Zm m=e at *;refine Ae Tryz.func66 rfl rfl 32 rfl (Nat.le_of_ble_eq_true rfl) ?_;(repeat refine AW.seq_k fun K hK=>?_);refine AW.rg ?_;simp[Ak];try (refine hK _ rfl ?_;clear hK K)
  (repeat refine AW.seq_k fun K hK=>?_);refine AW.rg ?_;simp;try (refine hK _ rfl ?_;clear hK K)
  refine Ac.val hck ?_;simp;refine hK _ rfl ?_;clear hK K;(repeat refine AW.seq_k fun K hK=>?_);refine AW.rg ?_;simp[h0];try (refine hK _ rfl ?_;clear hK K)
  refine AW.yes ?_ rfl;(repeat refine AW.seq_k fun K hK=>?_);refine AW.rg ?_;simp;try (refine hK _ rfl ?_;clear hK K)
  exact AW.ret (Ag [Ba [],.sl 1 [],.int .i64 e] rfl ⟨.nilsl 1,.nilsl 1,.same _,trivial⟩ ⟨rfl,rfl⟩)
end Go.Av
end
section
namespace Go.Av
open Go.Proofs
@[simp high] theorem Qhy (P:Program) (size bytes:Nat) (e:TypeId) (zero:AV) (fs:List (Nat × Nat × Option Bool)) (k:IntKind) (n:Int) (l:List Nat):Bs P ⟨size,bytes,.slice e,zero,fs⟩ (.sl 1 (Al l)) (.int k n)=(Ai P e).bind fun te=>if 1=te.size∧0≤n∧n<l.length then some (.rptr [.int .i64 ((l.getD n.toNat 0:Nat):Int)]) else none:=by
 rw[Gt]
 congr 1
 funext te
 rw[Jw];by_cases h:1=te.size∧0≤n∧n<l.length
 ·rw[if_pos h,if_pos h];have h1:n.toNat<l.length:=by omega
  unfold Al;rw[List.getD_eq_getElem?_getD,List.getD_eq_getElem?_getD,List.getElem?_map,List.getElem?_eq_getElem h1];rfl
 ·rw[if_neg h,if_neg h]
theorem Ye {M M':Aa} {b n:Nat} {e:TypeId} {r:List RR} (hb:M b=some ⟨e,4,Cm r⟩) (hb':M' b=none) (hn:r.length=n):Bv M M' (.osl b 4 0 n) (A7 r):=by
 refine .osl b 4 0 n _ _ hb hb' rfl (by simp[hn]) (by simp[hn]) fun j u u' g1 g2=>?_;simp only[Nat.zero_add]at g1;rw[g1]at g2;cases g2;exact .same _
theorem Aa.set_self {m:Aa} {b:Nat} {x:Ep} (h:m b=some x):m.set b x=m:=by
 funext k
 simp only[A1];split
 ·rename_i e;rw[e,h]
 ·rfl
theorem R3 {m:Aa} {b c:Nat} (h:c≠b) (x x' y y':Ep):(((m.set c x).set b y).set c x').set b y'=(m.set c x').set b y':=by
 funext k
 simp only[A1];by_cases h1:k=b
 ·simp[h1]
 ·by_cases h2:k=c
  ·subst h2;simp[h]
  ·simp[h1,h2]
def Mw (M:Aa) (ty:TypeId) (z:Nat) (ov:AV) (ob:List Nat) (l:List AV):Prop :=
 (l=[]∧ob=[]∧ov=.nil)∨∃b,ob=[b]∧ov=.osl b z 0 l.length∧M b=some ⟨ty,z,l⟩
theorem Mw.keep {M M':Aa} {ty:TypeId} {z:Nat} {ov:AV} {ob:List Nat} {l:List AV} (h:Mw M ty z ov ob l) (hm:∀b∈ob,M' b=M b):Mw M' ty z ov ob l:=by
 rcases h with h|⟨b,h1,h2,h3⟩
 ·exact .inl h
 ·exact .inr ⟨b,h1,h2,by rw[hm b (by simp[h1])];exact h3⟩
theorem Mw.len {M:Aa} {ty:TypeId} {z:Nat} {ov:AV} {ob:List Nat} {l:List AV} (h:Mw M ty z ov ob l) (size bytes:Nat) (e:TypeId) (zero:AV) (fs:List (Nat × Nat × Option Bool)):Jh ⟨size,bytes,.slice e,zero,fs⟩ ov=some (.int .i64 l.length):=by
 rcases h with⟨rfl,_,rfl⟩|⟨b,_,rfl,_⟩
 ·simp
 ·simp
theorem Mw.view {M M':Aa} {ty:TypeId} {z:Nat} {ov:AV} {ob:List Nat} {l:List AV} (h:Mw M ty z ov ob l) (hm:∀b∈ob,M' b=none):Bv M M' ov (.sl z l):=by
 rcases h with⟨rfl,_,rfl⟩|⟨b,h1,rfl,h⟩
 ·exact .nilsl z
 ·refine .osl b z 0 l.length _ _ h (hm b (by simp[h1])) rfl rfl (by simp) fun j u u' g1 g2=>?_;simp only[Nat.zero_add]at g1;rw[g1]at g2;cases g2;exact .same _
structure Il (M:Aa) (c:Nat) (x:AV) (ty:TypeId) (z:Nat) (ov:AV) (ob:List Nat) (l:List AV):Prop where
 cell:M c=some ⟨118,1,[x]⟩
 lst:Mw M ty z ov ob l
 only:Dn M (c::ob)
 pc:c ∉ ob
section
variable {M:Aa} {c:Nat} {x ov:AV} {ty:TypeId} {z:Nat} {ob:List Nat} {l:List AV}
theorem Il.setE (h:Il M c x ty z ov ob l) (x':AV):Il (M.set c ⟨118,1,[x']⟩) c x' ty z ov ob l :=
 ⟨by simp,h.lst.keep fun b hb=>by simp only[A1];rw[if_neg (by rintro rfl;exact h.pc hb)],h.only.set (by simp) _,h.pc⟩
theorem Il.fresh (h:Il M c x ty z ov ob l) {b:Nat} (hb:M b=none):b≠c∧b ∉ ob:=by
 refine⟨(by rintro rfl;rw[h.cell]at hb;cases hb),fun hm=>?_⟩;rcases h.lst with⟨_,h1,_⟩ | ⟨b',h1,_,h3⟩
 ·rw[h1]at hm;cases hm
 ·rw[h1]at hm;simp at hm;subst hm;rw[h3]at hb;cases hb
theorem Il.ones (h:Il M c x ty z ov ob l) {e:Int} (hx:F8 x e) (hl:∀v∈l,v.cells.all AV.one=true):∀(b:Nat) (y:Ep),M b=some y→∀v∈y.l,v.cells.all AV.one=true:=by
 intro b y hy;have:=h.only b (by rw[hy];simp);rcases List.mem_cons.1 this with rfl | hb
 ·rw[h.cell]at hy;cases hy;intro v hv;simp at hv;subst hv;exact Qb0 hx
 ·rcases h.lst with⟨_,h1,_⟩|⟨b',h1,_,h3⟩
  ·rw[h1]at hb;cases hb
  ·rw[h1]at hb;simp at hb;subst hb;rw[h3]at hy;cases hy;exact hl
theorem Il.start (c:Nat) (x:AV) (ty:TypeId) (z:Nat):Il (Aa.emp.set c ⟨118,1,[x]⟩) c x ty z .nil [] [] :=
 ⟨by simp,.inl ⟨rfl,rfl,rfl⟩,fun b hb=>by
  by_cases e:b=c
  ·simp[e]
  ·simp[e]at hb,by simp⟩
theorem Il.push0 (h:Il M c x ty z .nil [] []) {b:Nat} (hb:M b=none) (v:AV):Il (M.set b ⟨ty,z,[v]⟩) c x ty z (.osl b z 0 1) [b] [v]:=by
 obtain⟨f1,_⟩:=h.fresh hb;refine⟨by simp only[A1];rw[if_neg (Ne.symm f1)];exact h.cell,.inr ⟨b,rfl,rfl,by simp⟩,?_,by simpa using Ne.symm f1⟩;exact(h.only.sub fun a ha=>by simp at ha ⊢;exact .inl ha).set (by simp) _
theorem Il.push1 {b0:Nat} (h:Il M c x ty z (.osl b0 z 0 l.length) [b0] l) {b:Nat} (hb:(M.del b0) b=none) (v:AV):Il ((M.del b0).set b ⟨ty,z,l++[v]⟩) c x ty z (.osl b z 0 (l.length+1)) [b] (l++[v]):=by
 have hc:c≠b0:=by have:=h.pc;simpa using this
 have hh:Il (M.del b0) c x ty z .nil [] []:=by
  have hdel:∀a,a≠b0→(M.del b0) a=M a:=fun a ha=>if_neg ha;refine⟨by rw[hdel c hc];exact h.cell,.inl ⟨rfl,rfl,rfl⟩,fun a ha=>?_,by simp⟩;have h1:a≠b0:=by
   rintro rfl;exact ha (if_pos rfl)
  rw[hdel a h1]at ha;have:=h.only a ha;simp at this ⊢;exact this.resolve_right h1
 obtain⟨f1,_⟩:=hh.fresh hb;refine⟨by simp only[A1];rw[if_neg (Ne.symm f1)];exact hh.cell,.inr ⟨b,rfl,by simp,by simp⟩,?_,by simpa using Ne.symm f1⟩;exact(hh.only.sub fun a ha=>by simp at ha ⊢;exact .inl ha).set (by simp) _
end
/-! ### The kernel -/
def X4 (Y:List (List Rat)) (ps:List Nat) (j:Nat):Nat→List Rat→List Rat
 |0,v=>v
 |k+1,v=>(X4 Y ps j k v).set (ps.getD k 0) (-(Jb Y k j))
def Y7 (Y:List (List Rat)) (ps:List Nat) (w j:Nat):List Rat:=X4 Y ps j ps.length ((List.replicate w 0).set j 1)
def K6 (Y:List (List Rat)) (ps:List Nat) (w j:Nat):List (List Rat):=((List.range j).filter fun i=>decide (i ∉ ps)).map (Y7 Y ps w)
theorem T7 (Y:List (List Rat)) (ps:List Nat) (w j:Nat):K6 Y ps w (j+1)=if j∈ps then K6 Y ps w j else K6 Y ps w j++[Y7 Y ps w j]:=by
 unfold K6;rw[List.range_succ,List.filter_append];by_cases h:j∈ps
 ·rw[if_pos h];simp[h]
 ·rw[if_neg h];simp[h]
theorem J1 (Y:List (List Rat)) (ps:List Nat) (j:Nat) (v:List Rat):∀k,(X4 Y ps j k v).length=v.length
 |0=>rfl
 |k+1=>by unfold X4;rw[List.length_set,J1]
theorem Wo (Y:List (List Rat)) (ps:List Nat) (w j:Nat):(Y7 Y ps w j).length=w:=by unfold Y7;rw[J1];simp
noncomputable def Vj (m:List (List RR)):Int × List (List Rat) :=
 if (H2 m).1≠0 then ((H2 m).1,[]) else (0,K6 (H2 m).2.1 (H2 m).2.2 (Am m 0).length (Am m 0).length)
theorem Ps {n w:Nat} {z0:List (List Rat) × List Nat} (h:I6 n w 0 z0) (hs:z0.2.Pairwise (·<·)):∀{j:Nat} {z:List (List Rat) × List Nat},Be C7 j z0=some z→z.2.Pairwise (·<·)
 |0,z,he=>by cases he;exact hs
 |j+1,z,he=>by
  rw[D9]at he;cases hm:Be C7 j z0 with
  |none=>rw[hm]at he;cases he
  |some u =>
   rw[hm]at he;have h1:=Ps h hs hm;have h2:=N3 h hm;replace he:C7 j u=some z:=he;unfold C7 at he;cases hp:Z8 u.1 j u.2.length with
   |none=>simp only[hp]at he;cases he;exact h1
   |some i =>
    simp only[hp]at he;cases hc:J8 (De u.1 i u.2.length) j u.2.length with
    |none=>rw[hc]at he;cases he
    |some M =>
     rw[hc]at he;cases he;rw[List.pairwise_append];exact⟨h1,by simp,fun a ha b hb=>by simp at hb;subst hb;exact h2.2.2.2 a ha⟩
theorem Qfx {q:Rat} (h:B1 q):Dh 0 q=some (-q)∧B1 (-q):=by
 have hg:B1 (-q):=by
  unfold B1 at h ⊢;rw[Rat.neg_num,Rat.neg_den,Int.natAbs_neg];exact h
 refine⟨?_,hg⟩;unfold Dh;rw[Rat.sub_eq_add_neg,Rat.zero_add];have n0:(0:Rat).num=0:=rfl;have d0:(0:Rat).den=1:=rfl;have hb:0<Bf:=by unfold Bf;exact Nat.pow_pos (by omega)
 have h1:=h.1;have h2:=h.2;rw[n0,d0,if_pos];unfold C1;generalize Bf=b at *;simp only[Bool.and_eq_true,decide_eq_true_eq,Int.zero_mul,Int.natAbs_zero];refine⟨⟨⟨hb,?_⟩,?_⟩,?_⟩<;>omega
theorem Ut:B1 0:=by rw[←Ih];exact Uk (by decide)
theorem Qh4:B1 1:=by rw[←J3];exact Uk (by decide)
structure Qjb where
 next:Nat
 x:AV
 M:Aa
 ov:AV
 ob:List Nat
def Qph (c:Nat) (Y:List (List Rat)) (ps:List Nat) (w j:Nat) (s:Qjb):Prop :=
 Il s.M c s.x 51 1 s.ov s.ob ((Ci (K6 Y ps w j)).map A7)∧F8 s.x 0∧s.next≤ps.length∧(∀i,i<s.next→ps.getD i 0<j)∧∀i,s.next≤i→i<ps.length→j≤ps.getD i 0
theorem Qcl {ps:List Nat} (h:ps.Pairwise (·<·)) {i j:Nat} (hij:i<j) (hj:j<ps.length):ps.getD i 0<ps.getD j 0:=by
 rw[List.getD_eq_getElem?_getD,List.getD_eq_getElem?_getD,List.getElem?_eq_getElem hj,List.getElem?_eq_getElem (by omega)];exact List.pairwise_iff_getElem.1 h i j (by omega) hj hij
theorem V3 (m:List (List RR)) (hm:Zc m):Aj Tryz.prog 106 [Ba m] Aa.emp fun v mm=>v=.tup [Ba (Ci (Vj m).2),.int .i64 (Vj m).1]∧mm=Aa.emp:=by
 have hr:=U9 m hm;have hwid:=Sk m;by_cases h0:(H2 m).1=0
 ·have hck:Zm m=0:=by
   by_cases h:Zm m=0
   ·exact h
   ·unfold H2 at h0;rw[if_pos h]at h0;exact absurd h0 h
  have hK:Vj m=(0,K6 (H2 m).2.1 (H2 m).2.2 (Am m 0).length (Am m 0).length):=if_neg (by simp[h0]);obtain⟨h1,h2,h3,h4,h5⟩:=Qch hm hck;have hcol:∃Y ps,H2 m=(0,Y,ps)∧I6 m.length (Am m 0).length (Am m 0).length (Y,ps)∧ps.Pairwise (·<·):=by
   unfold H2 at h0 ⊢;rw[if_neg (by simp[hck])]at h0 ⊢;cases hq:F6 (Wf m)with
   |none=>rw[hq]at h0;exact absurd h0 (by simp)
   |some z =>
    have e0:(Am (Wf m) 0).length=(Am m 0).length:=by rw[K2,List.length_map]
    have k1:=Pr (n:=m.length) (w:=(Am m 0).length) ⟨h2,e0 ▸ h3,I8 m⟩ hq;rw[e0]at k1;refine⟨z.1,z.2,rfl,k1,?_⟩;exact Ps (n:=m.length) (w:=(Am m 0).length) (z0:=(Wf m,[])) ⟨⟨h2,e0 ▸ h3,I8 m⟩,by simp,by simp,by simp⟩ (by simp) hq
  obtain⟨Y,ps,hred,⟨⟨y1,y2,y3⟩,y4,y5,y6⟩,y7⟩:=hcol;simp only at y1 y2 y3 y4 y5 y6;rw[hK];rw[hred]at hr ⊢;simp only at hr ⊢;have h5:(Am m 0).length≤64:=by rw[K2,List.length_map]at h5;exact h5
  clear h1 h2 h3 hK;generalize hw:(Am m 0).length=w at *;have hvec:=Y1 w (by omega);have hone:=L1 1 (by omega) (by omega);have hzero:=L1 0 (by omega) (by omega);rw[J3]at hone;rw[Ih]at hzero;refine Ae Tryz.func106 rfl rfl 87 rfl (Nat.le_of_ble_eq_true rfl) ?_;(repeat refine AW.seq_k fun K hK=>?_);refine AW.rg ?_;simp[Ak];try (refine hK _ rfl ?_;clear hK K)
  (repeat refine AW.seq_k fun K hK=>?_);refine AW.rg ?_;simp;try (refine hK _ rfl ?_;clear hK K)
  refine Ac.val hr ?_;simp;refine hK _ rfl ?_;clear hK K;(repeat refine AW.seq_k fun K hK=>?_);refine AW.rg ?_;simp;try (refine hK _ rfl ?_;clear hK K)
  refine AW.no ?_ rfl;refine AW.skip ?_;try simp
  refine hK _ rfl ?_;clear hK K;(repeat refine AW.seq_k fun K hK=>?_);refine AW.rg ?_;simp;try (refine hK _ rfl ?_;clear hK K)
  refine Ah.intro fun c hc=>?_;refine hK _ rfl ?_;clear hK K;(repeat refine AW.seq_k fun K hK=>?_);refine AW.rg ?_;simp;try (refine hK _ rfl ?_;clear hK K)
  (repeat refine AW.seq_k fun K hK=>?_);refine AW.rg ?_;simp;try (refine hK _ rfl ?_;clear hK K)
  refine AW.seq_ex (ι:=Aa × AV × AV × List Nat) (fun z=>[(7,.ptr c 1 0 0),(8,z.2.2.1)]) (fun z=>z.1) (fun z=>Il z.1 c z.2.1 51 1 z.2.2.1 z.2.2.2 ((Ci (K6 Y ps w w)).map A7)∧F8 z.2.1 0) ?_ ?_
  ·(repeat refine AW.seq_k fun K hK=>?_);refine AW.rg ?_;simp;try (refine hK _ rfl ?_;clear hK K)
   refine Ac.val hwid ?_;simp;refine hK _ rfl ?_;clear hK K;refine AW.block (AW.loopS (ι:=Nat × Qjb) (fun z=>[(0,Ba m),(4,Ba (Ci Y)),(5,.sl 1 (Al ps)),(7,.ptr c 1 0 0),(8,z.2.ov),(9,.int .i64 (z.2.next:Nat)),(26,.int .i64 w),(27,.int .i64 (z.1:Nat))]) (fun z=>z.2.M) (fun z=>z.1≤w∧Qph c Y ps w z.1 z.2) (fun z=>w-z.1) (0,⟨0,.agg [.int .i64 0],Aa.emp.set c ⟨118,1,[.agg [.int .i64 0]]⟩,.nil,[]⟩) ⟨by simp,Il.start _ _ _ _,rfl,by simp,by simp,by simp⟩ rfl (by simp) ?_);rintro⟨j,next,x,M,ov,ob⟩ ⟨g1,g2,g3,g4,g5,g6⟩;simp only at g1 g2 g3 g4 g5 g6
   simp only;(repeat refine AW.seq_k fun K hK=>?_);refine AW.rg ?_;simp;try (refine hK _ rfl ?_;clear hK K)
   (repeat refine AW.seq ?_);refine AW.cs (fun hj=>?_) (fun hj=>?_) rfl<;>(try simp at hj)
   ·refine AW.skip ?_;try simp
    have w1:=Aq (j+1) (by omega);have w2:=Aq (next+1) (by omega);refine AW.seq_ex (ι:=Qjb) (fun s=>[(0,Ba m),(4,Ba (Ci Y)),(5,.sl 1 (Al ps)),(7,.ptr c 1 0 0),(8,s.ov),(9,.int .i64 (s.next:Nat)),(26,.int .i64 w),(27,.int .i64 (j:Nat))]) (fun s=>s.M) (fun s=>Qph c Y ps w (j+1) s) ?_ ?_
    ·(repeat refine AW.seq ?_);refine AW.block ?_;(repeat refine AW.seq_k fun K hK=>?_);refine AW.rg ?_;simp;try (refine hK _ rfl ?_;clear hK K)
     refine AW.seq_ex (ι:=Unit) (fun _=>[(0,Ba m),(4,Ba (Ci Y)),(5,.sl 1 (Al ps)),(7,.ptr c 1 0 0),(8,ov),(9,.int .i64 (next:Nat)),(10,.int .i64 (j:Nat)),(26,.int .i64 w),(27,.int .i64 (j:Nat))]) (fun _=>M) (fun _=>j ∉ ps∧∀i,next≤i→i<ps.length→j+1≤ps.getD i 0) ?_ ?_
     ·by_cases hn:next<ps.length
      ·have hgn:ps.getD next 0=ps[next]:=by rw[List.getD_eq_getElem?_getD,List.getElem?_eq_getElem hn];rfl
       by_cases hp:ps[next]=j
       ·(repeat refine AW.seq_k fun K hK=>?_);refine AW.rg ?_;simp[hn,hp];try (refine hK _ rfl ?_;clear hK K)
        refine AW.yes ?_ rfl;(repeat refine AW.seq_k fun K hK=>?_);refine AW.rg ?_;simp[-Int.natCast_add,w2];try (refine hK _ rfl ?_;clear hK K)
        refine AW.exit ?_;try simp[-Int.natCast_add]
        have hmem:j∈ps:=by rw[←hp];exact List.getElem_mem hn
        rw[←hgn]at hp;refine⟨⟨next+1,x,M,ov,ob⟩,⟨?_,g3,hn,fun i hi=>?_,fun i hi hi2=>?_⟩,by simp⟩
        ·rw[T7,if_pos hmem];exact g2
        ·rcases Nat.lt_succ_iff_lt_or_eq.1 hi with h|rfl
         ·have:=g5 i h;omega
         ·omega
        ·have hi:next+1≤i:=hi;have:=Qcl y7 (i:=next) (j:=i) (by omega) hi2;omega
       ·(repeat refine AW.seq_k fun K hK=>?_);refine AW.rg ?_;simp[hn,hp];try (refine hK _ rfl ?_;clear hK K)
        refine AW.no ?_ rfl;refine AW.skip ?_;try simp
        have hge:∀i,next≤i→i<ps.length→j+1≤ps.getD i 0:=fun i hi hi2=>by
         have h1:=g6 next (by omega) hn;rw[←hgn]at hp;rcases Nat.lt_or_eq_of_le hi with h | h
         ·have:=Qcl y7 (i:=next) (j:=i) h hi2;omega
         ·subst h;omega
        refine⟨fun hm=>?_,hge⟩;obtain⟨i,hi,e⟩:=List.mem_iff_getElem.1 hm;have e:ps.getD i 0=j:=by rw[List.getD_eq_getElem?_getD,List.getElem?_eq_getElem hi];exact e
        rcases Nat.lt_or_ge i next with h|h
        ·have:=g5 i h;omega
        ·have:=hge i h hi;omega
      ·(repeat refine AW.seq_k fun K hK=>?_);refine AW.rg ?_;simp[hn];try (refine hK _ rfl ?_;clear hK K)
       refine AW.no ?_ rfl;refine AW.skip ?_;try simp
       refine⟨fun hm=>?_,fun i hi hi2=>by omega⟩;obtain⟨i,hi,e⟩:=List.mem_iff_getElem.1 hm;have e:ps.getD i 0=j:=by rw[List.getD_eq_getElem?_getD,List.getElem?_eq_getElem hi];exact e
       have:=g5 i (by omega);omega
     rintro _ ⟨hnm,hge⟩;(repeat refine AW.seq_k fun K hK=>?_);refine AW.rg ?_;simp;try (refine hK _ rfl ?_;clear hK K)
     refine Ac.val hwid ?_;simp;refine Ac.make hvec ?_;rintro bv _ _ ⟨rfl,rfl⟩ hbv _;simp;refine hK _ rfl ?_;clear hK K;obtain⟨nbc,nbo⟩:=g2.fresh hbv;(repeat refine AW.seq_k fun K hK=>?_);refine AW.rg ?_;simp;try (refine hK _ rfl ?_;clear hK K)
     refine Ac.val hone ?_;simp[hj];refine hK _ rfl ?_;clear hK K;generalize hv0:(List.replicate w (0:Rat)).set j 1=v0 at *;have hv0l:v0.length=w:=by rw[←hv0];simp
     have hv0e:(Cm (List.replicate w (Bj 0))).set j (Bj 1).av=Cm (v0.map Bj):=by
      rw[K5,←hv0,List.map_set,List.map_replicate]
     refine AW.seq_ex (ι:=AV) (fun x=>[(0,Ba m),(4,Ba (Ci Y)),(5,.sl 1 (Al ps)),(7,.ptr c 1 0 0),(8,ov),(9,.int .i64 (next:Nat)),(10,.int .i64 (j:Nat)),(11,.osl bv 4 0 w),(26,.int .i64 w),(27,.int .i64 (j:Nat))]) (fun x=>(M.set c ⟨118,1,[x]⟩).set bv ⟨44,4,Cm ((Y7 Y ps w j).map Bj)⟩) (fun x=>F8 x 0) ?_ ?_
     ·(repeat refine AW.seq_k fun K hK=>?_);refine AW.rg ?_;simp;try (refine hK _ rfl ?_;clear hK K)
      refine AW.block (AW.loopS (ι:=Nat × AV) (fun z=>[(0,Ba m),(4,Ba (Ci Y)),(5,.sl 1 (Al ps)),(7,.ptr c 1 0 0),(8,ov),(9,.int .i64 (next:Nat)),(10,.int .i64 (j:Nat)),(11,.osl bv 4 0 w),(26,.int .i64 w),(27,.int .i64 (j:Nat)),(51,.sl 1 (Al ps)),(52,.int .i64 ps.length),(53,.int .i64 (z.1:Nat))]) (fun z=>(M.set c ⟨118,1,[z.2]⟩).set bv ⟨44,4,Cm ((X4 Y ps j z.1 v0).map Bj)⟩) (fun z=>z.1≤ps.length∧F8 z.2 0) (fun z=>ps.length-z.1) (0,x) ⟨by simp,g3⟩ ?_ (by simp) ?_)
      ·show M.set bv _=(M.set c _).set bv _
       rw[Aa.set_self g2.cell];rw[K5]at hv0e;rw[hv0e];rfl
      rintro⟨k,x⟩ ⟨q1,q2⟩;simp only at q1 q2;(repeat refine AW.seq_k fun K hK=>?_);refine AW.rg ?_;simp;try (refine hK _ rfl ?_;clear hK K)
      (repeat refine AW.seq ?_);refine AW.cs (fun hk=>?_) (fun hk=>?_) rfl<;>(try simp at hk)
      ·refine AW.skip ?_;try simp
       (repeat refine AW.seq ?_);refine AW.block ?_;(repeat refine AW.seq_k fun K hK=>?_);refine AW.rg ?_;simp[hk];try (refine hK _ rfl ?_;clear hK K)
       have hkY:k<Y.length:=by omega
       have hkE:k<(Ci Y).length:=by rw[Bh];exact hkY
       have hlk:(Am (Ci Y) k).length=w:=by rw[Cb,List.length_map];exact y2 k hkY
       have hjl:j<(Am Y k).length:=by rw[y2 k hkY];exact hj
       have hel:rr (Am (Ci Y) k) j=Bj (Jb Y k j):=by rw[Cb,Jd hjl];rfl
       have hgd:B1 (Jb Y k j):=y1.at hjl;obtain⟨n1,n2⟩:=Qfx hgd;have hpk:ps.getD k 0=ps[k]:=by rw[List.getD_eq_getElem?_getD,List.getElem?_eq_getElem hk];rfl
       have hpw:ps[k]<w:=y6 _ (List.getElem_mem hk);have hlf:(X4 Y ps j k v0).length=w:=by rw[J1,hv0l]
       have w3:=Aq (k+1) (by omega);(repeat refine AW.seq_k fun K hK=>?_);refine AW.rd [0,1,2,4,5,6,7,8,9,10,3,11,12,13] C8 ?_;simp[hkE,hlk,hj,hel];try (refine hK _ rfl ?_;clear hK K)
       refine Ac.val hzero ?_;simp;refine Qgt (c:=c) (x:=x) (e:=0) (a:=Bj 0) (b:=Bj (Jb Y k j)) (by simp[Ne.symm nbc]) (by simp) q2 (Gf _) (Gf _) (fun _=>⟨Eu Ut,Eu hgd⟩) ?_;rw[Gm,Gm,n1,Kp rfl];intro x' hx';simp[hpw,hlf,nbc];(repeat refine AW.seq_k fun K hK=>?_);refine AW.rg ?_;simp[-Int.natCast_add,w3];try (refine hK _ rfl ?_;clear hK K)
       refine⟨k+1,x',⟨hk,hx'⟩,by omega,?_,rfl⟩;rw[R3 (Ne.symm nbc)];rw[show X4 Y ps j (k+1) v0=(X4 Y ps j k v0).set (ps.getD k 0) (-(Jb Y k j)) from rfl,hpk,List.map_set]
      ·refine AW.exit ?_;try simp
       have:k=ps.length:=by omega
       subst this;exact⟨x,q2,by unfold Y7;rw[hv0]⟩
     rintro x' hx';have g2':=g2.setE x';have hM':(M.set c ⟨118,1,[x']⟩) bv=none:=by simp only[A1];rw[if_neg nbc];exact hbv
     refine AW.turn [(0,Ba m),(4,Ba (Ci Y)),(5,.sl 1 (Al ps)),(7,.ptr c 1 0 0),(8,ov),(9,.int .i64 (next:Nat)),(10,.int .i64 (j:Nat)),(11,A7 ((Y7 Y ps w j).map Bj)),(26,.int .i64 w),(27,.int .i64 (j:Nat))] (M.set c ⟨118,1,[x']⟩) (Bo.drop hM' (g2'.ones hx' ?_)) ?_ ?_
     ·intro v hv;obtain⟨r,_,rfl⟩:=List.mem_map.1 hv;rfl
     ·simp;exact Ye (Aa.set_same _ _ _) hM' (by rw[List.length_map,Wo])
     have hfin:∀s:Qjb,s.next=next→F8 s.x 0→Il s.M c s.x 51 1 s.ov s.ob ((Ci (K6 Y ps w j)).map A7++[A7 ((Y7 Y ps w j).map Bj)])→Qph c Y ps w (j+1) s:=by
      intro s h1 h2 h3;refine⟨?_,h2,by rw[h1];exact g4,fun i hi=>?_,by rw[h1];exact hge⟩
      ·rw[T7,if_neg hnm];simpa[Ci]using h3
      ·rw[h1]at hi;have:=g5 i hi;omega
     have hll:((Ci (K6 Y ps w j)).map A7).length≤j:=by
      rw[List.length_map,Bh];unfold K6;rw[List.length_map];exact Nat.le_trans (List.length_filter_le _ _) (by simp)
     generalize(Ci (K6 Y ps w j)).map A7=l at *;generalize M.set c ⟨118,1,[x']⟩=M' at *;rcases g2'.lst with⟨z1,z2,z3⟩ | ⟨b0,z2,z3,z4⟩
     ·subst z1 z2 z3;(repeat refine AW.seq_k fun K hK=>?_);refine AW.rgR [74] ?_;simp;try (refine hK _ rfl ?_;clear hK K)
      exact⟨by unfold maxLen;omega,Ah.intro fun b hb=>⟨⟨next,x',_,_,[b]⟩,hfin _ rfl hx' (g2'.push0 hb _),rfl,rfl,rfl⟩⟩
     ·subst z2 z3;have hl2:l.length<2^40:=by omega
      (repeat refine AW.seq_k fun K hK=>?_);refine AW.rgR [74] ?_;simp[z4];try (refine hK _ rfl ?_;clear hK K)
      exact⟨by omega,by unfold maxLen;omega,Ah.intro fun b hb=>⟨⟨next,x',_,_,[b]⟩,hfin _ rfl hx' (g2'.push1 hb _),rfl,rfl,rfl⟩⟩
    rintro⟨next,x,M,ov,ob⟩ hs;(repeat refine AW.seq_k fun K hK=>?_);refine AW.rg ?_;simp[-Int.natCast_add,w1];try (refine hK _ rfl ?_;clear hK K)
    exact⟨j+1,⟨next,x,M,ov,ob⟩,⟨hj,hs⟩,by omega,by simp⟩
   ·refine AW.exit ?_;try simp
    have:j=w:=by omega
    subst this;exact⟨x,⟨ob,g2⟩,g3⟩
  rintro⟨M,x,ov,ob⟩ ⟨g1,g2⟩;simp only at g1 g2;have hx:x.cells=[.int .i64 0]:=g2;(repeat refine AW.seq_k fun K hK=>?_);refine AW.rg ?_;simp[g1.cell,hx];try (refine hK _ rfl ?_;clear hK K)
  refine AW.no ?_ rfl;refine AW.skip ?_;try simp
  refine hK _ rfl ?_;clear hK K;(repeat refine AW.seq_k fun K hK=>?_);refine AW.rg ?_;simp;try (refine hK _ rfl ?_;clear hK K)
  have hv:=g1.lst.view (M':=Aa.emp) (fun _ _=>rfl);exact AW.ret (Ag [Ba (Ci (K6 Y ps w w)),.int .i64 0] rfl ⟨hv,.same _,trivial⟩ ⟨rfl,rfl⟩)
 ·have hK:Vj m=((H2 m).1,[]):=if_pos h0;rw[hK];generalize H2 m=z at *;obtain⟨e,Y,ps⟩:=z;simp only at h0 hr ⊢;refine Ae Tryz.func106 rfl rfl 87 rfl (Nat.le_of_ble_eq_true rfl) ?_;(repeat refine AW.seq_k fun K hK=>?_);refine AW.rg ?_;simp[Ak];try (refine hK _ rfl ?_;clear hK K)
  (repeat refine AW.seq_k fun K hK=>?_);refine AW.rg ?_;simp;try (refine hK _ rfl ?_;clear hK K)
  refine Ac.val hr ?_;simp;refine hK _ rfl ?_;clear hK K;(repeat refine AW.seq_k fun K hK=>?_);refine AW.rg ?_;simp[h0];try (refine hK _ rfl ?_;clear hK K)
  refine AW.yes ?_ rfl;(repeat refine AW.seq_k fun K hK=>?_);refine AW.rg ?_;simp;try (refine hK _ rfl ?_;clear hK K)
  exact AW.ret (Ag [Ba [],.int .i64 e] rfl ⟨.nilsl 1,.same _,trivial⟩ ⟨rfl,rfl⟩)
end Go.Av
end
section
namespace Go.Av
section
variable {P:Program}
def Qqm (o:Oper):Bool:=match o.op with
 |.call c=>match c.callee,c.args.toList with
  |.builtin .min,[_,_,_]=>true
  |_,_=>false
 |_=>false
def Qvt (a b d:Int):Int:=if d<(if b<a then b else a) then d else (if b<a then b else a)
def Qt0 (o:Oper) (s:St):Option AV:=match o.op with
 |.call c=>match c.callee,c.args.toList with
  |.builtin .min,[x,y,z]=>match s.ev x,s.ev y,s.ev z with
   |.int k a,.int _ b,.int _ d=>some (.int k (Qvt a b d))
   |_,_,_=>none
  |_,_=>none
 |_=>none
def Qvs (P:Program) (cf:Dm) (o:Oper) (K:St→Prop) (s:St):Prop:=if Qqm o=true then ∃v,Qt0 o s=some v∧K ({s with m:=s.m}.put o.dst v) else Eg P cf o K s
def Qcy (P:Program) (cf:Dm):List Oper→(St→Prop)→St→Prop
 |[],K,s=>K s
 |o::rest,K,s=>o.guard=none∧Qvs P cf o (Qcy P cf rest K) s
@[simp] theorem Qtv (cf:Dm) (K:St→Prop) (s:St):Qcy P cf [] K s=K s:=(rfl)
@[simp] theorem Qpu (cf:Dm) (d:Option Tmp) (op:Op) (t:TypeId) (p:String) (a:Array Edge) (l:List Oper) (K:St→Prop) (s:St) :
  Qcy P cf ({dst:=d,op:=op,type:=t,pos:=p,after:=a,guard:=none}::l) K s↔Qvs P cf {dst:=d,op:=op,type:=t,pos:=p,after:=a,guard:=none} (Qcy P cf l K) s:=by
 show(_∧_)↔_
 simp
end
end Go.Av
end
section
namespace Go.Av
section
variable {P:Program}
def isY (o:Oper):Bool:=match o.op with
 |.slice _ _ (some _) (some _) none=>true
 |.call c=>match c.callee with | .builtin .clear=>true | _=>false
 |_=>false
def Qkj (P:Program) (o:Oper) (s:St) (k:AV→Aa→Prop):Prop:=match o.op with
 |.slice t x (some lo) (some hi) none=>∃ti e te b i n blk k1 k2,∃l h:Nat,Ai P t=some ti∧ti.cls=.slice e∧Ai P e=some te∧s.ev x=.osl b te.size i n∧s.m b=some blk∧blk.z=te.size ∧
   s.ev lo=.int k1 l∧s.ev hi=.int k2 h∧l<h∧i+h≤blk.l.length∧k (.osl b te.size (i+l) (h-l)) s.m
 |.call c=>match c.callee with
  |.builtin .clear=>∃x t ti e te b i n l,c.args.toList=[x]∧c.argTypes.toList=[t]∧Ai P t=some ti∧ti.cls=.slice e∧Ai P e=some te∧te.size=1∧te.zero.one=true ∧
    s.ev x=.osl b 1 i n∧s.m b=some ⟨e,1,l⟩∧0<n∧i+n≤l.length∧k .any (s.m.set b ⟨e,1,l.take i++List.replicate n te.zero++l.drop (i+n)⟩)
  |_=>False
 |_=>False
theorem Te (z:Value) (hz:z.cells=#[z]) (n:Nat):(Builtin.zeroCells z.cells n).toList=List.replicate n z:=by
 rw[hz];refine List.ext_getElem? fun k=>?_;rw[Array.getElem?_toList,List.getElem?_replicate];simp only[Builtin.zeroCells,List.size_toArray,List.length_cons,List.length_nil,Nat.mul_one,Nat.zero_add,Array.getElem?_map];by_cases h:k<n
 ·rw[if_pos h,Array.getElem?_range,if_pos h];simp[Nat.mod_one]
 ·rw[if_neg h,Array.getElem?_range,if_neg h];rfl
theorem Qa7 {F G:Nat→Prop} {w0 w:World} {s:St} {a:Act} (hrel:Ds F G w0 s a w) {o:Oper} (hok:F1 s.n o=true) {K:St→Prop} (h:Qkj P o s fun v m'=>K ({s with m:=m'}.put o.dst v)) (Q:Exit→Act→World→Prop):o.wp P a w (Ev F G w0 s.n K) Q:=by
 have hd:Lh s.n o.dst=true:=by unfold F1 at hok;rw[Bool.and_eq_true]at hok;exact hok.1
 have hall:∀x∈o.op.operands.toList,Fs s.n x=true:=by unfold F1 at hok;rw[Bool.and_eq_true]at hok;exact List.all_eq_true.1 hok.2
 unfold Qkj at h;split at h
 ·rename_i t x lo hi ho
  rw[ho]at hall;obtain⟨ti,e,te,b,i,n,blk,k1,k2,l,hh,ht,hc,hte,hx,hb,hbz,hlo,hhi,hlh,hin,hk⟩:=h;obtain⟨inf,d,z,hinf,hdd,hz,g1,g2,g3,g4,g5⟩:=(D7 ht).get;obtain⟨ie,de,ze,hie,hde,hze,q1,q2,q3,q4,q5⟩:=(D7 hte).get;rw[←g3]at hc;cases d<;>simp only[C3,reduceCtorEq,J5.slice.injEq]at hc
  subst hc;have hxv:=hrel.ev (hall x (by simp[Op.operands]));have hlv:=hrel.ev (hall lo (by simp[Op.operands]));have hhv:=hrel.ev (hall hi (by simp[Op.operands]));rw[hx]at hxv;rw[hlo]at hlv;rw[hhi]at hhv;obtain⟨cx,e1⟩:∃c,a.eval x=c:=⟨_,rfl⟩;obtain⟨cl,e2⟩:∃c,a.eval lo=c:=⟨_,rfl⟩;obtain⟨ch,e3⟩:∃c,a.eval hi=c:=⟨_,rfl⟩;rw[e1]at hxv;rw[e2]at hlv;rw[e3]at hhv;obtain⟨z0,zs,ones,cells,cap,h1,h2,h3,h4,h5⟩:=hrel.heap b blk hb;cases hlv;cases hhv;cases hxv with
  |osl _ _ _ _ c hcn hm =>
   obtain⟨cells',e',m1,m2⟩:=hm;rw[h1]at m1;cases m1;have hcap:i+c=cap:=Nat.eq_of_mul_eq_mul_right (m:=te.size) (by rw[←hbz];exact z0) (by rw[m2,h2,hbz]);have hlc:(l:Int)≤((hh:Nat):Int):=by omega
   have b1:=run_sliceBound (P:=P) w k2 (hh:Int) c BoundsCode.sliceAcap (by omega) (by omega);have b2:=run_sliceBound (P:=P) w k1 (l:Int) ((hh:Int).toNat) BoundsCode.sliceB (by omega) (by omega);refine C5 (cv:=.slice (some ⟨b,(i+l)*te.size,none⟩) (hh-l) (c-l)) ?_ ⟨_,hk,Hn _ _ _,hrel.put hd (.osl _ _ _ _ _ (by omega) ⟨_,_,h1,by rw[←m2];congr 1;omega⟩)⟩;unfold execOp;rw[ho];have hne:¬c=l:=by omega
   simp only[Int.toNat_natCast]at b1 b2;simp[e1,e2,e3,Instr.sliceAt,Instr.slice,run_underlying hdd,Instr.sliceBounds,b1,b2,Ez hie,q1,hne,Dw,Nat.add_mul]
 ·rename_i c ho
  rw[ho]at hall;split at h
  ·rename_i hcal
   obtain⟨x,t,ti,e,te,b,i,n,l,hxs,hts,ht,hc,hte,hz1,hone,hx,hb,hn0,hin,hk⟩:=h;obtain⟨callee,args,argTypes⟩:=c;simp only at hcal hxs hts;subst hcal;have ha:args=#[x]:=Array.toList_inj.1 hxs;have hat:argTypes=#[t]:=Array.toList_inj.1 hts;subst ha;subst hat;obtain⟨inf,d,z,hinf,hdd,hz,g1,g2,g3,g4,g5⟩:=(D7 ht).get;obtain⟨ie,de,ze,hie,hde,hze,q1,q2,q3,q4,q5⟩:=(D7 hte).get;rw[←g3]at hc;cases d<;>simp only[C3,reduceCtorEq,J5.slice.injEq]at hc
   subst hc
   rename_i e
   have hxv:=hrel.ev (hall x (by simp[Op.operands,Call.operands]));rw[hx]at hxv;obtain⟨cx,e1⟩:∃c,a.eval x=c:=⟨_,rfl⟩;rw[e1]at hxv;obtain⟨z0,zs,ones,cells,cap,h1,h2,h3,h4,h5⟩:=hrel.heap b _ hb;simp only[Nat.mul_one]at z0 zs ones h1 h2 h4 h5;have hzv:VR w (Cg F s.m) te.zero ze:=by rw[←q4];exact Ht w _ ze
   have hzo:=hzv.oneCell hone;have hzc:ze.cells=#[ze]:=by cases ze<;>first | rfl | (simp[Value.oneCell']at hzo)
   cases hxv with
   |osl _ _ _ _ cc hcn hm =>
    have hlen:(List.replicate n ze).length=n:=List.length_replicate;have hfit:i*1+(List.replicate n ze).length≤cells.size:=by rw[hlen];omega
    have hst:=run_storeCells_at P b (i*1) e (List.replicate n ze) 0 cells w h1 (by simpa using hfit) (fun v hv=>by rw[(List.mem_replicate.1 hv).2];exact hzo);simp only[Nat.add_zero]at hst;have hsz:=J7 cells (List.replicate n ze) (i*1) hfit;refine C5 (cv:=.tuple #[]) (w':=w.setRow b (cells.toList.take (i*1)++List.replicate n ze++cells.toList.drop (i*1+(List.replicate n ze).length)).toArray) ?_ ⟨_,hk,by rw[Hn],(hrel.setRow hb (⟨e,1,l.take i++List.replicate n te.zero++l.drop (i+n)⟩:Ep) rfl rfl h1 _ hsz ?_ (fun v hv=>?_) (fun i' j u hu=>?_) (fun i' j u hu=>?_)).put hd (.any _)⟩
    ·unfold execOp;rw[ho];have hn:n≠0:=by omega
     obtain⟨n',rfl⟩:∃n',n=n'+1:=⟨n-1,by omega⟩;have hzv':(zeroValue e).run P w=.ok ze w:=by simp[zeroValue,typeInfo,hie,hze]
     have hzl:=Te ze hzc (n'+1);simp only[Nat.mul_one,List.length_replicate,List.append_assoc]at hst;simp[resolve,invoke,builtin,e1,Builtin.clear_,run_underlying hdd,hzv',hzl];rw[hst];simp
    ·simp;omega
    ·rcases List.mem_append.1 hv with hv|hv
     ·rcases List.mem_append.1 hv with hv|hv
      ·exact zs v (List.mem_of_mem_take hv)
      ·rw[(List.mem_replicate.1 hv).2];cases hz0:te.zero<;>rw[hz0]at hone<;>first | rfl | cases hone
     ·exact zs v (List.mem_of_mem_drop hv)
    ·have hget:∀k,(l.take i++List.replicate n te.zero++l.drop (i+n))[k]?=if i≤k∧k<i+n then some te.zero else l[k]?:=by
      intro k;by_cases p1:k<i
      ·rw[if_neg (by omega),List.append_assoc,List.getElem?_append_left (by simp;omega),List.getElem?_take,if_pos p1]
      ·by_cases p2:k<i+n
       ·rw[if_pos (by omega),List.append_assoc,List.getElem?_append_right (by simp;omega),List.getElem?_append_left (by simp;omega),List.getElem?_replicate,if_pos (by simp;omega)]
       ·rw[if_neg (by omega),List.getElem?_append_right (by simp;omega),List.getElem?_drop];congr 1;simp;omega
     unfold Ay at hu;rw[hget]at hu;split at hu
     ·have:te.zero.cells=[te.zero]:=by cases hz0:te.zero<;>rw[hz0]at hone<;>first | rfl | cases hone
      simp only[Option.bind_some,this]at hu;rcases j with _ | j
      ·simp at hu;rw[←hu];exact hone
      ·simp at hu
     ·exact ones i' j u hu
    ·have hget:∀k,(l.take i++List.replicate n te.zero++l.drop (i+n))[k]?=if i≤k∧k<i+n then some te.zero else l[k]?:=by
      intro k;by_cases p1:k<i
      ·rw[if_neg (by omega),List.append_assoc,List.getElem?_append_left (by simp;omega),List.getElem?_take,if_pos p1]
      ·by_cases p2:k<i+n
       ·rw[if_pos (by omega),List.append_assoc,List.getElem?_append_right (by simp;omega),List.getElem?_append_left (by simp;omega),List.getElem?_replicate,if_pos (by simp;omega)]
       ·rw[if_neg (by omega),List.getElem?_append_right (by simp;omega),List.getElem?_drop];congr 1;simp;omega
     have hseg:=Ky cells (List.replicate n ze) (i*1) (i'*1+j) hfit;simp only[hlen,Nat.mul_one]at hseg ⊢;have htz:te.zero.cells=[te.zero]:=by cases hz0:te.zero<;>rw[hz0]at hone<;>first | rfl | cases hone
     unfold Ay at hu;rw[hget]at hu;split at hu
     ·rename_i hb'
      simp only[Option.bind_some,htz]at hu;rcases j with _ | j
      ·simp at hu;refine⟨ze,?_,by rw[←hu];exact hzv⟩;rw[hseg,if_pos (by omega),List.getElem?_replicate,if_pos (by omega)]
      ·simp at hu
     ·rename_i hb'
      have hj0:j=0:=by
       obtain⟨v,hv1,hv2⟩:=Option.bind_eq_some_iff.1 hu;have:=zs v (List.mem_of_getElem? hv1);have:=(List.getElem?_eq_some_iff.1 hv2).1;omega
      subst hj0;obtain⟨v,p1,p2⟩:=h5 i' 0 u hu;refine⟨v,?_,p2⟩;rw[hseg,if_neg (by omega)];exact p1
  ·exact h.elim
 ·exact h.elim
def Qeg (P:Program) (cf:Dm) (o:Oper) (K:St→Prop) (s:St):Prop:=if isY o=true then Qkj P o s fun v m'=>K ({s with m:=m'}.put o.dst v) else Eg P cf o K s
def Le (P:Program) (cf:Dm):List Oper→(St→Prop)→St→Prop
 |[],K,s=>K s
 |o::rest,K,s=>o.guard=none∧Qeg P cf o (Le P cf rest K) s
theorem Qak {F G:Nat→Prop} {w0 w:World} {s:St} {a:Act} (hrel:Ds F G w0 s a w) {cf:Dm} (hav:∀b,cf.av b→b<w.heap.size) {o:Oper} (hok:F1 s.n o=true) {K:St→Prop} (h:Qeg P cf o K s) (Q:Exit→Act→World→Prop):o.wp P a w (Ev F G w0 s.n K) Q:=by
 unfold Qeg at h;split at h
 ·exact Qa7 hrel hok h Q
 ·exact Ks hrel hav hok h Q
theorem Ov {F G:Nat→Prop} {w0:World} {cf:Dm} (hcf:∀b,¬cf.av b) {ops:Array Oper} {K:St→Prop} {QQ:Exit→Act→World→Prop} (n:Nat) (hQ:∀a w,Ev F G w0 n K a w→QQ .normal a w) :
  ∀(l:List Oper) (s:St) (a:Act) (w:World),s.n=n→(∀o∈l,(F1 n o&&Ip ops n o)=true)→Ds F G w0 s a w→Le P cf l K s→wpList P ops QQ l a w
 |[],s,a,w,hn,_,hr,hk=>hQ a w ⟨s,hk,hn,hr⟩
 |o::rest,s,a,w,hn,hok,hr,hk=>by
  have ho:=hok o (by simp);rw[Bool.and_eq_true]at ho;have hrest:∀o∈rest,(F1 n o&&Ip ops n o)=true:=fun x hx=>hok x (by simp[hx]);have hmono:∀{s:St} {a:Act} {w:World},s.n=n→Ev F G w0 s.n (Le P cf rest K) a w→wpList P ops QQ rest a w:=by
   rintro s a w hn ⟨s',h1,h2,h3⟩;exact Ov hcf n hQ rest s' a w (h2.trans hn) hrest h3 h1
  have hop:Ds F G w0 s a w→Qeg P cf o (Le P cf rest K) s→o.wp P a w (wpList P ops QQ rest) QQ:=by
   intro hr hk;have:=Qak hr (fun b hb=>(hcf b hb).elim) (by rw[hn];exact ho.1) hk QQ;unfold Oper.wp at this ⊢
   revert this
   generalize(execOp a.eval o).run P w=res;intro this;have hm:∀a w,Ev F G w0 s.n (Le P cf rest K) a w→wpList P ops QQ rest a w:=fun a w h=>hmono hn h;unfold Oper.upon at this ⊢;split at this<;>first
    |exact hm _ _ this
    |(refine Calls.mono this ?_;intro e w' h;cases e<;>first | exact hm _ _ h | exact h)
    |(refine Rows.mono this ?_;intro e w' h;exact hm _ _ h)
    |exact this
    |exact this.elim
  unfold wpList;unfold Le at hk;rw[if_pos (by simp[Region.wanted,hk.1])];exact .inl (hop hr hk.2)
theorem AW.rgY {Q:Exit→St→Prop} {s:St} {id:Nat} {ops:Array Oper} (h:Le P (Dm.txt fun _=>false) ops.toList (Q .normal) s) (hok:Bu s.n ops=true:=by kernel_rfl):AW P (.region id ops false) Q s:=by
 intro F G w0 a w hr;refine wp_region_list (Ov (F:=F) (G:=G) (w0:=w0) (cf:=Dm.txt fun _=>false) (fun _ h=>h) s.n (K:=Q .normal) (fun a w h=>h) ops.toList s a w rfl (fun o ho=>?_) hr h);unfold Bu at hok;exact List.all_eq_true.1 hok o ho
@[simp] theorem Qti (cf:Dm) (K:St→Prop) (s:St):Le P cf [] K s=K s:=(rfl)
@[simp] theorem Qoz (cf:Dm) (d:Option Tmp) (op:Op) (t:TypeId) (p:String) (a:Array Edge) (l:List Oper) (K:St→Prop) (s:St) :
  Le P cf ({dst:=d,op:=op,type:=t,pos:=p,after:=a,guard:=none}::l) K s↔Qeg P cf {dst:=d,op:=op,type:=t,pos:=p,after:=a,guard:=none} (Le P cf l K) s:=by
 show(_∧_)↔_
 simp
theorem AW.rdL {Q:Exit→St→Prop} {s:St} {id:Nat} {ops:Array Oper} (bl:List Nat) (plan:List Nat) (hm:P.follows .mixedOrders=true) (hb:∀c∈bl,s.m c≠none) (h:Cr P ⟨fun _=>false,fun c=>c∈bl,true⟩ ops plan (Q .normal) s)
  (hok:Bu s.n ops=true:=by kernel_rfl) (hp:G9 P (fun _=>false) ops plan=true:=by kernel_rfl):AW P (.region id ops true) Q s :=
 AW.draw (fun _=>false) (fun c=>c∈bl) plan hm hok hp hb h
theorem AW.rdLR {Q:Exit→St→Prop} {s:St} {id:Nat} {ops:Array Oper} (ro bl:List Nat) (plan:List Nat) (hm:P.follows .mixedOrders=true) (hb:∀c∈bl,s.m c≠none) (h:Cr P ⟨roL ro,fun c=>c∈bl,true⟩ ops plan (Q .normal) s)
  (hok:Bu s.n ops=true:=by kernel_rfl) (hp:G9 P (roL ro) ops plan=true:=by kernel_rfl):AW P (.region id ops true) Q s :=
 AW.draw (roL ro) (fun c=>c∈bl) plan hm hok hp hb h
theorem Ds.shrink {F G:Nat→Prop} {w0 w:World} {s:St} {a:Act} (h:Ds F G w0 s a w) {b:Nat} {e:TypeId} {z:Nat} {l:List AV} (hb:s.m b=some ⟨e,z,l⟩) (k:Nat):Ds F G w0 {s with m:=s.m.set b ⟨e,z,l.take k⟩} a w:=by
 have hO:∀c,s.m.set b ⟨e,z,l.take k⟩ c≠none→s.m c≠none:=fun c hc=>by
  by_cases hcb:c=b
  ·subst hcb;rw[hb];simp
  ·rwa [Aa.set_other _ _ hcb]at hc
 have hF:∀c,c<w.heap.size→Cg F (s.m.set b ⟨e,z,l.take k⟩) c→Cg F s.m c:=fun c _ hc=>hc.elim .inl fun x=>.inr (hO c x);refine h.world _ (D2.refl _ w) (fun c x hx=>?_) (fun c hc=>.inl (hO c hc));by_cases hcb:c=b
 ·subst hcb;rw[Aa.set_same]at hx;cases hx;obtain⟨z0,zs,ones,cells,cap,h1,h2,h3,h4,h5⟩:=h.heap c _ hb;have hcell:∀i j u,Ay (l.take k) i j=some u→Ay l i j=some u:=fun i j u hu=>by
   unfold Ay at hu ⊢;rw[List.getElem?_take]at hu;split at hu
   ·exact hu
   ·simp at hu
  exact⟨z0,fun v hv=>zs v (List.mem_of_mem_take hv),fun i j u hu=>ones i j u (hcell i j u hu),cells,cap,h1,h2,h3,Nat.le_trans (by simp only[List.length_take];exact Nat.min_le_right _ _) h4,fun i j u hu=>by
   obtain⟨v,p1,p2⟩:=h5 i j u (hcell i j u hu);exact⟨v,p1,p2.mono (D2.refl (fun _=>False) w) (fun _ _ x=>x.elim) hF⟩⟩
 ·rw[Aa.set_other _ _ hcb]at hx;exact(h.heap c x hx).mono (D2.refl (fun _=>False) w) (fun x=>x) (fun _ _ x=>x.elim) hF
theorem AW.shrink {Q:Exit→St→Prop} {c:Code} {n:Nat} {L:List (Nat × AV)} {m:Aa} {b:Nat} {e:TypeId} {z:Nat} {l:List AV} (hb:m b=some ⟨e,z,l⟩) (k:Nat) (h:AW P c Q (Av.S n L (m.set b ⟨e,z,l.take k⟩))):AW P c Q (Av.S n L m):=by
 intro F G w0 a w hr;exact h F G w0 a w (hr.shrink hb k)
@[simp] theorem Qiv (P:Program) (size bytes m e:Nat) (zero:AV) (fs:List (Nat × Nat × Option Bool)) (b z i j:Nat) (k:IntKind) (n:Int):Bs P ⟨size,bytes,.array m e,zero,fs⟩ (.ptr b z i j) (.int k n)=(Ai P e).bind fun te=>if 0≤n∧n<m then some (.ptr b z i (j+n.toNat*te.size)) else none:=by
 unfold Bs
 dsimp only
 cases Ai P e<;>rfl
@[simp] theorem Qg4 (P:Program) (size bytes m e:Nat) (zero:AV) (fs:List (Nat × Nat × Option Bool)) (cs:List AV) (k:IntKind) (n:Int):Bs P ⟨size,bytes,.array m e,zero,fs⟩ (.rptr cs) (.int k n)=(Ai P e).bind fun te=>if 0≤n∧n<m then some (.rptr (cs.drop (n.toNat*te.size))) else none:=by
 unfold Bs
 dsimp only
 cases Ai P e<;>rfl
section
variable {cf:Dm} {K:St→Prop} {s:St} {d:Option Tmp} {ty:TypeId} {p:String} {a:Array Edge} {g:Option (Nat × Bool)}
@[simp] theorem Qox (t:TypeId) (x m:Operand) (lo hi:Option Operand):Eg P cf ⟨d,.slice t x lo hi (some m),ty,p,a,g⟩ K s↔Db ((Ai P t).bind fun ti=>Js P ti (s.ev x) (lo.map s.ev) (hi.map s.ev) (s.ev m)) (Ex K s d):=Iff.rfl
end
@[simp] theorem Qqf (P:Program) (size bytes e:Nat) (zero:AV) (fs:List (Nat × Nat × Option Bool)) (b z i n:Nat) (k k' k'':IntKind) (l h m:Int):Js P ⟨size,bytes,.slice e,zero,fs⟩ (.osl b z i n) (some (.int k l)) (some (.int k' h)) (.int k'' m) =
  (Ai P e).bind fun _=>if 0≤m∧m≤n then (D6 m.toNat (some (.int k l)) (some (.int k' h))).map (fun(q:Nat × Nat)=>if m.toNat=q.1 then .zc else .any) else none:=(rfl)
theorem Tr (P:Program) (size bytes e:Nat) (zero:AV) (fs:List (Nat × Nat × Option Bool)) (b z i n:Nat) (lo hi:Option AV):G0 P ⟨size,bytes,.slice e,zero,fs⟩ (.osl b z i n) lo hi=(Ai P e).bind fun te=>if z=te.size then (D6 n lo hi).map fun(q:Nat × Nat)=>if q.1=0 then .osl b z i q.2 else if q.2=q.1 then .sl z [] else .osl b z (i+q.1) (q.2-q.1) else none:=by
 unfold G0
 dsimp only
 cases Ai P e<;>rfl
end
end Go.Av
end
section
namespace Go.Lam
abbrev Ed:=Nat × Nat
def ins (X:Nat→Bool) (e:Ed):Bool:=X e.1&&X e.2
def spn (L:List Ed) (X:Nat→Bool):Nat:=L.countP (ins X)
def sz (n:Nat) (X:Nat→Bool):Nat:=(List.range n).countP X
def A4 (n:Nat) (L:List Ed):Prop:=∀X,2≤sz n X→spn L X+3≤2*sz n X
def Di (n:Nat) (L:List Ed) (X:Nat→Bool):Prop:=2≤sz n X∧spn L X+3=2*sz n X
def Dc (n:Nat) (e:Ed):Prop:=e.1<n∧e.2<n∧e.1≠e.2
def Zo (X Y:Nat→Bool):Nat→Bool:=fun v=>X v || Y v
def cap (X Y:Nat→Bool):Nat→Bool:=fun v=>X v&&Y v
def Es (a b:Nat):Nat→Bool:=fun v=>v==a || v==b
theorem Tz {α:Type} (l:List α) (p q:α→Bool):l.countP (fun a=>p a || q a)+l.countP (fun a=>p a&&q a)=l.countP p+l.countP q:=by
 induction l with
 |nil=>rfl
 |cons a l ih=>simp only[List.countP_cons];cases p a<;>cases q a<;>simp<;>omega
theorem Qb5 (n:Nat) (X Y:Nat→Bool):sz n (Zo X Y)+sz n (cap X Y)=sz n X+sz n Y:=Tz _ X Y
theorem countP_le {α:Type} {l:List α} {p q:α→Bool} (h:∀a∈l,p a=true→q a=true):l.countP p≤l.countP q:=List.countP_mono_left h
theorem Qo0 (L:List Ed) (X Y:Nat→Bool):spn L X+spn L Y≤spn L (Zo X Y)+spn L (cap X Y):=by
 have h:=Tz L (ins X) (ins Y);have h1:L.countP (fun a=>ins X a || ins Y a)≤spn L (Zo X Y):=countP_le (fun e _=>by simp only[ins,Zo];cases X e.1<;>cases X e.2<;>cases Y e.1<;>cases Y e.2<;>simp)
 have h2:L.countP (fun a=>ins X a&&ins Y a)≤spn L (cap X Y):=countP_le (fun e _=>by simp only[ins,cap];cases X e.1<;>cases X e.2<;>cases Y e.1<;>cases Y e.2<;>simp)
 unfold spn at *;omega
theorem Qf1 {n:Nat} {L:List Ed} (hs:A4 n L) {X Y:Nat→Bool} (hx:Di n L X) (hy:Di n L Y) (hc:2≤sz n (cap X Y)):Di n L (Zo X Y)∧Di n L (cap X Y):=by
 have h1:=Qb5 n X Y;have h2:=Qo0 L X Y;have h3:=hs _ hc;obtain⟨a1,a2⟩:=hx;obtain⟨b1,b2⟩:=hy;have hu:2≤sz n (Zo X Y):=by
  have:sz n X≤sz n (Zo X Y):=countP_le (fun v _ h=>by simp[Zo,h]);omega
 have h4:=hs _ hu;exact⟨⟨hu,by omega⟩,⟨hc,by omega⟩⟩
theorem Ux (n:Nat) (X:Nat→Bool):sz n X≤n:=by
 have:=List.countP_le_length (p:=X) (l:=List.range n);simpa[sz]using this
theorem Vb {n:Nat} {X Y:Nat→Bool} (h:∀v,v<n→X v=true→Y v=true):sz n X≤sz n Y:=countP_le (fun v hv=>h v (List.mem_range.1 hv))
theorem Yg {n:Nat} {X Y:Nat→Bool} (h:∀v,v<n→X v=Y v):sz n X=sz n Y:=List.countP_congr (fun v hv=>by rw[h v (List.mem_range.1 hv)])
theorem Tm {n:Nat} {L:List Ed} (hL:∀e∈L,Dc n e) {X Y:Nat→Bool} (h:∀v,v<n→X v=Y v):spn L X=spn L Y:=List.countP_congr (fun e he=>by
 obtain⟨h1,h2,_⟩:=hL e he;simp only[ins];rw[h _ h1,h _ h2])
theorem Qgy {n v:Nat} {X:Nat→Bool} (hv:v<n) (h:X v=true):1≤sz n X:=List.countP_pos_iff.2 ⟨v,List.mem_range.2 hv,h⟩
theorem Wi (n v:Nat):(List.range n).count v=if v<n then 1 else 0:=by
 split
 ·rename_i h
  exact List.nodup_range.count (a:=v) |>.trans (by simp[h])
 ·rename_i h
  exact List.count_eq_zero.2 (by simpa using h)
theorem Kk (n a:Nat) (ha:a<n):sz n (fun v=>v==a)=1:=by
 have:=Wi n a;rw[if_pos ha]at this;exact this
theorem Qb4 {n a b:Nat} (ha:a<n) (hb:b<n) (h:a≠b):sz n (Es a b)=2:=by
 have h1:=Qb5 n (fun v=>v==a) (fun v=>v==b);rw[Kk n a ha,Kk n b hb]at h1;have:sz n (cap (fun v=>v==a) (fun v=>v==b))=0:=by
  refine List.countP_eq_zero.2 fun v _=>?_;simp only[cap,Bool.and_eq_true,beq_iff_eq];rintro⟨rfl,h'⟩;exact h h'
 rw[this]at h1;exact h1
theorem Vo {n a b:Nat} {X:Nat→Bool} (ha:a<n) (hb:b<n) (h:a≠b) (h1:X a=true) (h2:X b=true):2≤sz n X:=by
 rw[←Qb4 ha hb h];refine Vb fun v _ hv=>?_;simp only[Es,Bool.or_eq_true,beq_iff_eq]at hv;rcases hv with rfl | rfl<;>assumption
theorem Qdy {n a b:Nat} {X:Nat→Bool} (h:sz n X≤1) (ha:a<n) (hb:b<n) (h1:X a=true) (h2:X b=true):a=b:=by
 rcases Nat.decEq a b with h'|h'
 ·have:=Vo ha hb h' h1 h2;omega
 ·exact h'
theorem Qn {n:Nat} {L:List Ed} (hL:∀e∈L,Dc n e) {X:Nat→Bool} (h:sz n X≤1):spn L X=0:=by
 refine List.countP_eq_zero.2 fun e he hx=>?_;obtain⟨h1,h2,h3⟩:=hL e he;simp only[ins,Bool.and_eq_true]at hx;exact h3 (Qdy h h1 h2 hx.1 hx.2)
theorem Rv (e:Ed) (L:List Ed) (X:Nat→Bool):spn (e::L) X=spn L X+if ins X e=true then 1 else 0:=List.countP_cons
theorem Hh (L M:List Ed) (X:Nat→Bool):spn (L++M) X=spn L X+spn M X:=List.countP_append
theorem Qfj {L M:List Ed} (h:L.Perm M) (X:Nat→Bool):spn L X=spn M X:=h.countP_eq _
theorem A4.perm {n:Nat} {L M:List Ed} (h:L.Perm M) (hs:A4 n L):A4 n M:=fun X hX=>by rw[←Qfj h];exact hs X hX
theorem A4.sub {n:Nat} {L M:List Ed} (h:∀X,spn L X≤spn M X) (hs:A4 n M):A4 n L:=fun X hX=>by
 have:=h X;have:=hs X hX;omega
theorem Sh {n:Nat} {L:List Ed} (hs:A4 n L) (e:Ed):A4 n (L++[e])↔∀X,Di n L X→ins X e=false:=by
 constructor
 ·intro h X hX;cases hi:ins X e with
  |false=>rfl
  |true =>
   have h1:=h X hX.1;rw[Hh,Rv,hi]at h1;simp[spn]at h1;have:=hX.2;unfold spn at this;omega
 ·intro h X hX;rw[Hh,Rv];have h1:=hs X hX;cases hi:ins X e with
  |false=>simp[spn]at *;omega
  |true =>
   have:spn L X+3≠2*sz n X:=fun e'=>by rw[h X ⟨hX,e'⟩]at hi;cases hi
   simp[spn]at *;omega
end Go.Lam
end
section
namespace Go.Lam
def sm (n:Nat) (f:Nat→Nat):Nat:=((List.range n).map f).sum
theorem Ku (n:Nat) (f:Nat→Nat):sm (n+1) f=sm n f+f n:=by simp[sm,List.range_succ]
theorem T1 {n:Nat} {f g:Nat→Nat} (h:∀v,v<n→f v≤g v):sm n f≤sm n g:=by
 induction n with
 |zero=>simp[sm]
 |succ n ih=>rw[Ku,Ku];have:=ih (fun v hv=>h v (by omega));have:=h n (by omega);omega
theorem Ha {n:Nat} {f g:Nat→Nat} (h:∀v,v<n→f v=g v):sm n f=sm n g :=
 Nat.le_antisymm (T1 fun v hv=>Nat.le_of_eq (h v hv)) (T1 fun v hv=>Nat.le_of_eq (h v hv).symm)
theorem Iy (n:Nat) (f g:Nat→Nat):sm n (fun v=>f v+g v)=sm n f+sm n g:=by
 induction n with
 |zero=>rfl
 |succ n ih=>simp only[Ku];omega
theorem Qai (n:Nat) (X:Nat→Bool):sm n (fun v=>if X v=true then 2 else 0)=2*sz n X:=by
 induction n with
 |zero=>rfl
 |succ n ih=>rw[Ku,ih];simp only[sz,List.range_succ,List.countP_append,List.countP_cons,List.countP_nil];split<;>omega
theorem Mg {n a:Nat} (ha:a<n) (c:Nat):sm n (fun v=>if v=a then c else 0)=c:=by
 induction n with
 |zero=>omega
 |succ n ih =>
  rw[Ku];by_cases h:n=a
  ·subst h;have:sm n (fun v=>if v=n then c else 0)=0:=by
    have:=Ha (n:=n) (f:=fun v=>if v=n then c else 0) (g:=fun _=>0) (fun v hv=>by simp;omega);rw[this];clear this;clear ha ih;induction n with
    |zero=>rfl
    |succ n ih=>rw[Ku,ih]
   simp[this]
  ·rw[ih (by omega)];simp[h]
structure Inv (n:Nat) (E:Nat→Ed) (A:List Nat) (fr:Nat→Nat) (cv:Nat→List Nat):Prop where
 two:∀v,v<n→fr v+(cv v).length=2
 perm:((List.range n).flatMap cv).Perm A
 ends:∀v,v<n→∀e∈cv v,(E e).1=v∨(E e).2=v
 ok:∀e∈A,Dc n (E e)
def S5 (n:Nat) (fr:Nat→Nat) (X:Nat→Bool):Nat:=sm n fun v=>if X v=true then fr v else 0
section
variable {n:Nat} {E:Nat→Ed} {A:List Nat} {fr:Nat→Nat} {cv:Nat→List Nat}
theorem Inv.mem (h:Inv n E A fr cv) {v e:Nat} (hv:v<n) (he:e∈cv v):e∈A:=h.perm.mem_iff.1 (List.mem_flatMap.2 ⟨v,List.mem_range.2 hv,he⟩)
theorem Inv.okAt (h:Inv n E A fr cv) {v e:Nat} (hv:v<n) (he:e∈cv v):Dc n (E e):=h.ok e (h.mem hv he)
def Fo (E:Nat→Ed) (e j:Nat):Nat:=(E e).1+(E e).2-j
theorem Inv.oth_lt (h:Inv n E A fr cv) {v e:Nat} (hv:v<n) (he:e∈cv v):Fo E e v<n∧Fo E e v≠v:=by
 obtain⟨h1,h2,h3⟩:=h.okAt hv he;unfold Fo;rcases h.ends v hv e he with h4|h4<;>omega
theorem Inv.ins_iff (h:Inv n E A fr cv) {v e:Nat} (hv:v<n) (he:e∈cv v) (X:Nat→Bool):ins X (E e)=(X v&&X (Fo E e v)):=by
 obtain⟨h1,h2,h3⟩:=h.okAt hv he;unfold Fo ins;rcases h.ends v hv e he with h4|h4
 ·rw[show(E e).1+(E e).2-v=(E e).2 by omega,h4]
 ·rw[show(E e).1+(E e).2-v=(E e).1 by omega,h4,Bool.and_comm]
theorem Inv.spn (h:Inv n E A fr cv) (X:Nat→Bool):spn (A.map E) X=sm n fun v=>(cv v).countP fun e=>ins X (E e):=by
 have e1:Lam.spn (A.map E) X=A.countP fun e=>ins X (E e):=by simp[Lam.spn,List.countP_map,Function.comp_def]
 rw[e1,←h.perm.countP_eq,List.countP_flatMap];rfl
theorem Inv.le (h:Inv n E A fr cv) (X:Nat→Bool):Lam.spn (A.map E) X+S5 n fr X≤2*sz n X:=by
 rw[h.spn,S5,←Iy,←Qai];refine T1 fun v hv=>?_;have h2:=h.two v hv;have hl:=List.countP_le_length (p:=fun e=>ins X (E e)) (l:=cv v);cases hx:X v with
 |true=>simp;omega
 |false =>
  have:(cv v).countP (fun e=>ins X (E e))=0:=List.countP_eq_zero.2 fun e he=>by rw[h.ins_iff hv he,hx];simp
  simp[this]
def Qe4 (n:Nat) (E:Nat→Ed) (cv:Nat→List Nat) (X:Nat→Bool):Prop:=∀v,v<n→X v=true→∀e∈cv v,X (Fo E e v)=true
theorem Inv.eq (h:Inv n E A fr cv) {X:Nat→Bool} (hs:Qe4 n E cv X):Lam.spn (A.map E) X+S5 n fr X=2*sz n X:=by
 rw[h.spn,S5,←Iy,←Qai];refine Ha fun v hv=>?_;have h2:=h.two v hv;cases hx:X v with
 |true =>
  have:(cv v).countP (fun e=>ins X (E e))=(cv v).length:=List.countP_eq_length.2 fun e he=>by rw[h.ins_iff hv he,hx,hs v hv hx e he];rfl
  simp[this];omega
 |false =>
  have:(cv v).countP (fun e=>ins X (E e))=0:=List.countP_eq_zero.2 fun e he=>by rw[h.ins_iff hv he,hx];simp
  simp[this]
theorem Inv.shut (h:Inv n E A fr cv) {X:Nat→Bool} (he:2*sz n X≤Lam.spn (A.map E) X+S5 n fr X):Qe4 n E cv X:=by
 intro v hv hx e hm;rcases Bool.eq_false_or_eq_true (X (Fo E e v))with h1 | h1
 ·exact h1
 ·exfalso
  have key:∀w,w<n→((cv w).countP fun e=>ins X (E e))+(if X w=true then fr w else 0)≤if X w=true then 2 else 0:=by
   intro w hw;have h2:=h.two w hw;have hl:=List.countP_le_length (p:=fun e=>ins X (E e)) (l:=cv w);cases hx:X w with
   |true=>simp;omega
   |false =>
    have:(cv w).countP (fun e=>ins X (E e))=0:=List.countP_eq_zero.2 fun e he=>by rw[h.ins_iff hw he,hx];simp
    simp[this]
  have strict:sm n (fun w=>((cv w).countP fun e=>ins X (E e))+(if X w=true then fr w else 0))+1≤sm n fun w=>if X w=true then 2 else 0:=by
   rw[←Mg hv 1,←Iy];refine T1 fun w hw=>?_;by_cases hwv:w=v
   ·subst hwv;have h2:=h.two w hw;have:(cv w).countP (fun e=>ins X (E e))<(cv w).length:=by
     rcases Nat.lt_or_ge ((cv w).countP fun e=>ins X (E e)) (cv w).length with h3 | h3
     ·exact h3
     ·have:=List.countP_eq_length.1 (Nat.le_antisymm List.countP_le_length h3) e hm;rw[h.ins_iff hw hm,h1]at this;simp at this
    simp[hx];omega
   ·simp only[hwv,if_false];exact key w hw
  rw[Qai,Iy,←h.spn]at strict;unfold S5 at he;omega
theorem Qg5 {X Y:Nat→Bool} (h:∀v,v<n→X v=true→Y v=true):S5 n fr X≤S5 n fr Y:=T1 fun v hv=>by
 cases hx:X v with
 |true=>simp[h v hv hx]
 |false=>simp
theorem Nq {a b:Nat} (ha:a<n) (hb:b<n) (hab:a≠b):S5 n fr (Es a b)=fr a+fr b:=by
 rw[←Mg ha (fr a),←Mg hb (fr b),←Iy];refine Ha fun v _=>?_;simp only[Es,Bool.or_eq_true,beq_iff_eq];by_cases h1:v=a
 ·subst h1;simp[hab]
 ·by_cases h2:v=b
  ·subst h2;simp[h1]
  ·simp[h1,h2]
theorem Ss {a:Nat} (ha:a<n):S5 n fr (fun v=>v==a)=fr a:=by
 rw[←Mg ha (fr a)];exact Ha fun v _=>by by_cases h:v=a<;>simp[h]
theorem X8 {X Y:Nat→Bool} (h:∀v,v<n→X v=true→Y v=false→fr v=0) (hy:∀v,v<n→Y v=true→X v=true):S5 n fr X=S5 n fr Y:=Ha fun v hv=>by
 cases hx:X v with
 |true=>cases hyv:Y v with
  |true=>rfl
  |false=>simp[h v hv hx hyv]
 |false=>cases hyv:Y v with
  |true=>rw[hy v hv hyv]at hx;cases hx
  |false=>rfl
theorem Inv.first (h:Inv n E A fr cv) (hs:A4 n (A.map E)) {a:Nat} (ha:a<n) {X:Nat→Bool} (hX:Qe4 n E cv X) (hXa:X a=true) (hz:∀v,v<n→X v=true→v≠a→fr v=0):2≤fr a:=by
 have e1:=h.eq hX;have e2:S5 n fr X=fr a:=by
  rw[←Ss (n:=n) (fr:=fr) ha];exact X8 (fun v hv hx hy=>hz v hv hx (by simpa using hy)) (fun v _ hv=>by simp at hv;rw[hv];exact hXa)
 rcases Nat.lt_or_ge (sz n X) 2 with h1|h1
 ·have h0:Lam.spn (A.map E) X=0:=Qn (n:=n) (fun e he=>by
   obtain⟨k,hk,rfl⟩:=List.mem_map.1 he;exact h.ok k hk) (by omega)
  have:=Qgy ha hXa;omega
 ·have:=hs X h1;omega
theorem Inv.second (h:Inv n E A fr cv) (hs:A4 n (A.map E)) {a b:Nat} (ha:a<n) (hb:b<n) (hab:a≠b) (h2:fr a=2) {X:Nat→Bool} (hX:Qe4 n E cv X) (hXa:X a=true) (hXb:X b=true)
  (hz:∀v,v<n→X v=true→v≠a→v≠b→fr v=0) (hlt:fr b<2):fr b=1∧Di n (A.map E) X:=by
 have e1:=h.eq hX;have e2:S5 n fr X=fr a+fr b:=by
  rw[←Nq (n:=n) (fr:=fr) ha hb hab];refine X8 (fun v hv hx hy=>?_) (fun v _ hv=>?_)
  ·simp only[Es,Bool.or_eq_false_iff,beq_eq_false_iff_ne]at hy;exact hz v hv hx hy.1 hy.2
  ·simp only[Es,Bool.or_eq_true,beq_iff_eq]at hv;rcases hv with rfl | rfl<;>assumption
 have h3:=Vo ha hb hab hXa hXb;have:=hs X h3;exact⟨by omega,h3,by omega⟩
theorem Inv.four (h:Inv n E A fr cv) {a b:Nat} (ha:a<n) (hb:b<n) (hab:a≠b) (h4:fr a+fr b=4) (X:Nat→Bool) (hXa:X a=true) (hXb:X b=true):¬Di n (A.map E) X:=by
 intro ht;have e1:=h.le X;have e2:S5 n fr (Es a b)≤S5 n fr X:=Qg5 fun v _ hv=>by
  simp only[Es,Bool.or_eq_true,beq_iff_eq]at hv;rcases hv with rfl | rfl<;>assumption
 rw[Nq ha hb hab]at e2;have:=ht.2;omega
end
end Go.Lam
end
section
namespace Go.Lam
def A2 (m:Nat):Nat→Bool:=fun v=>m.testBit v
theorem Jy (n:Nat) (X:Nat→Bool):∃m,m<2^n∧∀v,v<n→A2 m v=X v:=by
 induction n with
 |zero=>exact⟨0,by simp,fun v hv=>by omega⟩
 |succ n ih =>
  obtain⟨m,h1,h2⟩:=ih;cases hx:X n with
  |false =>
   refine⟨m,by rw[Nat.pow_succ];omega,fun v hv=>?_⟩;by_cases hvn:v=n
   ·subst hvn;rw[hx];exact Nat.testBit_lt_two_pow h1
   ·exact h2 v (by omega)
  |true =>
   refine⟨2^n+m,by rw[Nat.pow_succ];omega,fun v hv=>?_⟩;unfold A2;by_cases hvn:v=n
   ·subst hvn;rw[hx,Nat.testBit_two_pow_add_eq,Nat.testBit_lt_two_pow h1];rfl
   ·rw[Nat.testBit_two_pow_add_gt (by omega)];exact h2 v (by omega)
def He (n:Nat) (L:List Ed):Bool:=(List.range (2^n)).all fun m=>!(decide (2≤sz n (A2 m))&&decide (2*sz n (A2 m)<spn L (A2 m)+3))
theorem G3 {n:Nat} {L:List Ed} (hL:∀e∈L,Dc n e):He n L=true↔A4 n L:=by
 unfold He;rw[List.all_eq_true];constructor
 ·intro h X hX;obtain⟨m,h1,h2⟩:=Jy n X;have h3:=h m (List.mem_range.2 h1);rw[Yg h2,Tm hL h2]at h3;simp only[Bool.not_eq_true',Bool.and_eq_false_iff,decide_eq_false_iff_not]at h3;omega
 ·intro h m _;simp only[Bool.not_eq_true',Bool.and_eq_false_iff,decide_eq_false_iff_not];have:=h (A2 m);omega
def Hl (n:Nat) (E:Nat→Ed) (out:List Nat) (e:Nat):List Nat:=if He n ((out++[e]).map E)=true then out++[e] else out
def Bl (n:Nat) (E:Nat→Ed) (out s:List Nat):List Nat:=s.foldl (Hl n E) out
theorem A4.nil (n:Nat):A4 n []:=fun X hX=>by simp[spn];omega
theorem A4.append_left {n:Nat} {L M:List Ed} (h:A4 n (L++M)):A4 n L:=h.sub fun X=>by rw[Hh];omega
theorem A4.sublist {n:Nat} {L M:List Ed} (h:L.Sublist M) (hs:A4 n M):A4 n L:=hs.sub fun _=>h.countP_le
section
variable {n:Nat} {E:Nat→Ed}
theorem Yr {out:List Nat} {e:Nat} (ho:∀k∈out,Dc n (E k)) (he:Dc n (E e)) (hs:A4 n (out.map E)):A4 n ((Hl n E out e).map E):=by
 unfold Hl;split
 ·rename_i h
  exact(G3 (by simp only[List.mem_map,List.mem_append,List.mem_singleton];rintro _ ⟨k,hk | rfl,rfl⟩;exact ho k hk;exact he)).1 h
 ·exact hs
theorem Wr {out:List Nat} {e k:Nat} (h:k∈Hl n E out e):k∈out∨k=e:=by
 unfold Hl at h;split at h
 ·simpa using h
 ·exact .inl h
theorem O4 (out:List Nat) (e:Nat) (s:List Nat):Bl n E out (e::s)=Bl n E (Hl n E out e) s:=rfl
theorem Lj (out s t:List Nat):Bl n E out (s++t)=Bl n E (Bl n E out s) t:=by simp[Bl]
theorem L3 {k:Nat}:∀{s out:List Nat},k∈Bl n E out s→k∈out∨k∈s
 |[],_,h=>.inl h
 |e::s,out,h=>by
  rcases L3 (s:=s) h with h1|h1
  ·rcases Wr h1 with h2|h2
   ·exact .inl h2
   ·exact .inr (by simp[h2])
  ·exact .inr (by simp[h1])
theorem Ew:∀{s out:List Nat},(∀k∈out,Dc n (E k))→(∀k∈s,Dc n (E k))→A4 n (out.map E)→A4 n ((Bl n E out s).map E)
 |[],_,_,_,h=>h
 |e::s,out,ho,hs,h=>Ew (s:=s) (fun k hk=>by
   rcases Wr hk with h2|h2
   ·exact ho k h2
   ·rw[h2];exact hs e (by simp)) (fun k hk=>hs k (by simp[hk])) (Yr ho (hs e (by simp)) h)
theorem L9:∀(s out:List Nat),∃t,t.Sublist s∧Bl n E out s=out++t
 |[],out=>⟨[],.slnil,by simp[Bl]⟩
 |e::s,out=>by
  obtain⟨t,h1,h2⟩:=L9 s (Hl n E out e);rw[O4,h2];unfold Hl;split
  ·exact⟨e::t,h1.cons₂ e,by simp⟩
  ·exact⟨t,h1.cons e,rfl⟩
theorem Sd:∀{s out:List Nat},(∀k∈out,Dc n (E k))→(∀k∈s,Dc n (E k))→A4 n ((out++s).map E)→Bl n E out s=out++s
 |[],out,_,_,_=>by simp[Bl]
 |e::s,out,ho,hs,h=>by
  have h1:Hl n E out e=out++[e]:=by
   unfold Hl;rw[if_pos];refine(G3 ?_).2 ?_
   ·simp only[List.mem_map,List.mem_append,List.mem_singleton];rintro _ ⟨k,hk | rfl,rfl⟩;exact ho k hk;exact hs _ (by simp)
   ·have:(out++e::s).map E=(out++[e]).map E++s.map E:=by simp
    rw[this]at h;exact h.append_left
  rw[O4,h1,Sd (s:=s)]
  ·simp
  ·intro k hk;simp only[List.mem_append,List.mem_singleton]at hk;rcases hk with hk | rfl
   ·exact ho k hk
   ·exact hs _ (by simp)
  ·exact fun k hk=>hs k (by simp[hk])
  ·simpa using h
theorem F3 (s out:List Nat):(Bl n E out s).length≤out.length+s.length:=by
 obtain⟨t,h1,h2⟩:=L9 (n:=n) (E:=E) s out;rw[h2,List.length_append];have:=h1.length_le;omega
theorem Xo {s:List Nat} (hs:∀k∈s,Dc n (E k)):(Bl n E [] s).length=s.length↔He n (s.map E)=true:=by
 have hL:∀e∈s.map E,Dc n e:=by simp only[List.mem_map];rintro _ ⟨k,hk,rfl⟩;exact hs k hk
 constructor
 ·intro h;obtain⟨t,h1,h2⟩:=L9 (n:=n) (E:=E) s [];rw[h2]at h;have h3:t=s:=h1.eq_of_length (by simpa using h);have h4:=Ew (n:=n) (E:=E) (s:=s) (out:=[]) (by simp) hs (A4.nil n);rw[h2,h3]at h4;exact(G3 hL).2 (by simpa using h4)
 ·intro h;rw[Sd (by simp) hs (by simpa using(G3 hL).1 h)];simp
end
end Go.Lam
end
section
namespace Go.Lam
def G6 (n:Nat) (L:List Ed) (m:Nat):Bool:=decide (2≤sz n (A2 m))&&decide (spn L (A2 m)+3=2*sz n (A2 m))
theorem Qah {n:Nat} {L:List Ed} {m:Nat}:G6 n L m=true↔Di n L (A2 m):=by simp[G6,Di]
def E3 (n:Nat) (L:List Ed):List Nat:=(List.range (2^n)).filter (G6 n L)
def blocks (n:Nat) (L:List Ed):List Nat:=(E3 n L).filter fun m=>(E3 n L).all fun k=>k==m || k &&& m != m
theorem Di.congr {n:Nat} {L:List Ed} (hL:∀e∈L,Dc n e) {X Y:Nat→Bool} (h:∀v,v<n→X v=Y v) (ht:Di n L X):Di n L Y:=by
 unfold Di at *;rw[←Yg h,←Tm hL h];exact ht
theorem Yp {m k:Nat}:k &&& m=m↔∀v,A2 m v=true→A2 k v=true:=by
 constructor
 ·intro h v hv;rw[←h]at hv;unfold A2 at *;rw[Nat.testBit_and]at hv;simp at hv;exact hv.1
 ·intro h;refine Nat.eq_of_testBit_eq fun v=>?_;rw[Nat.testBit_and];have:=h v;unfold A2 at this;cases h1:m.testBit v<;>cases h2:k.testBit v<;>simp_all
theorem Qcn {n m:Nat} (h:m<2^n) {v:Nat} (hv:A2 m v=true):v<n:=by
 rcases Nat.lt_or_ge v n with h1|h1
 ·exact h1
 ·unfold A2 at hv;rw[Nat.testBit_lt_two_pow (Nat.lt_of_lt_of_le h (Nat.pow_le_pow_right (by omega) h1))]at hv;cases hv
theorem Ro {n m k:Nat} (hm:m<2^n) (hk:k<2^n) (h:∀v,v<n→A2 m v=A2 k v):m=k:=Nat.eq_of_testBit_eq fun v=>by
 rcases Nat.lt_or_ge v n with h1|h1
 ·exact h v h1
 ·rw[Nat.testBit_lt_two_pow (Nat.lt_of_lt_of_le hm (Nat.pow_le_pow_right (by omega) h1)),Nat.testBit_lt_two_pow (Nat.lt_of_lt_of_le hk (Nat.pow_le_pow_right (by omega) h1))]
theorem Qaj (m k:Nat):A2 (m ||| k)=Zo (A2 m) (A2 k):=by funext v;simp[A2,Zo,Nat.testBit_or]
section
variable {n:Nat} {L:List Ed}
theorem Bx {m:Nat}:m∈E3 n L↔m<2^n∧Di n L (A2 m):=by simp[E3,Qah]
theorem Cz {m:Nat}:m∈blocks n L↔m∈E3 n L∧∀k∈E3 n L,(∀v,A2 m v=true→A2 k v=true)→k=m:=by
 unfold blocks;rw[List.mem_filter,List.all_eq_true];refine and_congr_right fun _=>forall_congr' fun k=>forall_congr' fun _=>?_;rw[←Yp];by_cases h1:k=m
 ·simp[h1]
 ·by_cases h2:k &&& m=m<;>simp[h1,h2]
theorem Ik (hL:∀e∈L,Dc n e) {X:Nat→Bool} (h:Di n L X):∃m∈blocks n L,∀v,v<n→X v=true→A2 m v=true:=by
 suffices H:∀d,∀X,n≤sz n X+d→Di n L X→∃m∈blocks n L,∀v,v<n→X v=true→A2 m v=true from H n X (by omega) h
 intro d
 induction d with
 |zero =>
  intro X hd hX;obtain⟨m,h1,h2⟩:=Jy n X;have ht:Di n L (A2 m):=hX.congr hL fun v hv=>(h2 v hv).symm;refine⟨m,Cz.2 ⟨Bx.2 ⟨h1,ht⟩,fun k hk hs=>?_⟩,fun v hv hx=>by rw[h2 v hv];exact hx⟩;have full:∀v,v<n→X v=true:=fun v hv=>by
   rcases Bool.eq_false_or_eq_true (X v)with h3|h3
   ·exact h3
   ·have a1:=Qb5 n X (fun w=>w==v);rw[Kk n v hv]at a1;have a2:sz n (cap X fun w=>w==v)=0:=List.countP_eq_zero.2 fun w _=>by
     simp only[cap,Bool.and_eq_true,beq_iff_eq];rintro⟨h4,rfl⟩;rw[h3]at h4;cases h4
    have:=Ux n (Zo X fun w=>w==v);omega
  exact Ro (Bx.1 hk).1 h1 fun v hv=>by
   have:=hs v (by rw[h2 v hv];exact full v hv);rw[this,h2 v hv,full v hv]
 |succ d ih =>
  intro X hd hX;obtain⟨m,h1,h2⟩:=Jy n X;have ht:Di n L (A2 m):=hX.congr hL fun v hv=>(h2 v hv).symm;by_cases hm:m∈blocks n L
  ·exact⟨m,hm,fun v hv hx=>by rw[h2 v hv];exact hx⟩
  ·rw[Cz]at hm;have hm':¬∀k∈E3 n L,(∀v,A2 m v=true→A2 k v=true)→k=m:=fun hc=>hm ⟨Bx.2 ⟨h1,ht⟩,hc⟩;have ⟨k,hk⟩:=Classical.not_forall.1 hm';have ⟨hk1,hk2⟩:=Classical.not_imp.1 hk;have ⟨hk3,hk4⟩:=Classical.not_imp.1 hk2;obtain⟨hk5,hk6⟩:=Bx.1 hk1;have hlt:sz n X<sz n (A2 k):=by
    have a1:sz n X≤sz n (A2 k):=Vb fun v hv hx=>hk3 v (by rw[h2 v hv];exact hx);rcases Nat.lt_or_ge (sz n X) (sz n (A2 k))with h3 | h3
    ·exact h3
    ·exfalso
     refine hk4 (Ro hk5 h1 fun v hv=>?_);rw[h2 v hv];cases hb:A2 k v with
     |false =>
      cases hx:X v with
      |false=>rfl
      |true=>rw[hk3 v (by rw[h2 v hv];exact hx)]at hb;cases hb
     |true =>
      cases hx:X v with
      |true=>rfl
      |false =>
       have b1:=Qb5 n X (fun w=>w==v);rw[Kk n v hv]at b1;have b2:sz n (cap X fun w=>w==v)=0:=List.countP_eq_zero.2 fun w _=>by
        simp only[cap,Bool.and_eq_true,beq_iff_eq];rintro⟨h4,rfl⟩;rw[hx]at h4;cases h4
       have b3:sz n (Zo X fun w=>w==v)≤sz n (A2 k):=Vb fun w hw h5=>by
        simp only[Zo,Bool.or_eq_true,beq_iff_eq]at h5;rcases h5 with h5 | rfl
        ·exact hk3 w (by rw[h2 w hw];exact h5)
        ·exact hb
       omega
   obtain⟨m',h3,h4⟩:=ih (A2 k) (by omega) hk6;exact⟨m',h3,fun v hv hx=>h4 v hv (hk3 v (by rw[h2 v hv];exact hx))⟩
theorem Nr (hs:A4 n L) {m k:Nat} (hm:m∈blocks n L) (hk:k∈blocks n L) (h:2≤sz n (cap (A2 m) (A2 k))):m=k:=by
 obtain⟨hm1,hm2⟩:=Cz.1 hm;obtain⟨hk1,hk2⟩:=Cz.1 hk;have hu:=(Qf1 hs (Bx.1 hm1).2 (Bx.1 hk1).2 h).1;rw[←Qaj]at hu;have hlt:m ||| k<2^n:=Nat.or_lt_two_pow (Bx.1 hm1).1 (Bx.1 hk1).1;have e1:=hm2 _ (Bx.2 ⟨hlt,hu⟩) (fun v hv=>by rw[Qaj];simp[Zo,hv]);have e2:=hk2 _ (Bx.2 ⟨hlt,hu⟩) (fun v hv=>by rw[Qaj];simp[Zo,hv]);exact e1.symm.trans e2
theorem Gw:(blocks n L).Nodup:=(List.nodup_range.filter _).filter _
theorem Ir (hL:∀e∈L,Dc n e) (hs:A4 n L) {e:Ed} (he:e∈L):Di n L (Es e.1 e.2):=by
 obtain⟨h1,h2,h3⟩:=hL e he;have h4:sz n (Es e.1 e.2)=2:=Qb4 h1 h2 h3;refine⟨by omega,?_⟩;have:=hs _ (Nat.le_of_eq h4.symm);have h5:0<spn L (Es e.1 e.2):=List.countP_pos_iff.2 ⟨e,he,by simp[ins,Es]⟩;omega
theorem R5 {α β:Type} (p:α→β→Bool) (J:List β):∀l:List α,(l.map fun m=>J.countP (p m)).sum=(J.map fun e=>l.countP fun m=>p m e).sum
 |[]=>by
  simp only[List.map_nil,List.sum_nil,List.countP_nil]
  induction J with
  |nil=>rfl
  |cons a J ih=>rw[List.map_cons,List.sum_cons,←ih];rfl
 |a::l=>by
  rw[List.map_cons,List.sum_cons,R5 p J l]
  induction J with
  |nil=>rfl
  |cons b J ih=>simp only[List.countP_cons,List.map_cons,List.sum_cons]at *;omega
theorem K9 {α:Type} {p:α→Bool}:∀{l:List α},l.Nodup→(∀a∈l,∀b∈l,p a=true→p b=true→a=b)→l.countP p≤1
 |[],_,_=>by simp
 |a::l,hn,h=>by
  rw[List.nodup_cons]at hn;rw[List.countP_cons];cases hp:p a with
  |false=>simp;exact K9 hn.2 fun x hx y hy=>h x (by simp[hx]) y (by simp[hy])
  |true =>
   have:l.countP p=0:=List.countP_eq_zero.2 fun b hb hpb=>hn.1 (by rw[h a (by simp) b (by simp[hb]) hp hpb];exact hb);simp[this]
theorem Jf {α:Type} {f g:α→Nat}:∀{l:List α},(∀a∈l,f a≤g a)→(l.map f).sum≤(l.map g).sum
 |[],_=>by simp
 |a::l,h=>by
  have:=h a (by simp);have:=Jf (l:=l) fun b hb=>h b (by simp[hb]);simp;omega
theorem Qo {α:Type}:∀l:List α,(l.map fun _=>1).sum=l.length
 |[]=>rfl
 |a::l=>by rw[List.map_cons,List.sum_cons,Qo l,List.length_cons];omega
theorem Qe1 (hs:A4 n L) {e:Ed} (he:Dc n e):(blocks n L).countP (fun m=>ins (A2 m) e)≤1 :=
 K9 Gw fun m hm k hk h1 h2=>by
  simp only[ins,Bool.and_eq_true]at h1 h2;exact Nr hs hm hk (Vo he.1 he.2.1 he.2.2 (by simp only[cap];rw[h1.1,h2.1];rfl) (by simp only[cap];rw[h1.2,h2.2];rfl))
theorem Rk (hL:∀e∈L,Dc n e) (hs:A4 n L):((blocks n L).map fun m=>2*sz n (A2 m)-3).sum=L.length:=by
 have e1:((blocks n L).map fun m=>2*sz n (A2 m)-3)=(blocks n L).map fun m=>L.countP (ins (A2 m)):=List.map_congr_left fun m hm=>by
  have:=(Bx.1 (Cz.1 hm).1).2.2;unfold spn at this;omega
 rw[e1,R5 (fun m e=>ins (A2 m) e) L,←Qo L]
 congr 1
 refine List.map_congr_left fun e he=>Nat.le_antisymm (Qe1 hs (hL e he)) ?_;obtain⟨m,h1,h2⟩:=Ik hL (Ir hL hs he);refine List.countP_pos_iff.2 ⟨m,h1,?_⟩;obtain⟨h3,h4,_⟩:=hL e he;simp only[ins,Bool.and_eq_true];exact⟨h2 _ h3 (by simp[Es]),h2 _ h4 (by simp[Es])⟩
theorem Quu (hL:∀e∈L,Dc n e) (hs:A4 n L) {J:List Ed} (hJ:∀e∈J,Dc n e) (hj:A4 n J) (h:∀e∈J,∃X,Di n L X∧ins X e=true):J.length≤L.length:=by
 rw[←Rk hL hs,←Qo J];refine Nat.le_trans (Jf (g:=fun e=>(blocks n L).countP fun m=>ins (A2 m) e) fun e he=>?_) ?_
 ·obtain⟨X,hX,hi⟩:=h e he;obtain⟨m,h1,h2⟩:=Ik hL hX;obtain⟨h3,h4,_⟩:=hJ e he;simp only[ins,Bool.and_eq_true]at hi;exact List.countP_pos_iff.2 ⟨m,h1,by simp only[ins,Bool.and_eq_true];exact⟨h2 _ h3 hi.1,h2 _ h4 hi.2⟩⟩
 ·rw[←R5 (fun m e=>ins (A2 m) e) J];refine Jf fun m hm=>?_;have:=hj _ (Bx.1 (Cz.1 hm).1).2.1;unfold spn at this;show J.countP (ins (A2 m))≤_
  omega
end
end Go.Lam
end
section
namespace Go.Lam
def Et {α:Type} (f:Nat→α) (i:Nat) (x:α):Nat→α:=fun v=>if v=i then x else f v
@[simp] theorem Dv {α:Type} (f:Nat→α) (i:Nat) (x:α):Et f i x i=x:=by simp[Et]
theorem Bn {α:Type} (f:Nat→α) {i v:Nat} (x:α) (h:v≠i):Et f i x v=f v:=by simp[Et,h]
theorem L4 (n:Nat) (cv:Nat→List Nat) (x:Nat):((List.range n).flatMap cv).count x=sm n fun v=>(cv v).count x:=by
 rw[List.count_flatMap];rfl
theorem Rn {l:List Nat} {k e:Nat} (h:l[k]?=some e) (x:Nat):(l.eraseIdx k).count x+(if x=e then 1 else 0)=l.count x:=by
 induction l generalizing k with
 |nil=>simp at h
 |cons a l ih =>
  cases k with
  |zero =>
   simp at h;subst h;simp only[List.eraseIdx_zero,List.tail_cons,List.count_cons];by_cases hx:x=a
   ·simp[hx]
   ·simp[hx,Ne.symm hx]
  |succ k=>simp only[List.eraseIdx_cons_succ,List.count_cons]at *;have:=ih (by simpa using h);omega
section
variable {n:Nat} {E:Nat→Ed} {A:List Nat} {fr:Nat→Nat} {cv:Nat→List Nat}
theorem Inv.move (h:Inv n E A fr cv) {j k e:Nat} (hj:j<n) (hk:(cv j)[k]?=some e) (hf:0<fr (Fo E e j)) :
  Inv n E A (Et (Et fr (Fo E e j) (fr (Fo E e j)-1)) j (fr j+1)) (Et (Et cv (Fo E e j) (cv (Fo E e j)++[e])) j ((cv j).eraseIdx k)):=by
 have hm:e∈cv j:=List.mem_of_getElem? hk;obtain⟨hl,hne⟩:=h.oth_lt hj hm;refine⟨fun v hv=>?_,?_,fun v hv x hx=>?_,h.ok⟩
 ·by_cases h1:v=j
  ·subst h1;have:=h.two v hv;have hlt:=(List.getElem?_eq_some_iff.1 hk).1;simp only[Dv,List.length_eraseIdx,hlt,if_true];omega
  ·rw[Bn _ _ h1,Bn _ _ h1];by_cases h2:v=Fo E e j
   ·subst h2;have:=h.two _ hv;simp only[Dv,List.length_append,List.length_cons,List.length_nil];omega
   ·rw[Bn _ _ h2,Bn _ _ h2];exact h.two v hv
 ·refine List.Perm.trans (List.perm_iff_count.2 fun x=>?_) h.perm;rw[L4,L4];have key:sm n (fun v=>(Et (Et cv (Fo E e j) (cv (Fo E e j)++[e])) j ((cv j).eraseIdx k) v).count x+if v=j then (if x=e then 1 else 0) else 0)=sm n (fun v=>(cv v).count x+if v=Fo E e j then (if x=e then 1 else 0) else 0):=Ha fun v hv=>by
   by_cases h1:v=j
   ·subst h1;rw[Dv,if_pos rfl,if_neg (Ne.symm hne),Rn hk x];rfl
   ·rw[Bn _ _ h1,if_neg h1];by_cases h2:v=Fo E e j
    ·subst h2;rw[Dv,if_pos rfl,List.count_append,List.count_singleton];by_cases hx:x=e
     ·simp[hx]
     ·simp[hx,Ne.symm hx]
    ·rw[Bn _ _ h2,if_neg h2]
  rw[Iy,Iy,Mg hj,Mg hl]at key;omega
 ·by_cases h1:v=j
  ·subst h1;rw[Dv]at hx;exact h.ends v hv x (List.mem_of_mem_eraseIdx hx)
  ·rw[Bn _ _ h1]at hx;by_cases h2:v=Fo E e j
   ·subst h2;rw[Dv,List.mem_append,List.mem_singleton]at hx;rcases hx with hx | rfl
    ·exact h.ends _ hv x hx
    ·unfold Fo;rcases h.ends j hj x hm with h3 | h3
     ·right;omega
     ·left;omega
   ·rw[Bn _ _ h2]at hx;exact h.ends v hv x hx
theorem Inv.lay (h:Inv n E A fr cv) {a e:Nat} (ha:(E e).1=a) (he:Dc n (E e)) (hf:0<fr a):Inv n E (A++[e]) (Et fr a (fr a-1)) (Et cv a (cv a++[e])):=by
 have hl:a<n:=ha ▸ he.1;refine⟨fun v hv=>?_,?_,fun v hv x hx=>?_,fun x hx=>?_⟩
 ·by_cases h1:v=a
  ·subst h1;have:=h.two v hv;simp only[Dv,List.length_append,List.length_cons,List.length_nil];omega
  ·rw[Bn _ _ h1,Bn _ _ h1];exact h.two v hv
 ·refine List.perm_iff_count.2 fun x=>?_;have h1:=List.perm_iff_count.1 h.perm x;rw[L4]at h1 ⊢;rw[List.count_append,←h1];have key:sm n (fun v=>(Et cv a (cv a++[e]) v).count x)=sm n (fun v=>(cv v).count x+if v=a then [e].count x else 0):=Ha fun v _=>by
   by_cases h2:v=a
   ·subst h2;rw[Dv,if_pos rfl,List.count_append]
   ·rw[Bn _ _ h2,if_neg h2];rfl
  rw[key,Iy,Mg hl]
 ·by_cases h1:v=a
  ·subst h1;rw[Dv,List.mem_append,List.mem_singleton]at hx;rcases hx with hx | rfl
   ·exact h.ends _ hv x hx
   ·exact .inl ha
  ·rw[Bn _ _ h1]at hx;exact h.ends v hv x hx
 ·rw[List.mem_append,List.mem_singleton]at hx;rcases hx with hx | rfl
  ·exact h.ok x hx
  ·exact he
theorem Inv.start (n:Nat) (E:Nat→Ed):Inv n E [] (fun _=>2) (fun _=>[]):=⟨fun _ _=>rfl,by simp,fun _ _ _ h=>by simp at h,fun _ h=>by simp at h⟩
structure Jm (n:Nat) (E:Nat→Ed) (fr:Nat→Nat) (cv:Nat→List Nat) (S T:Nat→Bool):Prop where
 sub:∀v,S v=true→T v=true
 zero:∀v,v<n→S v=false→T v=true→fr v=0
 shut:∀v,v<n→S v=false→T v=true→∀e∈cv v,T (Fo E e v)=true
theorem Jm.refl (S:Nat→Bool):Jm n E fr cv S S:=⟨fun _ h=>h,fun v _ h h'=>(by rw[h]at h';cases h'),fun v _ h h'=>(by rw[h]at h';cases h')⟩
theorem Jm.step {S T T':Nat→Bool} {m:Nat} (h:Jm n E fr cv S T) (hm:fr m=0) (h':Jm n E fr cv (Et T m true) T') (hs:∀e∈cv m,T' (Fo E e m)=true):Jm n E fr cv S T' where
 sub:=fun v hv=>h'.sub v (by unfold Et;split;rfl;exact h.sub v hv)
 zero:=fun v hv h1 h2=>by
  by_cases hvm:v=m
  ·subst hvm;exact hm
  ·cases hT:T v with
   |true=>exact h.zero v hv h1 hT
   |false=>exact h'.zero v hv (by rw[Bn _ _ hvm];exact hT) h2
 shut:=fun v hv h1 h2 e he=>by
  by_cases hvm:v=m
  ·subst hvm;exact hs e he
  ·cases hT:T v with
   |true =>
    have h3:=h.shut v hv h1 hT e he;exact h'.sub _ (by unfold Et;split;rfl;exact h3)
   |false=>exact h'.shut v hv (by rw[Bn _ _ hvm];exact hT) h2 e he
structure Got (n:Nat) (E:Nat→Ed) (A:List Nat) (S:Nat→Bool) (j:Nat) (fr:Nat→Nat) (cv:Nat→List Nat) (fr':Nat→Nat) (cv':Nat→List Nat):Prop where
 inv:Inv n E A fr' cv'
 plus:fr' j=fr j+1
 free:∀v,v<n→S v=true→v≠j→fr' v=fr v
 cover:∀v,v<n→S v=true→v≠j→cv' v=cv v
theorem Got.direct (h:Inv n E A fr cv) {S:Nat→Bool} {j k e:Nat} (hj:j<n) (hk:(cv j)[k]?=some e) (hS:S (Fo E e j)=false) (hf:0<fr (Fo E e j)) :
  Got n E A S j fr cv (Et (Et fr (Fo E e j) (fr (Fo E e j)-1)) j (fr j+1)) (Et (Et cv (Fo E e j) (cv (Fo E e j)++[e])) j ((cv j).eraseIdx k)) where
 inv:=h.move hj hk hf
 plus:=by simp
 free:=fun v _ hv hvj=>by rw[Bn _ _ hvj,Bn _ _ (fun e'=>by rw[e',hS]at hv;cases hv)]
 cover:=fun v _ hv hvj=>by rw[Bn _ _ hvj,Bn _ _ (fun e'=>by rw[e',hS]at hv;cases hv)]
theorem Got.through {S T:Nat→Bool} {fr':Nat→Nat} {cv':Nat→List Nat} {j k e:Nat} (hsub:∀v,S v=true→T v=true) (hj:j<n) (hSj:S j=true) (hk:(cv j)[k]?=some e) (hS:T (Fo E e j)=false)
  (hne:Fo E e j≠j) (g:Got n E A (Et T (Fo E e j) true) (Fo E e j) fr cv fr' cv') :
  Got n E A S j fr cv (Et (Et fr' (Fo E e j) (fr' (Fo E e j)-1)) j (fr' j+1)) (Et (Et cv' (Fo E e j) (cv' (Fo E e j)++[e])) j ((cv' j).eraseIdx k)):=by
 have hin:∀v,S v=true→Et T (Fo E e j) true v=true:=fun v hv=>by unfold Et;split;rfl;exact hsub v hv
 have hcj:cv' j=cv j:=g.cover j hj (hin j hSj) (Ne.symm hne);have hfj:fr' j=fr j:=g.free j hj (hin j hSj) (Ne.symm hne);have hno:∀v,S v=true→v≠Fo E e j:=fun v hv e'=>by rw[e']at hv;rw[hsub _ hv]at hS;cases hS
 refine⟨g.inv.move hj (by rw[hcj];exact hk) (by rw[g.plus];omega),by simp[hfj],fun v hv h1 h2=>?_,fun v hv h1 h2=>?_⟩
 ·rw[Bn _ _ h2,Bn _ _ (hno v h1)];exact g.free v hv (hin v h1) (hno v h1)
 ·rw[Bn _ _ h2,Bn _ _ (hno v h1)];exact g.cover v hv (hin v h1) (hno v h1)
end
end Go.Lam
end
section
namespace Go.Lam
def Dy (n m:Nat):List Nat:=(List.range n).filter (A2 m)
def A9:List Nat→List Nat→Bool
 |[],[]=>false
 |[],_::_=>true
 |_::_,[]=>false
 |a::l,b::m=>if a=b then A9 l m else decide (a<b)
theorem Fy:∀l:List Nat,A9 l l=false
 |[]=>rfl
 |a::l=>by simp[A9,Fy l]
theorem Fi:∀{a b c:List Nat},A9 a b=true→A9 b c=true→A9 a c=true
 |[],[],_,h,_=>by simp[A9]at h
 |[],_::_,[],_,h=>by simp[A9]at h
 |[],_::_,_::_,_,_=>rfl
 |_::_,[],_,h,_=>by simp[A9]at h
 |_::_,_::_,[],_,h=>by simp[A9]at h
 |x::a,y::b,z::c,h1,h2=>by
  unfold A9 at *;by_cases e1:x=y
  ·subst e1;rw[if_pos rfl]at h1;by_cases e2:x=z
   ·subst e2;rw[if_pos rfl]at h2 ⊢;exact Fi h1 h2
   ·rw[if_neg e2]at h2 ⊢;exact h2
  ·rw[if_neg e1]at h1;by_cases e2:y=z
   ·subst e2;rw[if_neg e1];exact h1
   ·rw[if_neg e2]at h2;simp only[decide_eq_true_eq]at h1 h2;rw[if_neg (by omega)];simp only[decide_eq_true_eq];omega
theorem Gv:∀(a b:List Nat),a=b∨A9 a b=true∨A9 b a=true
 |[],[]=>.inl rfl
 |[],_::_=>.inr (.inl rfl)
 |_::_,[]=>.inr (.inr rfl)
 |x::a,y::b=>by
  unfold A9;by_cases e:x=y
  ·subst e;rcases Gv a b with h | h | h
   ·exact .inl (by rw[h])
   ·exact .inr (.inl (by rw[if_pos rfl];exact h))
   ·exact .inr (.inr (by rw[if_pos rfl];exact h))
  ·rw[if_neg e,if_neg (Ne.symm e)];simp only[decide_eq_true_eq];omega
def Asc (l:List (List Nat)):Prop:=l.Pairwise fun x y=>A9 x y=true
theorem Asc.eq:∀{l m:List (List Nat)},Asc l→Asc m→(∀x,x∈l↔x∈m)→l=m
 |[],[],_,_,_=>rfl
 |[],y::m,_,_,h=>by have:=(h y).2 (by simp);simp at this
 |x::l,[],_,_,h=>by have:=(h x).1 (by simp);simp at this
 |x::l,y::m,hl,hm,h=>by
  obtain⟨hl1,hl2⟩:=List.pairwise_cons.1 hl;obtain⟨hm1,hm2⟩:=List.pairwise_cons.1 hm;have hxy:x=y:=by
   rcases List.mem_cons.1 ((h x).1 (by simp))with h1|h1
   ·exact h1
   ·rcases List.mem_cons.1 ((h y).2 (by simp))with h2|h2
    ·exact h2.symm
    ·have:=Fi (hl1 y h2) (hm1 x h1);rw[Fy]at this;cases this
  subst hxy;rw[Asc.eq hl2 hm2 fun z=>?_];constructor
  ·intro hz;rcases List.mem_cons.1 ((h z).1 (by simp[hz]))with rfl | h1
   ·have:=hl1 z hz;rw[Fy]at this;cases this
   ·exact h1
  ·intro hz;rcases List.mem_cons.1 ((h z).2 (by simp[hz]))with rfl | h1
   ·have:=hm1 z hz;rw[Fy]at this;cases this
   ·exact h1
theorem Asc.of_sorted {l:List (List Nat)} (hn:l.Nodup) (h:l.Pairwise fun x y=>A9 y x=false):Asc l:=by
 have:=hn.and h;exact this.imp fun {a b} ⟨h1,h2⟩=>by
  rcases Gv a b with h3|h3|h3
  ·exact absurd h3 h1
  ·exact h3
  ·rw[h2]at h3;cases h3
def D5:List (List Nat)→List Nat→List (List Nat)
 |[],x=>[x]
 |y::l,x=>if A9 x y=true then x::y::l else y::D5 l x
theorem Jo {x z:List Nat}:∀{l:List (List Nat)},z∈D5 l x↔z=x∨z∈l
 |[]=>by simp[D5]
 |y::l=>by
  unfold D5;split
  ·simp
  ·simp only[List.mem_cons,Jo (l:=l)];constructor
   ·rintro(h|h|h)<;>simp[h]
   ·rintro(h|h|h)<;>simp[h]
theorem Xe {x:List Nat}:∀{l:List (List Nat)},Asc l→x ∉ l→Asc (D5 l x)
 |[],_,_=>by simp[D5,Asc]
 |y::l,h,hx=>by
  obtain⟨h1,h2⟩:=List.pairwise_cons.1 h;unfold D5;split
  ·rename_i hb
   refine List.pairwise_cons.2 ⟨fun z hz=>?_,h⟩;rcases List.mem_cons.1 hz with rfl | hz
   ·exact hb
   ·exact Fi hb (h1 z hz)
  ·rename_i hb
   simp only[List.mem_cons,not_or]at hx;refine List.pairwise_cons.2 ⟨fun z hz=>?_,Xe h2 hx.2⟩;rcases Jo.1 hz with rfl | hz
   ·rcases Gv z y with h3|h3|h3
    ·exact absurd h3 hx.1
    ·exact absurd h3 hb
    ·exact h3
   ·exact h1 z hz
theorem Lw {α:Type} (f:α→List Nat):∀(s:List α) (o:List (List Nat)),Asc o→(s.map f).Nodup→(∀a∈s,f a ∉ o)→Asc (s.foldl (fun o a=>D5 o (f a)) o)∧∀z,z∈s.foldl (fun o a=>D5 o (f a)) o↔z∈o∨z∈s.map f
 |[],o,h,_,_=>⟨h,by simp⟩
 |a::s,o,h,hn,hx=>by
  rw[List.map_cons,List.nodup_cons]at hn;have:=Lw f s (D5 o (f a)) (Xe h (hx a (by simp))) hn.2 fun b hb hc=>by
   rcases Jo.1 hc with h1|h1
   ·exact hn.1 (by rw[←h1];exact List.mem_map.2 ⟨b,hb,rfl⟩)
   ·exact hx b (by simp[hb]) h1
  refine⟨this.1,fun z=>?_⟩;rw[List.foldl_cons,this.2 z,Jo,List.map_cons,List.mem_cons];constructor
  ·rintro((h|h)|h)<;>simp[h]
  ·rintro(h|h|h)<;>simp[h]
def Bi (L:List Ed) (j:Nat):Bool:=L.all fun e=>!(e.1==j || e.2==j)
def D4 (j:Nat):List Nat:=[j]
def Jg (n:Nat) (L:List Ed):List (List Nat):=((List.range n).filter (Bi L)).foldl (fun o j=>D5 o (D4 j)) ((blocks n L).foldl (fun o m=>D5 o (Dy n m)) [])
theorem Ty {n m v:Nat}:v∈Dy n m↔v<n∧A2 m v=true:=by simp[Dy]
theorem Gr (n m:Nat):(Dy n m).length=sz n (A2 m):=by simp[Dy,sz,List.countP_eq_length_filter]
theorem Uh {n m k:Nat} (hm:m<2^n) (hk:k<2^n) (h:Dy n m=Dy n k):m=k:=Ro hm hk fun v hv=>by
 have h1:v∈Dy n m↔v∈Dy n k:=by rw[h]
 rw[Ty,Ty]at h1;cases h2:A2 m v<;>cases h3:A2 k v<;>simp_all
section
variable {n:Nat} {L:List Ed}
theorem J4 {m:Nat} (h:m∈blocks n L):m<2^n:=(Bx.1 (Cz.1 h).1).1
theorem Fb {m:Nat} (h:m∈blocks n L):Di n L (A2 m):=(Bx.1 (Cz.1 h).1).2
theorem Ec {α β:Type} {f:α→β}:∀{l:List α},(∀x∈l,∀y∈l,f x=f y→x=y)→l.Nodup→(l.map f).Nodup
 |[],_,_=>by simp
 |a::l,h,hn=>by
  rw[List.nodup_cons]at hn;rw[List.map_cons,List.nodup_cons];refine⟨fun hc=>?_,Ec (fun x hx y hy=>h x (by simp[hx]) y (by simp[hy])) hn.2⟩;obtain⟨b,hb,e⟩:=List.mem_map.1 hc;rw[h b (by simp[hb]) a (by simp) e]at hb;exact hn.1 hb
theorem Hg:Asc (Jg n L)∧∀z,z∈Jg n L↔(∃m∈blocks n L,z=Dy n m)∨∃j,j<n∧Bi L j=true∧z=[j]:=by
 have h1:=Lw (Dy n) (blocks n L) [] (by simp[Asc]) (Ec (fun x hx y hy=>Uh (J4 hx) (J4 hy)) Gw) (by simp);have h2:=Lw D4 ((List.range n).filter (Bi L)) _ h1.1 (Ec (fun x _ y _ h=>by simpa[D4]using h) (List.nodup_range.filter _)) (fun j _ hc=>by
  rcases(h1.2 _).1 hc with h3|h3
  ·simp at h3
  ·obtain⟨m,hm,e⟩:=List.mem_map.1 h3;have h4:=Gr n m;rw[e]at h4;have:=(Fb hm).1;simp[D4]at h4;omega)
 refine⟨h2.1,fun z=>?_⟩;unfold Jg;rw[h2.2 z,h1.2 z];simp only[List.not_mem_nil,false_or,List.mem_map,List.mem_filter,List.mem_range,D4];constructor
 ·rintro(⟨m,hm,rfl⟩|⟨j,⟨hj,ha⟩,rfl⟩)
  ·exact .inl ⟨m,hm,rfl⟩
  ·exact .inr ⟨j,hj,ha,rfl⟩
 ·rintro(⟨m,hm,rfl⟩|⟨j,hj,ha,rfl⟩)
  ·exact .inl ⟨m,hm,rfl⟩
  ·exact .inr ⟨j,⟨hj,ha⟩,rfl⟩
def Gn (n:Nat) (L:List Ed) (e:Ed) (j:Nat):Bool:=(E3 n L).any fun m=>ins (A2 m) e&&A2 m j
theorem Ie (hL:∀e∈L,Dc n e) {e:Ed} {j:Nat} (hj:j<n) (he:Dc n e):Gn n L e j=true↔∃X,Di n L X∧ins X e=true∧X j=true:=by
 unfold Gn;rw[List.any_eq_true];constructor
 ·rintro⟨m,hm,h⟩;rw[Bool.and_eq_true]at h;exact⟨_,(Bx.1 hm).2,h.1,h.2⟩
 ·rintro⟨X,h1,h2,h3⟩;obtain⟨m,h4,h5⟩:=Ik hL h1;rw[ins,Bool.and_eq_true]at h2;exact⟨m,(Cz.1 h4).1,by rw[ins,h5 _ he.1 h2.1,h5 _ he.2.1 h2.2,h5 _ hj h3];rfl⟩
def Gk (n:Nat) (L:List Ed) (e:Ed):List Nat:=(List.range n).filter (Gn n L e)
theorem Kf (hL:∀e∈L,Dc n e) (hs:A4 n L) {e:Ed} (he:Dc n e) {m:Nat} (hm:m∈blocks n L) (hi:ins (A2 m) e=true):Gk n L e=Dy n m:=by
 refine List.filter_congr fun v hv=>?_;rw[List.mem_range]at hv;cases hb:A2 m v with
 |true=>exact(Ie hL hv he).2 ⟨_,Fb hm,hi,hb⟩
 |false =>
  cases hw:Gn n L e v with
  |false=>rfl
  |true =>
   obtain⟨X,h1,h2,h3⟩:=(Ie hL hv he).1 hw;obtain⟨k,h4,h5⟩:=Ik hL h1;rw[ins,Bool.and_eq_true]at h2 hi;have hmk:=Nr hs hm h4 (Vo he.1 he.2.1 he.2.2 (by rw[cap,hi.1,h5 _ he.1 h2.1];rfl) (by rw[cap,hi.2,h5 _ he.2.1 h2.2];rfl));subst hmk;rw[h5 v hv h3]at hb;cases hb
theorem R7 (hL:∀e∈L,Dc n e) (hs:A4 n L) {e:Ed} (he:e∈L):∃m∈blocks n L,ins (A2 m) e=true:=by
 obtain⟨m,h1,h2⟩:=Ik hL (Ir hL hs he);obtain⟨h3,h4,_⟩:=hL e he;exact⟨m,h1,by rw[ins,h2 _ h3 (by simp[Es]),h2 _ h4 (by simp[Es])];rfl⟩
theorem Qbg {m:Nat} (hm:m∈blocks n L):∃e∈L,ins (A2 m) e=true:=by
 have h1:=Fb hm;have h2:=h1.1;have h3:=h1.2;unfold spn at h3;exact List.countP_pos_iff.1 (show 0<L.countP (ins (A2 m)) by omega)
def Lo (o:List (List Nat)) (c:List Nat):List (List Nat):=if c∈o then o else o++[c]
theorem I7 {α:Type} (f:α→List Nat):∀(s:List α) (o:List (List Nat)),o.Nodup→(s.foldl (fun o a=>Lo o (f a)) o).Nodup∧∀z,z∈s.foldl (fun o a=>Lo o (f a)) o↔z∈o∨z∈s.map f
 |[],o,h=>⟨h,by simp⟩
 |a::s,o,h=>by
  have hn:(Lo o (f a)).Nodup:=by
   unfold Lo;split
   ·exact h
   ·rename_i hc
    rw[List.nodup_append];exact⟨h,by simp,fun x hx y hy e=>by simp at hy;subst hy;subst e;exact hc hx⟩
  have hm:∀z,z∈Lo o (f a)↔z∈o∨z=f a:=fun z=>by
   unfold Lo;split
   ·rename_i hc
    exact⟨.inl,fun h=>h.elim id fun e=>e ▸ hc⟩
   ·simp
  have:=I7 f s (Lo o (f a)) hn;refine⟨this.1,fun z=>?_⟩;rw[List.foldl_cons,this.2 z,hm,List.map_cons,List.mem_cons];constructor
  ·rintro((h|h)|h)<;>simp[h]
  ·rintro(h|h|h)<;>simp[h]
def Hj (n:Nat) (L:List Ed):List (List Nat):=L.foldl (fun o e=>Lo o (Gk n L e)) []++((List.range n).filter (Bi L)).map D4
theorem N8 (hL:∀e∈L,Dc n e) (hs:A4 n L):(Hj n L).Nodup∧∀z,z∈Hj n L↔z∈Jg n L:=by
 have h1:=I7 (Gk n L) L [] (by simp);have hmem:∀z,z∈Hj n L↔z∈Jg n L:=fun z=>by
  unfold Hj;rw[List.mem_append,h1.2 z,Hg.2 z];simp only[List.not_mem_nil,false_or,List.mem_map,List.mem_filter,List.mem_range,D4];constructor
  ·rintro(⟨e,he,rfl⟩|⟨j,⟨hj,ha⟩,rfl⟩)
   ·obtain⟨m,hm,hi⟩:=R7 hL hs he;exact .inl ⟨m,hm,Kf hL hs (hL e he) hm hi⟩
   ·exact .inr ⟨j,hj,ha,rfl⟩
  ·rintro(⟨m,hm,rfl⟩|⟨j,hj,ha,rfl⟩)
   ·obtain⟨e,he,hi⟩:=Qbg hm;exact .inl ⟨e,he,Kf hL hs (hL e he) hm hi⟩
   ·exact .inr ⟨j,⟨hj,ha⟩,rfl⟩
 refine⟨?_,hmem⟩;unfold Hj;rw[List.nodup_append];refine⟨h1.1,Ec (fun x _ y _ h=>by simpa[D4]using h) (List.nodup_range.filter _),fun x hx y hy e=>?_⟩;subst e;rcases(h1.2 x).1 hx with h3 | h3
 ·simp at h3
 ·obtain⟨e,he,rfl⟩:=List.mem_map.1 h3;obtain⟨m,hm,hi⟩:=R7 hL hs he;obtain⟨j,_,e2⟩:=List.mem_map.1 hy;rw[Kf hL hs (hL e he) hm hi]at e2;have h4:=Gr n m;rw[←e2]at h4;have:=(Fb hm).1;simp[D4]at h4;omega
theorem Xg (hL:∀e∈L,Dc n e) (hs:A4 n L) {W:List (List Nat)} (hp:W.Perm (Hj n L)) (hw:W.Pairwise fun x y=>A9 y x=false):W=Jg n L:=by
 obtain⟨h1,h2⟩:=N8 hL hs;exact Asc.eq (Asc.of_sorted (hp.nodup_iff.2 h1) hw) Hg.1 fun x=>by rw[hp.mem_iff,h2]
end
end Go.Lam
end
section
namespace Go.Lam
section
variable {n:Nat} {L:List Ed}
def Qkm:Nat→Bool:=fun _=>true
theorem Qf6 (n:Nat):sz n Qkm=n:=by
 have h:(List.range n).countP Qkm=(List.range n).length:=List.countP_eq_length.2 fun _ _=>rfl;rw[List.length_range]at h;exact h
theorem Qi0 (L:List Ed):spn L Qkm=L.length:=List.countP_eq_length.2 fun _ _=>rfl
theorem Yb:sz n (fun j=>!Bi L j)+(List.range n).countP (Bi L)=n:=by
 have h:=List.length_eq_countP_add_countP (Bi L) (l:=List.range n);rw[List.length_range]at h;have e:(List.range n).countP (fun a=>decide ¬Bi L a=true)=sz n (fun j=>!Bi L j):=List.countP_congr fun v _=>by cases Bi L v<;>simp
 omega
theorem Xa:spn L (fun j=>!Bi L j)=L.length:=List.countP_eq_length.2 fun e he=>by
 have h:∀j,e.1=j∨e.2=j→Bi L j=false:=fun j hj=>by
  cases ha:Bi L j with
  |false=>rfl
  |true =>
   have:=List.all_eq_true.1 ha e he;simp only[Bool.not_eq_true',Bool.or_eq_false_iff,beq_eq_false_iff_ne]at this;omega
 show(!Bi L e.1&&!Bi L e.2)=true
 rw[h e.1 (.inl rfl),h e.2 (.inr rfl)];rfl
theorem K8 (hL:∀e∈L,Dc n e) (hs:A4 n L):(blocks n L).length≤L.length:=by
 rw[←Rk hL hs,←Qo];refine Jf fun m hm=>?_;have:=(Fb hm).1;omega
theorem Pi (hL:∀e∈L,Dc n e) (hs:A4 n L):(Hj n L).length=(blocks n L).length+(List.range n).countP (Bi L):=by
 have h1:=N8 hL hs;have hp:(Hj n L).Perm ((blocks n L).map (Dy n)++((List.range n).filter (Bi L)).map D4):=by
  refine(List.perm_ext_iff_of_nodup h1.1 ?_).2 fun z=>?_
  ·rw[List.nodup_append];refine⟨Ec (fun x hx y hy=>Uh (J4 hx) (J4 hy)) Gw,Ec (fun x _ y _ h=>by simpa[D4]using h) (List.nodup_range.filter _),fun x hx y hy e=>?_⟩;subst e;obtain⟨m,hm,rfl⟩:=List.mem_map.1 hx;obtain⟨j,_,e2⟩:=List.mem_map.1 hy;have h4:=Gr n m;rw[←e2]at h4;have:=(Fb hm).1;simp[D4]at h4;omega
  ·rw[h1.2,Hg.2];simp only[List.mem_append,List.mem_map,List.mem_filter,List.mem_range,D4];constructor
   ·rintro(⟨m,hm,rfl⟩|⟨j,hj,ha,rfl⟩)
    ·exact .inl ⟨m,hm,rfl⟩
    ·exact .inr ⟨j,⟨hj,ha⟩,rfl⟩
   ·rintro(⟨m,hm,rfl⟩|⟨j,⟨hj,ha⟩,rfl⟩)
    ·exact .inl ⟨m,hm,rfl⟩
    ·exact .inr ⟨j,hj,ha,rfl⟩
 rw[hp.length_eq,List.length_append,List.length_map,List.length_map,←List.countP_eq_length_filter]
theorem Wd (hL:∀e∈L,Dc n e) (hs:A4 n L):(Jg n L).length=(Hj n L).length:=by
 have h1:=N8 hL hs;have hn:(Jg n L).Nodup:=Hg.1.imp fun {a b} h e=>by rw[e,Fy]at h;cases h
 exact((List.perm_ext_iff_of_nodup hn h1.1).2 fun z=>(h1.2 z).symm).length_eq
theorem Qgw (hL:∀e∈L,Dc n e) (hs:A4 n L) (h8:n≤8):(Hj n L).length≤12:=by
 rw[Pi hL hs];have h1:=K8 hL hs;have h2:=Yb (n:=n) (L:=L);have h3:=Ux n fun j=>!Bi L j;rcases Nat.lt_or_ge (sz n fun j=>!Bi L j) 2 with h4 | h4
 ·have:spn L (fun j=>!Bi L j)=0:=Qn hL (by omega);rw[Xa]at this;omega
 ·have h5:=hs _ h4;rw[Xa]at h5;rcases Nat.lt_or_ge ((blocks n L).length+(List.range n).countP (Bi L)) 13 with h6 | h6
  ·omega
  ·-- all is one block
   have hn8:n=8∧(List.range n).countP (Bi L)=0∧L.length=13:=by omega
   have hT:Di n L Qkm:=⟨by rw[Qf6];omega,by rw[Qi0,Qf6];omega⟩;obtain⟨m,hm,hall⟩:=Ik hL hT;have h7:∀k∈blocks n L,k=m:=fun k hk=>(Cz.1 hk).2 m (Cz.1 hm).1 (fun v hv=>hall v (Qcn (J4 hk) hv) rfl) ▸ rfl;have h8:(blocks n L).length≤1:=by
    have hnd:=Gw (n:=n) (L:=L)
    match hb:blocks n L,hnd with
    |[],_=>simp
    |[a],_=>simp
    |a::b::t,hnd =>
     rw[hb]at h7;have ha:=h7 a (by simp);have hb':=h7 b (by simp);rw[List.nodup_cons]at hnd;exact absurd (by rw[ha,hb'];simp) hnd.1
   omega
theorem Vq (n:Nat) (X:Nat→Bool):sz (n+1) X=sz n X+if X n=true then 1 else 0:=by
 simp[sz,List.range_succ,List.countP_append,List.countP_cons]
theorem A4.joint (hs:A4 n L) (hL:∀e∈L,Dc n e):A4 (n+1) L:=fun X hX=>by
 rw[Vq]at hX ⊢;rcases Nat.lt_or_ge (sz n X) 2 with h | h
 ·rw[Qn hL (by omega)];omega
 ·have:=hs X h;omega
theorem A4.one (hs:A4 n L) (hL:∀e∈L,Dc n e) {x:Nat} (hx:x<n) {e:Ed} (he:e=(x,n)∨e=(n,x)):A4 (n+1) (L++[e]):=fun X hX=>by
 rw[Vq]at hX ⊢;rw[Hh,Rv];have hi:ins X e=(X x&&X n):=by rcases he with rfl | rfl<;>simp[ins,Bool.and_comm]
 rw[hi];show spn L X+(0+_)+3≤_
 rcases Nat.lt_or_ge (sz n X) 2 with h|h
 ·rw[Qn hL (by omega)];cases h1:X n<;>cases h2:X x<;>simp[h1]at*<;> (try have:=Qgy hx h2)<;>omega
 ·have:=hs X h;cases h1:X n<;>cases h2:X x<;>simp<;>omega
end
end Go.Lam
end
section
namespace Go.Av
open Go.Proofs
structure RE where
 a:Int
 b:Int
 sq:RR
def RE.av (e:RE):AV:=.agg [.int .i64 e.a,.int .i64 e.b,.bool e.sq.n1,An e.sq.l1,.bool e.sq.n2,An e.sq.l2]
def D0 (l:List RE):List AV:=l.map RE.av
def A3 (l:List RE):AV:=.sl 6 (D0 l)
instance:Inhabited RE:=⟨⟨0,0,default⟩⟩
def Gx (l:List RE) (i:Nat):RE:=l.getD i default
theorem Lq {l:List RE} {i:Nat} (h:i<l.length):Gx l i=l[i]:=by unfold Gx;rw[List.getD_eq_getElem?_getD,List.getElem?_eq_getElem h];rfl
@[simp] theorem Qa4 (l:List RE):(D0 l).length=l.length:=by simp[D0]
@[simp] theorem edl_get? {l:List RE} {i:Nat} (h:i<l.length):(D0 l)[i]?=some (Gx l i).av:=by simp[D0,Lq h,h]
@[simp] theorem edl_get {l:List RE} {i:Nat} (h:i<(D0 l).length):(D0 l)[i]=(Gx l i).av:=by simp[D0,Lq (by simpa using h:i<l.length)]
@[simp] theorem Qvp {l:List Nat} {i:Nat} (h:i<(Al l).length):(Al l)[i]=.int .i64 (l[i]'(by simpa using h):Nat):=by simp[Al]
@[simp] theorem Qus (l:List Nat):(Al l).all (fun v=>v.cells.length==1&&v.cells.all AV.one)=true:=by simp[Al,AV.cells,AV.one]
theorem Cj (e:RE):e.av.cells=[.int .i64 e.a,.int .i64 e.b,.bool e.sq.n1,An e.sq.l1,.bool e.sq.n2,An e.sq.l2]:=rfl
theorem H7 (l:List Nat) (i v:Nat):(Al l).set i (.int .i64 (v:Nat))=Al (l.set i v):=by unfold Al;rw[List.map_set]
theorem Ig {m m':Aa} {b n:Nat} {l:List Nat} (h:m b=some ⟨3,1,Al l⟩) (hl:l.length=n) (hb:m' b=none:=by simp):Bv m m' (.osl b 1 0 n) (.sl 1 (Al l)) :=
 .osl b 1 0 n _ (Al l) h hb rfl (by simpa using hl) (by simp[hl]) (fun k v v' h1 h2=>by rw[Nat.zero_add]at h1;rw[h1]at h2;cases h2;exact .same _)
theorem Uf (l:List RE) (hl:l.length≤40):Aj Tryz.prog 45 [A3 l] Aa.emp fun v m=>v=.sl 1 (Al (List.range l.length))∧m=Aa.emp:=by
 refine Ae Tryz.func45 rfl rfl 19 rfl (Nat.le_of_ble_eq_true rfl) ?_;unfold A3;(repeat refine AW.seq_k fun K hK=>?_);refine AW.rg ?_;simp[Ak];try (refine hK _ rfl ?_;clear hK K)
 (repeat refine AW.seq_k fun K hK=>?_);refine AW.rg ?_;simp;try (refine hK _ rfl ?_;clear hK K)
 refine⟨by omega,Ah.intro fun bl hbl=>?_⟩;refine hK _ rfl ?_;clear hK K;refine AW.seq_ex (ι:=Unit) (fun _=>[(3,.osl bl 1 0 l.length)]) (fun _=>Aa.emp.set bl ⟨3,1,Al (List.range l.length)⟩) (fun _=>True) ?_ ?_
 ·(repeat refine AW.seq_k fun K hK=>?_);refine AW.rg ?_;simp;try (refine hK _ rfl ?_;clear hK K)
  refine AW.block (AW.loopS (ι:=Nat × List Nat) (fun z=>[(3,.osl bl 1 0 l.length),(9,.int .i64 (l.length:Nat)),(10,.int .i64 (z.1:Nat))]) (fun z=>Aa.emp.set bl ⟨3,1,Al z.2⟩)
   (fun z=>z.1≤l.length∧z.2=List.range z.1++List.replicate (l.length-z.1) 0) (fun z=>l.length-z.1) (0,List.replicate l.length 0) ⟨by simp,by simp⟩ (by simp[Al]) (by simp) ?_)
  rintro⟨i,o⟩ ⟨g1,g2⟩;simp only at g1 g2;have hol:o.length=l.length:=by rw[g2];simp;omega
  (repeat refine AW.seq_k fun K hK=>?_);refine AW.rg ?_;simp;try (refine hK _ rfl ?_;clear hK K)
  (repeat refine AW.seq ?_);refine AW.cs (fun hi=>?_) (fun hi=>?_) rfl<;>(try simp at hi)
  ·refine AW.skip ?_;try simp
   have w1:=Aq (i+1) (by omega);(repeat refine AW.seq ?_);refine AW.block ?_;(repeat refine AW.seq_k fun K hK=>?_);refine AW.rg ?_;simp;try (refine hK _ rfl ?_;clear hK K)
   (repeat refine AW.seq_k fun K hK=>?_);refine AW.rg ?_;simp[hol,hi];try (refine hK _ rfl ?_;clear hK K)
   (repeat refine AW.seq_k fun K hK=>?_);refine AW.rg ?_;simp[-Int.natCast_add,w1];try (refine hK _ rfl ?_;clear hK K)
   refine⟨i+1,o.set i i,⟨by omega,?_⟩,by omega,by rw[H7],rfl⟩;rw[g2,List.set_append_right _ _ (by simp),List.length_range,Nat.sub_self,show l.length-i=(l.length-(i+1))+1 by omega,List.replicate_succ,List.set_cons_zero,List.range_succ,List.append_assoc];rfl
  ·refine AW.exit ?_;try simp
   have:i=l.length:=by omega
   rw[g2,this];simp
 ·rintro _ _;(repeat refine AW.seq_k fun K hK=>?_);refine AW.rg ?_;simp;try (refine hK _ rfl ?_;clear hK K)
  exact AW.ret (Af rfl _ (Ig (by simp) (by simp)) ⟨rfl,rfl⟩)
end Go.Av
end
section
namespace Go.Av
open Go.Proofs Go.Lam
theorem Qjx {n s:Nat} (h:s<2^n):sz n (A2 s)=s % 2+sz n (A2 (s / 2)):=by
 have h1:sz (n+1) (A2 s)=sz n (A2 s):=by
  rw[Vq,show A2 s n=false from Nat.testBit_lt_two_pow h];simp
 have h2:sz (n+1) (A2 s)=s % 2+sz n (A2 (s / 2)):=by
  unfold sz;rw[List.range_succ_eq_map,List.countP_cons,List.countP_map];have e1:(List.range n).countP (A2 s ∘ Nat.succ)=(List.range n).countP (A2 (s / 2)):=List.countP_congr fun v _=>by
   simp[A2,Nat.testBit_succ]
  rw[e1];have:A2 s 0=decide (s % 2=1):=by simp[A2]
  rw[this];rcases Nat.mod_two_eq_zero_or_one s with h3 | h3<;>simp[h3];omega
 omega
theorem Qjf (n:Nat):sz n (A2 0)=0:=List.countP_eq_zero.2 fun v _=>by simp[A2]
theorem T2 (n s:Nat) (hn:n≤12) (hs:s<2^n):Aj Tryz.prog 83 [.int .i64 (s:Nat)] Aa.emp fun v m=>v=.int .i64 (sz n (A2 s):Nat)∧m=Aa.emp:=by
 have h12:2^n≤4096:=Nat.pow_le_pow_right (n:=2) (by omega) hn;have hsz:=Ux n (A2 s);refine Ae Tryz.func83 rfl rfl 13 rfl (Nat.le_of_ble_eq_true rfl) ?_;(repeat refine AW.seq_k fun K hK=>?_);refine AW.rg ?_;simp[Ak];try (refine hK _ rfl ?_;clear hK K)
 (repeat refine AW.seq_k fun K hK=>?_);refine AW.rg ?_;simp;try (refine hK _ rfl ?_;clear hK K)
 refine AW.seq_ex (ι:=Unit) (fun _=>[(3,.int .i64 (sz n (A2 s):Nat))]) (fun _=>Aa.emp) (fun _=>True) ?_ ?_
 ·refine AW.block (AW.loopS (ι:=Nat × Nat) (fun z=>[(0,.int .i64 (z.1:Nat)),(3,.int .i64 (z.2:Nat))]) (fun _=>Aa.emp)
   (fun z=>z.1<2^n∧z.2+sz n (A2 z.1)=sz n (A2 s)) (fun z=>z.1) (s,0) ⟨hs,by simp⟩ rfl (by simp) ?_)
  rintro⟨c,a⟩ ⟨g1,g2⟩;simp only at g1 g2;have g3:=Qjx g1;(repeat refine AW.seq_k fun K hK=>?_);refine AW.rg ?_;simp;try (refine hK _ rfl ?_;clear hK K)
  (repeat refine AW.seq ?_);refine AW.cs (fun hi=>?_) (fun hi=>?_) rfl<;>(try simp at hi)
  ·refine AW.skip ?_;try simp
   try (refine hK _ rfl ?_;clear hK K)
   have w1:=Aq (a+c % 2) (by omega);(repeat refine AW.seq ?_);refine AW.block ?_;(repeat refine AW.seq_k fun K hK=>?_);refine AW.rg ?_;simp[-Int.natCast_add,-Int.natCast_emod,w1];try (refine hK _ rfl ?_;clear hK K)
   (repeat refine AW.seq_k fun K hK=>?_);refine AW.rg ?_;simp[-Int.natCast_ediv,-Int.natCast_add,-Int.natCast_emod];try (refine hK _ rfl ?_;clear hK K)
   have w2:=Aq (c / 2) (by omega);exact⟨c / 2,a+c % 2,⟨by omega,by omega⟩,by omega,w2,rfl⟩
  ·refine AW.exit ?_;try simp
   have:c=0:=by omega
   subst this;rw[Qjf]at g2;omega
 ·rintro _ _;(repeat refine AW.seq_k fun K hK=>?_);refine AW.rg ?_;simp;try (refine hK _ rfl ?_;clear hK K)
  exact AW.ret (Af rfl _ (.same _) ⟨rfl,rfl⟩)
theorem Kz (x:Nat) (h:x<2^63):(BitVec.ofInt 64 (x:Int)).toNat=x:=by
 rw[BitVec.toNat_ofInt];omega
theorem Qi6 (x y:Nat) (hx:x<2^62) (hy:y<2^62):F4 .or .i64 (x:Int) (y:Int)=((x ||| y:Nat):Int):=by
 have h:=Nat.or_lt_two_pow hx hy;show IntKind.i64.wrap (((BitVec.ofInt 64 (x:Int)) ||| (BitVec.ofInt 64 (y:Int))).toNat:Int)=_
 rw[BitVec.toNat_or,Kz x (by omega),Kz y (by omega)];exact wi (by omega)
theorem Sl (x y:Nat) (hx:x<2^62) (hy:y<2^62):F4 .and .i64 (x:Int) (y:Int)=((x &&& y:Nat):Int):=by
 have h:=Nat.and_lt_two_pow x hy;show IntKind.i64.wrap (((BitVec.ofInt 64 (x:Int)) &&& (BitVec.ofInt 64 (y:Int))).toNat:Int)=_
 rw[BitVec.toNat_and,Kz x (by omega),Kz y (by omega)];exact wi (by omega)
def Ji (a b:Nat):Nat:=2^a ||| 2^b
theorem Qb8 {a b n:Nat} (ha:a<n) (hb:b<n):Ji a b<2^n:=Nat.or_lt_two_pow (Nat.pow_lt_pow_right (by omega) ha) (Nat.pow_lt_pow_right (by omega) hb)
theorem Qj7 {a b m:Nat}:Ji a b &&& m=Ji a b↔ins (A2 m) (a,b)=true:=by
 rw[Nat.and_comm,Yp];unfold Ji ins A2;simp only[Nat.testBit_or,Nat.testBit_two_pow,Bool.or_eq_true,decide_eq_true_eq,Bool.and_eq_true];constructor
 ·intro h;exact⟨h a (.inl rfl),h b (.inr rfl)⟩
 ·rintro⟨h1,h2⟩ v (rfl|rfl)<;>assumption
theorem Qw (x:RE) (a b:Nat) (ha:x.a=(a:Nat)) (hb:x.b=(b:Nat)) (h1:a<12) (h2:b<12):Aj Tryz.prog 62 [x.av] Aa.emp fun v m=>v=.int .i64 (Ji a b:Nat)∧m=Aa.emp:=by
 have p1:(2:Nat)^a<2^12:=Nat.pow_lt_pow_right (by omega) h1;have p2:(2:Nat)^b<2^12:=Nat.pow_lt_pow_right (by omega) h2;have m1:min a IntKind.i64.bits=a:=by show min a 64=a;omega
 have m2:min b IntKind.i64.bits=b:=by show min b 64=b;omega
 have e1:IntKind.i64.wrap ((2:Int)^min a IntKind.i64.bits)=((2^a:Nat):Int):=by rw[m1,←wi (a:=2^a) (by omega),Int.natCast_pow];rfl
 have e2:IntKind.i64.wrap ((2:Int)^min b IntKind.i64.bits)=((2^b:Nat):Int):=by rw[m2,←wi (a:=2^b) (by omega),Int.natCast_pow];rfl
 refine Ae Tryz.func62 rfl rfl 10 rfl (Nat.le_of_ble_eq_true rfl) ?_;(repeat refine AW.seq_k fun K hK=>?_);refine AW.rgR [1] ?_;simp[Ak,RE.av];try (refine hK _ rfl ?_;clear hK K)
 (repeat refine AW.seq_k fun K hK=>?_);refine AW.rd [0,1,2,3,4,5,6,7] C8 ?_;simp[ha,hb];try (refine hK _ rfl ?_;clear hK K)
 rw[e1,e2,Qi6 _ _ (by omega) (by omega)];exact AW.ret (Af rfl _ (.same _) ⟨rfl,rfl⟩)
@[simp] theorem Qrs {l:List Nat} {i:Nat} (h:i<l.length):(Al l).getD i .any=.int .i64 (l[i]:Nat):=by simp[Al,h]
def Ad (es:List RE):Nat→Ed:=fun i=>((Gx es i).a.toNat,(Gx es i).b.toNat)
def I2 (n:Nat) (es:List RE):Prop:=∀i,i<es.length→(Gx es i).a=((Ad es i).1:Nat)∧(Gx es i).b=((Ad es i).2:Nat)∧Dc n (Ad es i)
theorem Ph (es:List RE) (n:Nat) (hn:n≤12) (hes:I2 n es) (hl:es.length≤40) (some_:List Nat) (hsome:∀i∈some_,i<es.length) (hsl:some_.length≤100) (s:Nat) (hs:s<2^n) :
  Aj Tryz.prog 84 [A3 es,.sl 1 (Al some_),.int .i64 (s:Nat)] Aa.emp fun v m=>v=.int .i64 (spn (some_.map (Ad es)) (A2 s):Nat)∧m=Aa.emp:=by
 have h12:2^n≤4096:=Nat.pow_le_pow_right (n:=2) (by omega) hn;refine Ae Tryz.func84 rfl rfl 32 rfl (Nat.le_of_ble_eq_true rfl) ?_;unfold A3;(repeat refine AW.seq_k fun K hK=>?_);refine AW.rg ?_;simp[Ak];try (refine hK _ rfl ?_;clear hK K)
 (repeat refine AW.seq_k fun K hK=>?_);refine AW.rg ?_;simp;try (refine hK _ rfl ?_;clear hK K)
 refine AW.seq_ex (ι:=Unit) (fun _=>[(7,.int .i64 (spn (some_.map (Ad es)) (A2 s):Nat))]) (fun _=>Aa.emp) (fun _=>True) ?_ ?_
 ·(repeat refine AW.seq_k fun K hK=>?_);refine AW.rg ?_;simp;try (refine hK _ rfl ?_;clear hK K)
  refine AW.block (AW.loopS (ι:=Nat) (fun i=>[(0,.sl 6 (D0 es)),(1,.sl 1 (Al some_)),(2,.int .i64 (s:Nat)),(7,.int .i64 (spn ((some_.map (Ad es)).take i) (A2 s):Nat)),(8,.int .i64 (i:Nat))]) (fun _=>Aa.emp)
   (fun i=>i≤some_.length) (fun i=>some_.length-i) 0 (by simp) rfl (by simp[spn]) ?_)
  intro i g1;(repeat refine AW.seq_k fun K hK=>?_);refine AW.rg ?_;simp;try (refine hK _ rfl ?_;clear hK K)
  (repeat refine AW.seq ?_);refine AW.cs (fun hi=>?_) (fun hi=>?_) rfl<;>(try simp at hi)
  ·refine AW.skip ?_;try simp
   try (refine hK _ rfl ?_;clear hK K)
   have w1:=Aq (i+1) (by omega);generalize hk:some_[i]=k;have hk1:k<es.length:=hsome k (by rw[←hk];exact List.getElem_mem hi);obtain⟨e1,e2,e3⟩:=hes k hk1;have hb:=Qw (Gx es k) _ _ e1 e2 (by have:=e3.1;omega) (by have:=e3.2.1;omega);(repeat refine AW.seq ?_);refine AW.block ?_;(repeat refine AW.seq_k fun K hK=>?_);refine AW.rg ?_;simp[hi,hk,hk1,Cj];try (refine hK _ rfl ?_;clear hK K)
   refine Ac.val hb ?_;simp;try (refine hK _ rfl ?_;clear hK K)
   have hin:=Qj7 (a:=(Ad es k).1) (b:=(Ad es k).2) (m:=s);have hlt:=Qb8 (n:=12) (a:=(Ad es k).1) (b:=(Ad es k).2) (by have:=e3.1;omega) (by have:=e3.2.1;omega);have hba:=Sl (Ji (Ad es k).1 (Ad es k).2) s (by omega) (by omega);have hst:spn ((some_.map (Ad es)).take (i+1)) (A2 s)=spn ((some_.map (Ad es)).take i) (A2 s)+if ins (A2 s) (Ad es k)=true then 1 else 0:=by
    rw[List.take_add_one,Hh,List.getElem?_map,List.getElem?_eq_getElem hi,hk];simp[spn,List.countP_cons]
   have hbd:spn ((some_.map (Ad es)).take i) (A2 s)≤100:=by
    have:spn ((some_.map (Ad es)).take i) (A2 s)≤((some_.map (Ad es)).take i).length:=List.countP_le_length;rw[List.length_take,List.length_map]at this;omega
   have w2:=Aq (spn ((some_.map (Ad es)).take i) (A2 s)+1) (by omega);(repeat refine AW.seq_k fun K hK=>?_);refine AW.rg ?_;simp[hba];try (refine hK _ rfl ?_;clear hK K)
   (repeat refine AW.seq ?_);refine AW.cs (fun h=>?_) (fun h=>?_) rfl<;>(try simp at h)
   ·have h':=hin.1 h;rw[h',if_pos rfl]at hst;(repeat refine AW.seq_k fun K hK=>?_);refine AW.rg ?_;simp[-Int.natCast_add,w2];try (refine hK _ rfl ?_;clear hK K)
    (repeat refine AW.seq_k fun K hK=>?_);refine AW.rg ?_;simp[-Int.natCast_add,w1];try (refine hK _ rfl ?_;clear hK K)
    exact⟨i+1,by omega,by omega,hst.symm,rfl⟩
   ·have h':ins (A2 s) (Ad es k)=false:=by
     cases hc:ins (A2 s) (Ad es k)with
     |false=>rfl
     |true=>exact absurd (hin.2 hc) h
    rw[h',if_neg (by simp)]at hst;refine AW.skip ?_;try simp
    try (refine hK _ rfl ?_;clear hK K)
    (repeat refine AW.seq_k fun K hK=>?_);refine AW.rg ?_;simp[-Int.natCast_add,w1];try (refine hK _ rfl ?_;clear hK K)
    exact⟨i+1,by omega,by omega,hst.symm,rfl⟩
  ·refine AW.exit ?_;try simp
   rw[List.take_of_length_le (by simp;omega)]
 ·rintro _ _;(repeat refine AW.seq_k fun K hK=>?_);refine AW.rg ?_;simp;try (refine hK _ rfl ?_;clear hK K)
  exact AW.ret (Af rfl _ (.same _) ⟨rfl,rfl⟩)
def Qco (n:Nat) (L:List Ed) (m:Nat):Bool:=!(decide (2≤sz n (A2 m))&&decide (2*sz n (A2 m)<spn L (A2 m)+3))
theorem Uq (n:Nat) (L:List Ed):He n L=(List.range (2^n)).all (Qco n L):=rfl
theorem Qee (es:List RE) (n:Nat) (hn:n≤12) (hes:I2 n es) (hl:es.length≤40) (some_:List Nat) (hsome:∀i∈some_,i<es.length) (hsl:some_.length≤100) :
  Aj Tryz.prog 46 [.int .i64 (n:Nat),A3 es,.sl 1 (Al some_)] Aa.emp fun v m=>v=.bool (He n (some_.map (Ad es)))∧m=Aa.emp:=by
 have h12:2^n≤4096:=Nat.pow_le_pow_right (n:=2) (by omega) hn;have m1:min n IntKind.i64.bits=n:=by show min n 64=n;omega
 have e1:IntKind.i64.wrap ((2:Int)^min n IntKind.i64.bits)=((2^n:Nat):Int):=by rw[m1,←wi (a:=2^n) (by omega),Int.natCast_pow];rfl
 generalize hL:some_.map (Ad es)=L;have hLl:L.length≤100:=by rw[←hL,List.length_map];exact hsl
 refine Ae Tryz.func46 rfl rfl 29 rfl (Nat.le_of_ble_eq_true rfl) ?_;unfold A3;(repeat refine AW.seq_k fun K hK=>?_);refine AW.rg ?_;simp[Ak];try (refine hK _ rfl ?_;clear hK K)
 refine AW.seq_ex (ι:=Unit) (fun _=>[]) (fun _=>Aa.emp) (fun _=>He n L=true) ?_ ?_
 ·(repeat refine AW.seq_k fun K hK=>?_);refine AW.rg ?_;simp;try (refine hK _ rfl ?_;clear hK K)
  refine AW.block (AW.loopS (ι:=Nat) (fun i=>[(0,.int .i64 (n:Nat)),(1,.sl 6 (D0 es)),(2,.sl 1 (Al some_)),(7,.int .i64 (i:Nat))]) (fun _=>Aa.emp)
   (fun i=>i≤2^n∧(List.range i).all (Qco n L)=true) (fun i=>2^n-i) 0 ⟨by simp,by simp⟩ rfl (by simp) ?_)
  rintro i ⟨g1,g2⟩;(repeat refine AW.seq_k fun K hK=>?_);refine AW.rg ?_;simp[-Int.natCast_pow,e1];try (refine hK _ rfl ?_;clear hK K)
  (repeat refine AW.seq ?_);refine AW.cs (fun hi=>?_) (fun hi=>?_) rfl<;>(try simp at hi)
  ·refine AW.skip ?_;try simp[-Int.natCast_pow]
   try (refine hK _ rfl ?_;clear hK K)
   have w1:=Aq (i+1) (by omega);have g3:∀x,x<i→Qco n L x=true:=by simpa using g2
   have hsz:=T2 n i hn hi;have hwi:=Ph es n hn hes hl some_ hsome hsl i hi;rw[hL]at hwi;have hkn:=Ux n (A2 i);have hsp:spn L (A2 i)≤L.length:=List.countP_le_length;have hp:Qco n L i=!(decide (2≤sz n (A2 i))&&decide (2*sz n (A2 i)<spn L (A2 i)+3)):=rfl;generalize sz n (A2 i)=k at *;generalize spn L (A2 i)=q at *;have w2:=Aq (2*k) (by omega);have w3:IntKind.i64.wrap (((2*k:Nat):Int)-3)=((2*k:Nat):Int)-3:=Md (by omega);(repeat refine AW.seq ?_);refine AW.block ?_;(repeat refine AW.seq_k fun K hK=>?_)
   refine AW.rg ?_;simp[-Int.natCast_pow];try (refine hK _ rfl ?_;clear hK K)
   refine Ac.val hsz ?_;simp[-Int.natCast_pow];try (refine hK _ rfl ?_;clear hK K)
   by_cases hk:2≤k
   ·(repeat refine AW.seq_k fun K hK=>?_);refine AW.rg ?_;simp[-Int.natCast_pow,hk];try (refine hK _ rfl ?_;clear hK K)
    refine Ac.val hwi ?_;simp[-Int.natCast_pow,-Int.natCast_mul,w2,w3];try (refine hK _ rfl ?_;clear hK K)
    (repeat refine AW.seq ?_);refine AW.cs (fun h=>?_) (fun h=>?_) rfl<;>(try simp[-Int.natCast_mul]at h)
    ·have hf:He n L=false:=by
      rw[Uq,List.all_eq_false];exact⟨i,by simpa using hi,by rw[hp];simp;omega⟩
     (repeat refine AW.seq_k fun K hK=>?_);refine AW.rg ?_;simp[-Int.natCast_pow,-Int.natCast_mul];try (refine hK _ rfl ?_;clear hK K)
     exact AW.ret (Af rfl _ (.same _) ⟨by rw[hf];rfl,rfl⟩)
    ·refine AW.skip ?_;try simp[-Int.natCast_mul,-Int.natCast_pow]
     try (refine hK _ rfl ?_;clear hK K)
     (repeat refine AW.seq_k fun K hK=>?_);refine AW.rg ?_;simp[-Int.natCast_pow,-Int.natCast_add,-Int.natCast_mul,w1];try (refine hK _ rfl ?_;clear hK K)
     exact⟨⟨by omega,fun x hx=>(Nat.lt_or_ge x i).elim (g3 x) fun h1=>by rw[show x=i by omega,hp];simp;omega⟩,by omega⟩
   ·(repeat refine AW.seq_k fun K hK=>?_);refine AW.rg ?_;simp[-Int.natCast_pow,hk];try (refine hK _ rfl ?_;clear hK K)
    refine AW.no ?_ rfl;refine AW.skip ?_;try simp[-Int.natCast_pow]
    try (refine hK _ rfl ?_;clear hK K)
    (repeat refine AW.seq_k fun K hK=>?_);refine AW.rg ?_;simp[-Int.natCast_pow,-Int.natCast_add,w1];try (refine hK _ rfl ?_;clear hK K)
    exact⟨⟨by omega,fun x hx=>(Nat.lt_or_ge x i).elim (g3 x) fun h1=>by rw[show x=i by omega,hp];simp;omega⟩,by omega⟩
  ·refine AW.exit ?_;try simp[-Int.natCast_pow]
   have:i=2^n:=by omega
   rw[Uq,←this];exact g2
 ·rintro _ h;(repeat refine AW.seq_k fun K hK=>?_);refine AW.rg ?_;simp;try (refine hK _ rfl ?_;clear hK K)
  exact AW.ret (Af rfl _ (.same _) ⟨by rw[h];rfl,rfl⟩)
end Go.Av
end
section
namespace Go.Av
open Go.Proofs Go.Lam
def Bp (x y:RE):Bool:=(y.a==x.a&&y.b==x.b) || (y.a==x.b&&y.b==x.a)
def okE (n:Int) (pre:List RE) (x:RE):Bool:=decide (0≤x.a)&&decide (x.a<n)&&decide (0≤x.b)&&decide (x.b<n)&&!(x.a==x.b)&&x.sq.ok&&decide (0<Dd x.sq)&&!(pre.any (Bp x))
def Om (n:Int) (es:List RE) (i:Nat):Bool:=okE n (es.take i) (Gx es i)
def C2 (n:Int) (es:List RE):Bool:=decide (1≤n)&&decide (n≤12)&&decide (es.length≤40)&&(List.range es.length).all (Om n es)
def Bw (n:Int) (es:List RE):AV:=.int .i64 (if C2 n es=true then 0 else 1)
def LbE (es:List RE):Prop:=∀x∈es,x.sq.Lb
theorem LbE.at {es:List RE} (h:LbE es) {i:Nat} (hi:i<es.length):(Gx es i).sq.Lb:=by rw[Lq hi];exact h _ (List.getElem_mem hi)
theorem B4 {n:Int} {es:List RE} {i:Nat} (hi:i<es.length) (h:Om n es i=false):C2 n es=false:=by
 unfold C2;have:(List.range es.length).all (Om n es)=false:=List.all_eq_false.2 ⟨i,by simpa using hi,by rw[h];simp⟩;rw[this,Bool.and_false]
theorem Qez {b:Nat} (X:RE):Bv (Aa.emp.set b ⟨46,6,[X.av]⟩) Aa.emp (.ptr b 6 0 0) (.rptr [.int .i64 X.a,.int .i64 X.b,.bool X.sq.n1,An X.sq.l1,.bool X.sq.n2,An X.sq.l2]) :=
 .ptr b 6 0 0 ⟨46,6,[X.av]⟩ X.av (Aa.set_same _ _ _) rfl rfl rfl
theorem B8 {n:Int} {pre:List RE} {x:RE} (h:¬(0≤x.a∧x.a<n∧0≤x.b∧x.b<n∧x.a≠x.b∧x.sq.ok=true∧0<Dd x.sq∧pre.any (Bp x)=false)):okE n pre x=false:=by
 cases hc:okE n pre x with
 |false=>rfl
 |true=>unfold okE at hc;simp only[Bool.and_eq_true,decide_eq_true_eq,Bool.not_eq_true',beq_eq_false_iff_ne]at hc;exact absurd ⟨hc.1.1.1.1.1.1.1,hc.1.1.1.1.1.1.2,hc.1.1.1.1.1.2,hc.1.1.1.1.2,hc.1.1.1.2,hc.1.1.2,hc.1.2,hc.2⟩ h
theorem Xd {n:Int} {pre:List RE} {x:RE} (h:0≤x.a∧x.a<n∧0≤x.b∧x.b<n∧x.a≠x.b∧x.sq.ok=true∧0<Dd x.sq∧pre.any (Bp x)=false):okE n pre x=true:=by
 obtain⟨h1,h2,h3,h4,h5,h6,h7,h8⟩:=h;unfold okE;rw[h6,h8];simp[h1,h2,h3,h4,h5,h7]
theorem S1 (n:Int) (es:List RE) (hb:LbE es):Aj Tryz.prog 12 [.int .i64 n,A3 es] Aa.emp fun v m=>v=Bw n es∧m=Aa.emp:=by
 refine Ae Tryz.func12 rfl rfl 111 rfl (Nat.le_of_ble_eq_true rfl) ?_;unfold A3;(repeat refine AW.seq_k fun K hK=>?_);refine AW.rg ?_;simp[Ak];try (refine hK _ rfl ?_;clear hK K)
 by_cases c1:n<1
 ·have hc:C2 n es=false:=by unfold C2;simp;omega
  (repeat refine AW.seq_k fun K hK=>?_);refine AW.rg ?_;simp[c1];try (refine hK _ rfl ?_;clear hK K)
  refine AW.yes ?_ rfl;(repeat refine AW.seq_k fun K hK=>?_);refine AW.rg ?_;simp;try (refine hK _ rfl ?_;clear hK K)
  exact AW.ret (Af rfl _ (.same _) ⟨by unfold Bw;rw[hc];rfl,rfl⟩)
 by_cases c2:12<n
 ·have hc:C2 n es=false:=by unfold C2;simp;omega
  (repeat refine AW.seq_k fun K hK=>?_);refine AW.rg ?_;simp[c1,c2];try (refine hK _ rfl ?_;clear hK K)
  refine AW.yes ?_ rfl;(repeat refine AW.seq_k fun K hK=>?_);refine AW.rg ?_;simp;try (refine hK _ rfl ?_;clear hK K)
  exact AW.ret (Af rfl _ (.same _) ⟨by unfold Bw;rw[hc];rfl,rfl⟩)
 by_cases c3:(40:Int)<(es.length:Int)
 ·have hc:C2 n es=false:=by unfold C2;simp;omega
  (repeat refine AW.seq_k fun K hK=>?_);refine AW.rg ?_;simp[c1,c2,c3];try (refine hK _ rfl ?_;clear hK K)
  refine AW.yes ?_ rfl;(repeat refine AW.seq_k fun K hK=>?_);refine AW.rg ?_;simp;try (refine hK _ rfl ?_;clear hK K)
  exact AW.ret (Af rfl _ (.same _) ⟨by unfold Bw;rw[hc];rfl,rfl⟩)
 (repeat refine AW.seq_k fun K hK=>?_);refine AW.rg ?_;simp[c1,c2,c3];try (refine hK _ rfl ?_;clear hK K)
 refine AW.no ?_ rfl;refine AW.skip ?_;try simp
 try (refine hK _ rfl ?_;clear hK K)
 refine AW.seq_ex (ι:=Unit) (fun _=>[]) (fun _=>Aa.emp) (fun _=>C2 n es=true) ?_ ?_
 ·(repeat refine AW.seq_k fun K hK=>?_);refine AW.rg ?_;simp;try (refine hK _ rfl ?_;clear hK K)
  refine AW.block (AW.loopS (ι:=Nat) (fun i=>[(0,.int .i64 n),(1,.sl 6 (D0 es)),(5,.int .i64 (i:Nat))]) (fun _=>Aa.emp)
   (fun i=>i≤es.length∧(List.range i).all (Om n es)=true) (fun i=>es.length-i) 0 ⟨by simp,by simp⟩ rfl (by simp) ?_)
  rintro i ⟨g1,g2⟩;(repeat refine AW.seq_k fun K hK=>?_);refine AW.rg ?_;simp;try (refine hK _ rfl ?_;clear hK K)
  (repeat refine AW.seq ?_);refine AW.cs (fun hi=>?_) (fun hi=>?_) rfl<;>(try simp at hi)
  ·refine AW.skip ?_;try simp
   try (refine hK _ rfl ?_;clear hK K)
   have w1:=Aq (i+1) (by omega);have g3:∀x,x<i→Om n es x=true:=by simpa using g2
   have hx:=hb.at hi;have hv:=Pd (Gx es i).sq.n1 (Gx es i).sq.l1 (Gx es i).sq.n2 (Gx es i).sq.l2 hx.1 hx.2;have hs:=W5 (Gx es i).sq hx;have hp:Om n es i=okE n (es.take i) (Gx es i):=rfl;generalize hX:Gx es i=X at *;have fin:∀s:St,Om n es i=false→AW Tryz.prog Code.ret (Nj Tryz.prog Tryz.f12.results.toList fun v m=>v=Bw n es∧m=Aa.emp) (S 111 ((4,.int .i64 1)::[]) Aa.emp):=fun _ hf =>
    AW.ret (Af rfl _ (.same _) ⟨by unfold Bw;rw[B4 hi hf];rfl,rfl⟩)
   (repeat refine AW.seq ?_);refine AW.block ?_;(repeat refine AW.seq_k fun K hK=>?_);refine AW.rg ?_;simp[hi,hX,Cj];try (refine hK _ rfl ?_;clear hK K)
   refine Ah.intro fun b6 hb6=>?_;refine hK _ rfl ?_;clear hK K;refine AW.toEmp [(0,.int .i64 n),(1,.sl 6 (D0 es)),(5,.int .i64 (i:Nat)),(6,.rptr [.int .i64 X.a,.int .i64 X.b,.bool X.sq.n1,An X.sq.l1,.bool X.sq.n2,An X.sq.l2])] (by simp;exact Qez X) ?_;by_cases d1:X.a<0
   ·have hf:Om n es i=false:=by rw[hp];exact B8 (by rintro⟨q1,q2,q3,q4,q5,_⟩;omega)
    (repeat refine AW.seq_k fun K hK=>?_);refine AW.rg ?_;simp[d1];try (refine hK _ rfl ?_;clear hK K)
    refine AW.yes ?_ rfl;(repeat refine AW.seq_k fun K hK=>?_);refine AW.rg ?_;simp;try (refine hK _ rfl ?_;clear hK K)
    exact AW.ret (Af rfl _ (.same _) ⟨by unfold Bw;rw[B4 hi hf];rfl,rfl⟩)
   by_cases d2:n≤X.a
   ·have hf:Om n es i=false:=by rw[hp];exact B8 (by rintro⟨q1,q2,q3,q4,q5,_⟩;omega)
    (repeat refine AW.seq_k fun K hK=>?_);refine AW.rg ?_;simp[d1,d2];try (refine hK _ rfl ?_;clear hK K)
    refine AW.yes ?_ rfl;(repeat refine AW.seq_k fun K hK=>?_);refine AW.rg ?_;simp;try (refine hK _ rfl ?_;clear hK K)
    exact AW.ret (Af rfl _ (.same _) ⟨by unfold Bw;rw[B4 hi hf];rfl,rfl⟩)
   by_cases d3:X.b<0
   ·have hf:Om n es i=false:=by rw[hp];exact B8 (by rintro⟨q1,q2,q3,q4,q5,_⟩;omega)
    (repeat refine AW.seq_k fun K hK=>?_);refine AW.rg ?_;simp[d1,d2,d3];try (refine hK _ rfl ?_;clear hK K)
    refine AW.yes ?_ rfl;(repeat refine AW.seq_k fun K hK=>?_);refine AW.rg ?_;simp;try (refine hK _ rfl ?_;clear hK K)
    exact AW.ret (Af rfl _ (.same _) ⟨by unfold Bw;rw[B4 hi hf];rfl,rfl⟩)
   by_cases d4:n≤X.b
   ·have hf:Om n es i=false:=by rw[hp];exact B8 (by rintro⟨q1,q2,q3,q4,q5,_⟩;omega)
    (repeat refine AW.seq_k fun K hK=>?_);refine AW.rg ?_;simp[d1,d2,d3,d4];try (refine hK _ rfl ?_;clear hK K)
    refine AW.yes ?_ rfl;(repeat refine AW.seq_k fun K hK=>?_);refine AW.rg ?_;simp;try (refine hK _ rfl ?_;clear hK K)
    exact AW.ret (Af rfl _ (.same _) ⟨by unfold Bw;rw[B4 hi hf];rfl,rfl⟩)
   by_cases d5:X.a=X.b
   ·have hf:Om n es i=false:=by rw[hp];exact B8 (by rintro⟨q1,q2,q3,q4,q5,_⟩;omega)
    (repeat refine AW.seq_k fun K hK=>?_);refine AW.rg ?_;simp[d1,d2,d3,d4,d5];try (refine hK _ rfl ?_;clear hK K)
    refine AW.yes ?_ rfl;(repeat refine AW.seq_k fun K hK=>?_);refine AW.rg ?_;simp;try (refine hK _ rfl ?_;clear hK K)
    exact AW.ret (Af rfl _ (.same _) ⟨by unfold Bw;rw[B4 hi hf];rfl,rfl⟩)
   by_cases d6:X.sq.ok=false
   ·have hf:Om n es i=false:=by rw[hp];exact B8 (fun q=>by rw[d6]at q;simp at q)
    have hok:Mz X.sq.n1 X.sq.l1 X.sq.n2 X.sq.l2=false:=d6;(repeat refine AW.seq_k fun K hK=>?_);refine AW.rg ?_;simp[d1,d2,d3,d4,d5];try (refine hK _ rfl ?_;clear hK K)
    refine Ac.val hv ?_;simp[hok];try (refine hK _ rfl ?_;clear hK K)
    refine AW.yes ?_ rfl;(repeat refine AW.seq_k fun K hK=>?_);refine AW.rg ?_;simp;try (refine hK _ rfl ?_;clear hK K)
    exact AW.ret (Af rfl _ (.same _) ⟨by unfold Bw;rw[B4 hi hf];rfl,rfl⟩)
   replace d6:X.sq.ok=true:=by simpa using d6
   have hok:Mz X.sq.n1 X.sq.l1 X.sq.n2 X.sq.l2=true:=d6;by_cases d7:Dd X.sq≤0
   ·have hf:Om n es i=false:=by rw[hp];exact B8 (fun q=>by have:=q.2.2.2.2.2.2.1;omega)
    (repeat refine AW.seq_k fun K hK=>?_);refine AW.rg ?_;simp[d1,d2,d3,d4,d5];try (refine hK _ rfl ?_;clear hK K)
    refine Ac.val hv ?_;simp[hok];refine Ac.val hs ?_;simp[d7];try (refine hK _ rfl ?_;clear hK K)
    refine AW.yes ?_ rfl;(repeat refine AW.seq_k fun K hK=>?_);refine AW.rg ?_;simp;try (refine hK _ rfl ?_;clear hK K)
    exact AW.ret (Af rfl _ (.same _) ⟨by unfold Bw;rw[B4 hi hf];rfl,rfl⟩)
   (repeat refine AW.seq_k fun K hK=>?_);refine AW.rg ?_;simp[d1,d2,d3,d4,d5];try (refine hK _ rfl ?_;clear hK K)
   refine Ac.val hv ?_;simp[hok];refine Ac.val hs ?_;simp[d7];try (refine hK _ rfl ?_;clear hK K)
   refine AW.no ?_ rfl;refine AW.skip ?_;try simp
   try (refine hK _ rfl ?_;clear hK K)
   (repeat refine AW.seq_k fun K hK=>?_);refine AW.rg ?_;simp;try (refine hK _ rfl ?_;clear hK K)
   refine AW.block (AW.loopS (ι:=Nat) (fun k=>[(0,.int .i64 n),(1,.sl 6 (D0 es)),(5,.int .i64 (i:Nat)),(6,.rptr [.int .i64 X.a,.int .i64 X.b,.bool X.sq.n1,An X.sq.l1,.bool X.sq.n2,An X.sq.l2]),(7,.int .i64 (k:Nat))]) (fun _=>Aa.emp)
    (fun k=>k≤i∧∀q,q<k→Bp X (Gx es q)=false) (fun k=>i-k) 0 ⟨by simp,by simp⟩ rfl (by simp) ?_)
   rintro k ⟨k1,k2⟩;(repeat refine AW.seq_k fun K hK=>?_);refine AW.rg ?_;simp;try (refine hK _ rfl ?_;clear hK K)
   (repeat refine AW.seq ?_);refine AW.cs (fun hk=>?_) (fun hk=>?_) rfl<;>(try simp at hk)
   ·refine AW.skip ?_;try simp
    try (refine hK _ rfl ?_;clear hK K)
    have w2:=Aq (k+1) (by omega);have hkl:k<es.length:=by omega
    have hmem:Gx es k∈es.take i:=by rw[Lq hkl];exact List.mem_take_iff_getElem.2 ⟨k,by omega,rfl⟩
    generalize hY:Gx es k=Y at *;have hf:Bp X Y=true→Om n es i=false:=fun hs=>by rw[hp];exact B8 (fun q=>by have:=List.any_eq_false.1 q.2.2.2.2.2.2.2 Y hmem;exact this hs)
    have hno:Bp X Y=false→∀q,q<k+1→Bp X (Gx es q)=false:=fun hs q hq=>by
     rcases Nat.lt_or_ge q k with h1|h1
     ·exact k2 q h1
     ·rw[show q=k by omega,hY];exact hs
    (repeat refine AW.seq ?_);refine AW.block ?_;by_cases e1:Y.a=X.a
    ·by_cases e2:Y.b=X.b
     ·have pe1:(Y.a=X.a)=True:=eq_true e1;have pe2:(Y.b=X.b)=True:=eq_true e2;have hs:Bp X Y=true:=by unfold Bp;simp only[BEq.beq,pe1,pe2];simp
      (repeat refine AW.seq_k fun K hK=>?_);refine AW.rd [0,1,2,3,4,5,6,7,8,9,10,11,12,13,14,15,16,17,18,19,20,21,22,23,24,25,26,27,28,29,30,31,32,33,34,35,36,37] C8 ?_;simp[hkl,hY,Cj,pe1,pe2];try (refine hK _ rfl ?_;clear hK K)
      refine AW.yes ?_ rfl;(repeat refine AW.seq_k fun K hK=>?_);refine AW.rg ?_;simp;try (refine hK _ rfl ?_;clear hK K)
      exact AW.ret (Af rfl _ (.same _) ⟨by unfold Bw;rw[B4 hi (hf hs)];rfl,rfl⟩)
     ·by_cases e3:Y.a=X.b
      ·by_cases e4:Y.b=X.a
       ·have pe1:(Y.a=X.a)=True:=eq_true e1;have pe2:(Y.b=X.b)=False:=eq_false e2;have pe3:(Y.a=X.b)=True:=eq_true e3;have pe4:(Y.b=X.a)=True:=eq_true e4;have hs:Bp X Y=true:=by unfold Bp;simp only[BEq.beq,pe1,pe2,pe3,pe4];simp
        (repeat refine AW.seq_k fun K hK=>?_);refine AW.rd [0,1,2,3,4,5,6,7,8,9,10,11,12,13,14,15,16,17,18,19,20,21,22,23,24,25,26,27,28,29,30,31,32,33,34,35,36,37] C8 ?_;simp[hkl,hY,Cj,pe1,pe2,pe3,pe4];try (refine hK _ rfl ?_;clear hK K)
        refine AW.yes ?_ rfl;(repeat refine AW.seq_k fun K hK=>?_);refine AW.rg ?_;simp;try (refine hK _ rfl ?_;clear hK K)
        exact AW.ret (Af rfl _ (.same _) ⟨by unfold Bw;rw[B4 hi (hf hs)];rfl,rfl⟩)
       ·have pe1:(Y.a=X.a)=True:=eq_true e1;have pe2:(Y.b=X.b)=False:=eq_false e2;have pe3:(Y.a=X.b)=True:=eq_true e3;have pe4:(Y.b=X.a)=False:=eq_false e4;have hs:Bp X Y=false:=by unfold Bp;simp only[BEq.beq,pe1,pe2,pe3,pe4];simp
        (repeat refine AW.seq_k fun K hK=>?_);refine AW.rd [0,1,2,3,4,5,6,7,8,9,10,11,12,13,14,15,16,17,18,19,20,21,22,23,24,25,26,27,28,29,30,31,32,33,34,35,36,37] C8 ?_;simp[hkl,hY,Cj,pe1,pe2,pe3,pe4];try (refine hK _ rfl ?_;clear hK K)
        refine AW.no ?_ rfl;refine AW.skip ?_;try simp
        try (refine hK _ rfl ?_;clear hK K)
        (repeat refine AW.seq_k fun K hK=>?_);refine AW.rg ?_;simp[-Int.natCast_add,w2];try (refine hK _ rfl ?_;clear hK K)
        exact⟨⟨by omega,hno hs⟩,by omega⟩
      ·have pe1:(Y.a=X.a)=True:=eq_true e1;have pe2:(Y.b=X.b)=False:=eq_false e2;have pe3:(Y.a=X.b)=False:=eq_false e3;have hs:Bp X Y=false:=by unfold Bp;simp only[BEq.beq,pe1,pe2,pe3];simp
       (repeat refine AW.seq_k fun K hK=>?_);refine AW.rd [0,1,2,3,4,5,6,7,8,9,10,11,12,13,14,15,16,17,18,19,20,21,22,23,24,25,26,27,28,29,30,31,32,33,34,35,36,37] C8 ?_;simp[hkl,hY,Cj,pe1,pe2,pe3];try (refine hK _ rfl ?_;clear hK K)
       refine AW.no ?_ rfl;refine AW.skip ?_;try simp
       try (refine hK _ rfl ?_;clear hK K)
       (repeat refine AW.seq_k fun K hK=>?_);refine AW.rg ?_;simp[-Int.natCast_add,w2];try (refine hK _ rfl ?_;clear hK K)
       exact⟨⟨by omega,hno hs⟩,by omega⟩
    ·by_cases e3:Y.a=X.b
     ·by_cases e4:Y.b=X.a
      ·have pe1:(Y.a=X.a)=False:=eq_false e1;have pe3:(Y.a=X.b)=True:=eq_true e3;have pe4:(Y.b=X.a)=True:=eq_true e4;have hs:Bp X Y=true:=by unfold Bp;simp only[BEq.beq,pe1,pe3,pe4];simp
       (repeat refine AW.seq_k fun K hK=>?_);refine AW.rd [0,1,2,3,4,5,6,7,8,9,10,11,12,13,14,15,16,17,18,19,20,21,22,23,24,25,26,27,28,29,30,31,32,33,34,35,36,37] C8 ?_;simp[hkl,hY,Cj,pe1,pe3,pe4];try (refine hK _ rfl ?_;clear hK K)
       refine AW.yes ?_ rfl;(repeat refine AW.seq_k fun K hK=>?_);refine AW.rg ?_;simp;try (refine hK _ rfl ?_;clear hK K)
       exact AW.ret (Af rfl _ (.same _) ⟨by unfold Bw;rw[B4 hi (hf hs)];rfl,rfl⟩)
      ·have pe1:(Y.a=X.a)=False:=eq_false e1;have pe3:(Y.a=X.b)=True:=eq_true e3;have pe4:(Y.b=X.a)=False:=eq_false e4;have hs:Bp X Y=false:=by unfold Bp;simp only[BEq.beq,pe1,pe3,pe4];simp
       (repeat refine AW.seq_k fun K hK=>?_);refine AW.rd [0,1,2,3,4,5,6,7,8,9,10,11,12,13,14,15,16,17,18,19,20,21,22,23,24,25,26,27,28,29,30,31,32,33,34,35,36,37] C8 ?_;simp[hkl,hY,Cj,pe1,pe3,pe4];try (refine hK _ rfl ?_;clear hK K)
       refine AW.no ?_ rfl;refine AW.skip ?_;try simp
       try (refine hK _ rfl ?_;clear hK K)
       (repeat refine AW.seq_k fun K hK=>?_);refine AW.rg ?_;simp[-Int.natCast_add,w2];try (refine hK _ rfl ?_;clear hK K)
       exact⟨⟨by omega,hno hs⟩,by omega⟩
     ·have pe1:(Y.a=X.a)=False:=eq_false e1;have pe3:(Y.a=X.b)=False:=eq_false e3;have hs:Bp X Y=false:=by unfold Bp;simp only[BEq.beq,pe1,pe3];simp
      (repeat refine AW.seq_k fun K hK=>?_);refine AW.rd [0,1,2,3,4,5,6,7,8,9,10,11,12,13,14,15,16,17,18,19,20,21,22,23,24,25,26,27,28,29,30,31,32,33,34,35,36,37] C8 ?_;simp[hkl,hY,Cj,pe1,pe3];try (refine hK _ rfl ?_;clear hK K)
      refine AW.no ?_ rfl;refine AW.skip ?_;try simp
      try (refine hK _ rfl ?_;clear hK K)
      (repeat refine AW.seq_k fun K hK=>?_);refine AW.rg ?_;simp[-Int.natCast_add,w2];try (refine hK _ rfl ?_;clear hK K)
      exact⟨⟨by omega,hno hs⟩,by omega⟩
   ·refine AW.exit ?_;try simp
    have hki:k=i:=by omega
    have hany:(es.take i).any (Bp X)=false:=by
     rw[List.any_eq_false];intro y hy;obtain⟨q,hq,rfl⟩:=List.mem_take_iff_getElem.1 hy;have:=k2 q (by omega);rw[Lq (by omega)]at this;rw[this];simp
    (repeat refine AW.seq_k fun K hK=>?_);refine AW.rg ?_;simp[-Int.natCast_add,w1];try (refine hK _ rfl ?_;clear hK K)
    exact⟨⟨by omega,by intro q hq;rcases Nat.lt_or_ge q i with h1 | h1;exact g3 q h1;rw[show q=i by omega,hp];exact Xd ⟨by omega,by omega,by omega,by omega,d5,d6,by omega,hany⟩⟩,by omega⟩
  ·refine AW.exit ?_;try simp
   have:i=es.length:=by omega
   unfold C2;rw[←this,g2];simp;omega
 ·rintro _ h;(repeat refine AW.seq_k fun K hK=>?_);refine AW.rg ?_;simp;try (refine hK _ rfl ?_;clear hK K)
  exact AW.ret (Af rfl _ (.same _) ⟨by unfold Bw;rw[h];rfl,rfl⟩)
end Go.Av
end
section
namespace Go.Av
open Go.Proofs Go.Lam
def Qz (pre:List RE) (c:Nat):Bool:=pre.any fun y=>(y.a.toNat*12+y.b.toNat==c) || (y.b.toNat*12+y.a.toNat==c)
def Hw (pre:List RE):List AV:=(List.range 144).map fun c=>.bool (Qz pre c)
@[simp] theorem Mv (pre:List RE):(Hw pre).length=144:=by simp[Hw]
theorem Nx (pre:List RE) {c:Nat} (hc:c<144):(Hw pre)[c]?=some (.bool (Qz pre c)):=by simp[Hw,hc]
theorem Qd6 (pre:List RE):(Hw pre).all AV.one=true:=by simp[Hw,AV.one]
def RE.inB (x:RE):Prop:=0≤x.a∧x.a<12∧0≤x.b∧x.b<12
theorem Fw (pre:List RE) (x:RE) (hx:x.inB):((Hw pre).set (x.a.toNat*12+x.b.toNat) (.bool true)).set (x.b.toNat*12+x.a.toNat) (.bool true)=Hw (pre++[x]):=by
 obtain⟨h1,h2,h3,h4⟩:=hx;refine List.ext_getElem? fun c=>?_;by_cases hc:c<144
 ·rw[Nx _ hc,List.getElem?_set,List.length_set,Mv];by_cases e1:x.b.toNat*12+x.a.toNat=c
  ·rw[if_pos e1,if_pos (by omega)];simp[Qz,e1]
  ·rw[if_neg e1,List.getElem?_set,Mv];by_cases e2:x.a.toNat*12+x.b.toNat=c
   ·rw[if_pos e2,if_pos (by omega)];simp[Qz,e2]
   ·rw[if_neg e2,Nx _ hc];simp[Qz,e1,e2]
 ·rw[List.getElem?_eq_none (by simp;omega),List.getElem?_eq_none (by simp;omega)]
theorem Qbm {pre:List RE} {x:RE} (hp:∀y∈pre,y.inB) (hx:x.inB):Qz pre (x.a.toNat*12+x.b.toNat)=pre.any (Bp x):=by
 unfold Qz;rw[Bool.eq_iff_iff,List.any_eq_true,List.any_eq_true];obtain⟨h1,h2,h3,h4⟩:=hx;refine exists_congr fun y=>and_congr_right fun hy=>?_;obtain⟨q1,q2,q3,q4⟩:=hp y hy;unfold Bp;simp only[Bool.or_eq_true,beq_iff_eq,Bool.and_eq_true];omega
theorem S0 {cs:List AV} {j:Nat} (v:Bool) (h:j<cs.length) (hl:cs.length=144):Cn 144 1 (.agg cs) (.bool v) j=.agg (cs.set j (.bool v)):=by
 unfold Cn;rw[if_neg (by omega)];show AV.agg (cs.take j++[.bool v]++cs.drop (j+1))=_
 rw[List.set_eq_take_append_cons_drop,if_pos h];simp
theorem Qaz (bu:Nat) (pre:List RE):∀c y,Aa.emp.set bu ⟨73,144,[.agg (Hw pre)]⟩ c=some y→∀v∈y.l,v.cells.all AV.one=true:=by
 intro c y hy v hv;simp only[A1,Az]at hy;split at hy
 ·cases hy;simp only[List.mem_singleton]at hv;subst hv;exact Qd6 pre
 ·cases hy
theorem Qbs {m':Aa} {bu b:Nat} {x:Ep} (X:RE) (h:m' b=none):Bv ((Aa.emp.set bu x).set b ⟨46,6,[X.av]⟩) m' (.ptr b 6 0 0) (.rptr [.int .i64 X.a,.int .i64 X.b,.bool X.sq.n1,An X.sq.l1,.bool X.sq.n2,An X.sq.l2]) :=
 .ptr b 6 0 0 ⟨46,6,[X.av]⟩ X.av (Aa.set_same _ _ _) h rfl rfl
set_option maxRecDepth 8000 in
theorem Og (n:Int) (es:List RE) (hb:LbE es):Aj Tryz.prog 18 [.int .i64 n,A3 es] Aa.emp fun v m=>v=Bw n es∧m=Aa.emp:=by
 refine Ae Tryz.func18 rfl rfl 84 rfl (Nat.le_of_ble_eq_true rfl) ?_;unfold A3;(repeat refine AW.seq_k fun K hK=>?_);refine AW.rg ?_;simp[Ak];try (refine hK _ rfl ?_;clear hK K)
 by_cases c1:n<1
 ·have hc:C2 n es=false:=by unfold C2;simp;omega
  (repeat refine AW.seq_k fun K hK=>?_);refine AW.rg ?_;simp[c1];try (refine hK _ rfl ?_;clear hK K)
  refine AW.yes ?_ rfl;(repeat refine AW.seq_k fun K hK=>?_);refine AW.rg ?_;simp;try (refine hK _ rfl ?_;clear hK K)
  exact AW.ret (Af rfl _ (.same _) ⟨by unfold Bw;rw[hc];rfl,rfl⟩)
 by_cases c2:12<n
 ·have hc:C2 n es=false:=by unfold C2;simp;omega
  (repeat refine AW.seq_k fun K hK=>?_);refine AW.rg ?_;simp[c1,c2];try (refine hK _ rfl ?_;clear hK K)
  refine AW.yes ?_ rfl;(repeat refine AW.seq_k fun K hK=>?_);refine AW.rg ?_;simp;try (refine hK _ rfl ?_;clear hK K)
  exact AW.ret (Af rfl _ (.same _) ⟨by unfold Bw;rw[hc];rfl,rfl⟩)
 by_cases c3:(40:Int)<(es.length:Int)
 ·have hc:C2 n es=false:=by unfold C2;simp;omega
  (repeat refine AW.seq_k fun K hK=>?_);refine AW.rg ?_;simp[c1,c2,c3];try (refine hK _ rfl ?_;clear hK K)
  refine AW.yes ?_ rfl;(repeat refine AW.seq_k fun K hK=>?_);refine AW.rg ?_;simp;try (refine hK _ rfl ?_;clear hK K)
  exact AW.ret (Af rfl _ (.same _) ⟨by unfold Bw;rw[hc];rfl,rfl⟩)
 (repeat refine AW.seq_k fun K hK=>?_);refine AW.rg ?_;simp[c1,c2,c3];try (refine hK _ rfl ?_;clear hK K)
 refine AW.no ?_ rfl;refine AW.skip ?_;try simp
 try (refine hK _ rfl ?_;clear hK K)
 (repeat refine AW.seq_k fun K hK=>?_);refine AW.rg ?_;simp;try (refine hK _ rfl ?_;clear hK K)
 refine Ah.intro fun bu hbu=>?_;refine hK _ rfl ?_;clear hK K;refine AW.seq_ex (ι:=Unit) (fun _=>[]) (fun _=>Aa.emp.set bu ⟨73,144,[.agg (Hw es)]⟩) (fun _=>C2 n es=true) ?_ ?_
 ·(repeat refine AW.seq_k fun K hK=>?_);refine AW.rg ?_;simp;try (refine hK _ rfl ?_;clear hK K)
  refine AW.block (AW.loopS (ι:=Nat) (fun i=>[(0,.int .i64 n),(1,.sl 6 (D0 es)),(5,.ptr bu 144 0 0),(19,.sl 6 (D0 es)),(20,.int .i64 (es.length:Nat)),(21,.int .i64 (i:Nat))]) (fun i=>Aa.emp.set bu ⟨73,144,[.agg (Hw (es.take i))]⟩)
   (fun i=>i≤es.length∧(List.range i).all (Om n es)=true) (fun i=>es.length-i) 0 ⟨by simp,by simp⟩ (by rfl) (by simp) ?_)
  rintro i ⟨g1,g2⟩;(repeat refine AW.seq_k fun K hK=>?_);refine AW.rg ?_;simp;try (refine hK _ rfl ?_;clear hK K)
  (repeat refine AW.seq ?_);refine AW.cs (fun hi=>?_) (fun hi=>?_) rfl<;>(try simp at hi)
  ·refine AW.skip ?_;try simp
   try (refine hK _ rfl ?_;clear hK K)
   have w1:=Aq (i+1) (by omega);have g3:∀x,x<i→Om n es x=true:=by simpa using g2
   have hx:=hb.at hi;have hv:=Fc (Gx es i).sq hx;have hs:=L5 (Gx es i).sq hx;have hp:Om n es i=okE n (es.take i) (Gx es i):=rfl;have htk:es.take (i+1)=es.take i++[Gx es i]:=by rw[Lq hi,List.take_add_one,List.getElem?_eq_getElem hi];rfl
   have hpre:∀y∈es.take i,y.inB:=by
    intro y hy;obtain⟨q,hq,rfl⟩:=List.mem_take_iff_getElem.1 hy;have h1:=g3 q (by omega);unfold Om okE at h1;rw[Lq (by omega)]at h1;simp only[Bool.and_eq_true,decide_eq_true_eq]at h1;exact⟨by omega,by omega,by omega,by omega⟩
   generalize hX:Gx es i=X at *;(repeat refine AW.seq ?_);refine AW.block ?_;(repeat refine AW.seq_k fun K hK=>?_);refine AW.rg ?_;simp[hi,hX,Cj];try (refine hK _ rfl ?_;clear hK K)
   refine Ah.intro fun b6 hb6=>?_;simp only[Ap,Az,and_true]at hb6;have hb6':=hb6.1;have hb6'':=hb6.2;refine hK _ rfl ?_;clear hK K;refine AW.turn [(0,.int .i64 n),(1,.sl 6 (D0 es)),(5,.ptr bu 144 0 0),(7,.rptr [.int .i64 X.a,.int .i64 X.b,.bool X.sq.n1,An X.sq.l1,.bool X.sq.n2,An X.sq.l2]),(19,.sl 6 (D0 es)),(20,.int .i64 (es.length:Nat)),(21,.int .i64 (i:Nat))] (Aa.emp.set bu ⟨73,144,[.agg (Hw (es.take i))]⟩) (Bo.drop (by simp[hb6',hb6'']) (Qaz bu (es.take i))) ?_ ?_
   ·simp;exact Qbs X (by simp[hb6'])
   by_cases d1:X.a<0
   ·have hf:Om n es i=false:=by rw[hp];exact B8 (by rintro⟨q1,q2,q3,q4,q5,_⟩;omega)
    (repeat refine AW.seq_k fun K hK=>?_);refine AW.rdL [bu] [0,1,2,3,4,5,6,7,8,9,10,11,12,13,14,15,16,17,18,19,20,21,22,23,24,25,26,27,28,29,30,31,32,33,34,35] C8 (by simp) ?_;simp[d1];try (refine hK _ rfl ?_;clear hK K)
    refine AW.yes ?_ rfl;(repeat refine AW.seq_k fun K hK=>?_);refine AW.rg ?_;simp;try (refine hK _ rfl ?_;clear hK K)
    exact AW.ret (Af rfl _ (.same _) ⟨by unfold Bw;rw[B4 hi hf];rfl,rfl⟩)
   by_cases d2:n≤X.a
   ·have hf:Om n es i=false:=by rw[hp];exact B8 (by rintro⟨q1,q2,q3,q4,q5,_⟩;omega)
    (repeat refine AW.seq_k fun K hK=>?_);refine AW.rdL [bu] [0,1,2,3,4,5,6,7,8,9,10,11,12,13,14,15,16,17,18,19,20,21,22,23,24,25,26,27,28,29,30,31,32,33,34,35] C8 (by simp) ?_;simp[d1,d2];try (refine hK _ rfl ?_;clear hK K)
    refine AW.yes ?_ rfl;(repeat refine AW.seq_k fun K hK=>?_);refine AW.rg ?_;simp;try (refine hK _ rfl ?_;clear hK K)
    exact AW.ret (Af rfl _ (.same _) ⟨by unfold Bw;rw[B4 hi hf];rfl,rfl⟩)
   by_cases d3:X.b<0
   ·have hf:Om n es i=false:=by rw[hp];exact B8 (by rintro⟨q1,q2,q3,q4,q5,_⟩;omega)
    (repeat refine AW.seq_k fun K hK=>?_);refine AW.rdL [bu] [0,1,2,3,4,5,6,7,8,9,10,11,12,13,14,15,16,17,18,19,20,21,22,23,24,25,26,27,28,29,30,31,32,33,34,35] C8 (by simp) ?_;simp[d1,d2,d3];try (refine hK _ rfl ?_;clear hK K)
    refine AW.yes ?_ rfl;(repeat refine AW.seq_k fun K hK=>?_);refine AW.rg ?_;simp;try (refine hK _ rfl ?_;clear hK K)
    exact AW.ret (Af rfl _ (.same _) ⟨by unfold Bw;rw[B4 hi hf];rfl,rfl⟩)
   by_cases d4:n≤X.b
   ·have hf:Om n es i=false:=by rw[hp];exact B8 (by rintro⟨q1,q2,q3,q4,q5,_⟩;omega)
    (repeat refine AW.seq_k fun K hK=>?_);refine AW.rdL [bu] [0,1,2,3,4,5,6,7,8,9,10,11,12,13,14,15,16,17,18,19,20,21,22,23,24,25,26,27,28,29,30,31,32,33,34,35] C8 (by simp) ?_;simp[d1,d2,d3,d4];try (refine hK _ rfl ?_;clear hK K)
    refine AW.yes ?_ rfl;(repeat refine AW.seq_k fun K hK=>?_);refine AW.rg ?_;simp;try (refine hK _ rfl ?_;clear hK K)
    exact AW.ret (Af rfl _ (.same _) ⟨by unfold Bw;rw[B4 hi hf];rfl,rfl⟩)
   by_cases d5:X.a=X.b
   ·have hf:Om n es i=false:=by rw[hp];exact B8 (by rintro⟨q1,q2,q3,q4,q5,_⟩;omega)
    (repeat refine AW.seq_k fun K hK=>?_);refine AW.rdL [bu] [0,1,2,3,4,5,6,7,8,9,10,11,12,13,14,15,16,17,18,19,20,21,22,23,24,25,26,27,28,29,30,31,32,33,34,35] C8 (by simp) ?_;simp[d1,d2,d3,d4,d5];try (refine hK _ rfl ?_;clear hK K)
    refine AW.yes ?_ rfl;(repeat refine AW.seq_k fun K hK=>?_);refine AW.rg ?_;simp;try (refine hK _ rfl ?_;clear hK K)
    exact AW.ret (Af rfl _ (.same _) ⟨by unfold Bw;rw[B4 hi hf];rfl,rfl⟩)
   have hin:X.inB:=⟨by omega,by omega,by omega,by omega⟩;have hug:=Nx (es.take i) (c:=X.a.toNat*12+X.b.toNat) (by obtain⟨q1,q2,q3,q4⟩:=hin;omega);have hus:=Qbm (pre:=es.take i) (x:=X) hpre hin;have l1:X.a<12:=by omega
   have l2:X.b<12:=by omega
   have l3:0≤X.a:=by omega
   have l4:0≤X.b:=by omega
   by_cases d0:(es.take i).any (Bp X)=true
   ·have hf:Om n es i=false:=by rw[hp];exact B8 (fun q=>by have:=q.2.2.2.2.2.2.2;rw[d0]at this;cases this)
    rw[hus,d0]at hug;(repeat refine AW.seq_k fun K hK=>?_);refine AW.rdL [bu] [0,1,2,3,4,5,6,7,8,9,10,11,12,13,14,15,16,17,18,19,20,21,22,23,24,25,26,27,28,29,30,31,32,33,34,35] C8 (by simp) ?_;simp[d1,d2,d3,d4,d5,l1,l2,l3,l4,hug];try (refine hK _ rfl ?_;clear hK K)
    refine AW.yes ?_ rfl;(repeat refine AW.seq_k fun K hK=>?_);refine AW.rg ?_;simp;try (refine hK _ rfl ?_;clear hK K)
    exact AW.ret (Af rfl _ (.same _) ⟨by unfold Bw;rw[B4 hi hf];rfl,rfl⟩)
   replace d0:(es.take i).any (Bp X)=false:=by simpa using d0
   rw[hus,d0]at hug;(repeat refine AW.seq_k fun K hK=>?_);refine AW.rdL [bu] [0,1,2,3,4,5,6,7,8,9,10,11,12,13,14,15,16,17,18,19,20,21,22,23,24,25,26,27,28,29,30,31,32,33,34,35] C8 (by simp) ?_;simp[d1,d2,d3,d4,d5,l1,l2,l3,l4,hug];try (refine hK _ rfl ?_;clear hK K)
   refine AW.no ?_ rfl;refine AW.skip ?_;try simp
   try (refine hK _ rfl ?_;clear hK K)
   by_cases d6:X.sq.ok=false
   ·have hf:Om n es i=false:=by rw[hp];exact B8 (fun q=>by rw[d6]at q;simp at q)
    (repeat refine AW.seq_k fun K hK=>?_);refine AW.rg ?_;simp;try (refine hK _ rfl ?_;clear hK K)
    refine Ac.val hv ?_;simp[d6];try (refine hK _ rfl ?_;clear hK K)
    refine AW.yes ?_ rfl;(repeat refine AW.seq_k fun K hK=>?_);refine AW.rg ?_;simp;try (refine hK _ rfl ?_;clear hK K)
    exact AW.ret (Af rfl _ (.same _) ⟨by unfold Bw;rw[B4 hi hf];rfl,rfl⟩)
   replace d6:X.sq.ok=true:=by simpa using d6
   by_cases d7:Dd X.sq≤0
   ·have hf:Om n es i=false:=by rw[hp];exact B8 (fun q=>by have:=q.2.2.2.2.2.2.1;omega)
    (repeat refine AW.seq_k fun K hK=>?_);refine AW.rg ?_;simp;try (refine hK _ rfl ?_;clear hK K)
    refine Ac.val hv ?_;simp[d6];refine Ac.val hs ?_;simp[d7];try (refine hK _ rfl ?_;clear hK K)
    refine AW.yes ?_ rfl;(repeat refine AW.seq_k fun K hK=>?_);refine AW.rg ?_;simp;try (refine hK _ rfl ?_;clear hK K)
    exact AW.ret (Af rfl _ (.same _) ⟨by unfold Bw;rw[B4 hi hf];rfl,rfl⟩)
   (repeat refine AW.seq_k fun K hK=>?_);refine AW.rg ?_;simp;try (refine hK _ rfl ?_;clear hK K)
   refine Ac.val hv ?_;simp[d6];refine Ac.val hs ?_;simp[d7];try (refine hK _ rfl ?_;clear hK K)
   refine AW.no ?_ rfl;refine AW.skip ?_;try simp
   try (refine hK _ rfl ?_;clear hK K)
   have st1:=S0 (cs:=Hw (es.take i)) (j:=X.a.toNat*12+X.b.toNat) true (by simp;obtain⟨q1,q2,q3,q4⟩:=hin;omega) (by simp);have st2:=S0 (cs:=(Hw (es.take i)).set (X.a.toNat*12+X.b.toNat) (.bool true)) (j:=X.b.toNat*12+X.a.toNat) true (by simp;obtain⟨q1,q2,q3,q4⟩:=hin;omega) (by simp);have pj1:X.a.toNat*12+X.b.toNat<144:=by omega
   have pj2:X.b.toNat*12+X.a.toNat<144:=by omega
   (repeat refine AW.seq_k fun K hK=>?_);refine AW.rdT [] [7,71,73,75,77] [] [] [0,1,2,3,4,5,6,7,8,9,11,10,12,13] C8 (by simp[l1,l2,l3,l4,st1,st2,Fw _ _ hin,pj1,pj2]) (by simp[l1,l2,l3,l4,st1,st2,Fw _ _ hin,pj1,pj2]) (by simp[l1,l2,l3,l4,st1,st2,Fw _ _ hin,pj1,pj2]) (by simp[l1,l2,l3,l4,st1,st2,Fw _ _ hin,pj1,pj2]) (by simp[l1,l2,l3,l4,st1,st2,Fw _ _ hin,pj1,pj2]) ?_;simp[l1,l2,l3,l4,st1,st2,Fw _ _ hin,pj1,pj2];try (refine hK _ rfl ?_;clear hK K)
   refine⟨by omega,by omega,?_⟩;(repeat refine AW.seq_k fun K hK=>?_);refine AW.rg ?_;simp[-Int.natCast_add,w1];try (refine hK _ rfl ?_;clear hK K)
   exact⟨i+1,⟨by omega,by intro q hq;rcases Nat.lt_or_ge q i with h1 | h1;exact g3 q h1;rw[show q=i by omega,hp];exact Xd ⟨by omega,by omega,by omega,by omega,d5,d6,by omega,d0⟩⟩,by omega,by rw[htk],rfl⟩
  ·refine AW.exit ?_;try simp
   have:i=es.length:=by omega
   refine⟨?_,?_⟩
   ·unfold C2;rw[←this,g2];simp;omega
   ·rw[List.take_of_length_le (by omega)]
 ·rintro _ h;(repeat refine AW.seq_k fun K hK=>?_);refine AW.rg ?_;simp;try (refine hK _ rfl ?_;clear hK K)
  exact AW.ret (Af rfl _ (.same _) ⟨by unfold Bw;rw[h];rfl,rfl⟩)
end Go.Av
end
section
namespace Go.Av
open Go.Proofs Go.Lam
theorem Df {n:Int} {es:List RE} (h:C2 n es=true):(1≤n∧n≤12∧es.length≤40)∧∀i,i<es.length→okE n (es.take i) (Gx es i)=true:=by
 unfold C2 at h;simp only[Bool.and_eq_true,decide_eq_true_eq,List.all_eq_true,List.mem_range]at h;exact⟨⟨h.1.1.1,h.1.1.2,h.1.2⟩,h.2⟩
theorem Qdj {n:Int} {pre:List RE} {x:RE} (h:okE n pre x=true):0≤x.a∧x.a<n∧0≤x.b∧x.b<n∧x.a≠x.b∧x.sq.ok=true∧0<Dd x.sq∧pre.any (Bp x)=false:=by
 unfold okE at h;simp only[Bool.and_eq_true,decide_eq_true_eq,Bool.not_eq_true',beq_eq_false_iff_ne]at h;exact⟨h.1.1.1.1.1.1.1,h.1.1.1.1.1.1.2,h.1.1.1.1.1.2,h.1.1.1.1.2,h.1.1.1.2,h.1.1.2,h.1.2,h.2⟩
theorem Hs {n:Int} {es:List RE} (h:C2 n es=true):I2 n.toNat es:=by
 obtain⟨⟨h1,h2,h3⟩,h4⟩:=Df h;intro i hi;obtain⟨q1,q2,q3,q4,q5,_⟩:=Qdj (h4 i hi);unfold Ad Dc;simp only;omega
def D1 (n:Int) (es:List RE):List Nat:=if C2 n es=true then Bl n.toNat (Ad es) [] (List.range es.length) else []
theorem I2.at {n:Nat} {es:List RE} (h:I2 n es) {s:List Nat} (hs:∀i∈s,i<es.length):∀i∈s,Dc n (Ad es i):=fun i hi=>(h i (hs i hi)).2.2
theorem Xv (n:Nat) (E:Nat→Ed) (i:Nat):Bl n E [] (List.range (i+1))=Hl n E (Bl n E [] (List.range i)) i:=by
 rw[List.range_succ,Lj];rfl
theorem Ug {n:Nat} {E:Nat→Ed} {i k:Nat} (h:k∈Bl n E [] (List.range i)):k<i:=by
 rcases L3 h with h1|h1
 ·simp at h1
 ·simpa using h1
theorem Tn (n:Nat) (E:Nat→Ed) (i:Nat):(Bl n E [] (List.range i)).length≤i:=by
 have:=F3 (n:=n) (E:=E) (List.range i) [];simpa using this
theorem Vs (n:Int) (es:List RE) (hb:LbE es):Aj Tryz.prog 14 [.int .i64 n,A3 es] Aa.emp fun v m=>v=.tup [.sl 1 (Al (D1 n es)),Bw n es]∧m=Aa.emp:=by
 have hc:=S1 n es hb;refine Ae Tryz.func14 rfl rfl 34 rfl (Nat.le_of_ble_eq_true rfl) ?_;unfold A3 at hc ⊢;(repeat refine AW.seq_k fun K hK=>?_);refine AW.rg ?_;simp[Ak];try (refine hK _ rfl ?_;clear hK K)
 (repeat refine AW.seq_k fun K hK=>?_);refine AW.rg ?_;simp;try (refine hK _ rfl ?_;clear hK K)
 refine Ac.val hc ?_;by_cases hk:C2 n es=true;rotate_left
 ·have e1:Bw n es=.int .i64 1:=by unfold Bw;rw[if_neg hk]
  have e2:D1 n es=[]:=by unfold D1;rw[if_neg hk]
  simp[e1];try (refine hK _ rfl ?_;clear hK K)
  (repeat refine AW.seq_k fun K hK=>?_);refine AW.rg ?_;simp;try (refine hK _ rfl ?_;clear hK K)
  refine AW.yes ?_ rfl;(repeat refine AW.seq_k fun K hK=>?_);refine AW.rg ?_;simp;try (refine hK _ rfl ?_;clear hK K)
  exact AW.ret (Ag [.sl 1 (Al []),.int .i64 1] rfl ⟨.nilsl 1,.same _,trivial⟩ ⟨by rw[e2,e1];rfl,rfl⟩)
 have e1:Bw n es=.int .i64 0:=by unfold Bw;rw[if_pos hk]
 have e2:D1 n es=Bl n.toNat (Ad es) [] (List.range es.length):=by unfold D1;rw[if_pos hk]
 obtain⟨⟨h1,h2,h3⟩,_⟩:=Df hk;have hok:=Hs hk;obtain⟨N,rfl⟩:=Int.eq_ofNat_of_zero_le (show 0≤n by omega);simp only[Int.toNat_natCast]at hok e2;simp[e1];try (refine hK _ rfl ?_;clear hK K)
 (repeat refine AW.seq_k fun K hK=>?_);refine AW.rg ?_;simp;try (refine hK _ rfl ?_;clear hK K)
 refine AW.no ?_ rfl;refine AW.skip ?_;try simp
 try (refine hK _ rfl ?_;clear hK K)
 (repeat refine AW.seq_k fun K hK=>?_);refine AW.rg ?_;simp;try (refine hK _ rfl ?_;clear hK K)
 refine AW.turn [(0,.int .i64 (N:Nat)),(1,.sl 6 (D0 es)),(7,.sl 1 (Al []))] Aa.emp (Bo.refl _ (by intro b x hx;cases hx)) (by simp;exact .nilsl 1) ?_;refine AW.seq_ex (ι:=Unit) (fun _=>[(7,.sl 1 (Al (Bl N (Ad es) [] (List.range es.length))))]) (fun _=>Aa.emp) (fun _=>True) ?_ ?_
 ·(repeat refine AW.seq_k fun K hK=>?_);refine AW.rg ?_;simp;try (refine hK _ rfl ?_;clear hK K)
  refine AW.block (AW.loopS (ι:=Nat) (fun i=>[(0,.int .i64 (N:Nat)),(1,.sl 6 (D0 es)),(7,.sl 1 (Al (Bl N (Ad es) [] (List.range i)))),(8,.int .i64 (i:Nat))]) (fun i=>Aa.emp)
   (fun i=>i≤es.length) (fun i=>es.length-i) 0 (by simp) rfl (by simp[Bl]) ?_)
  intro i g1;(repeat refine AW.seq_k fun K hK=>?_);refine AW.rg ?_;simp;try (refine hK _ rfl ?_;clear hK K)
  (repeat refine AW.seq ?_);refine AW.cs (fun hi=>?_) (fun hi=>?_) rfl<;>(try simp at hi)
  ·refine AW.skip ?_;try simp
   try (refine hK _ rfl ?_;clear hK K)
   have w1:=Aq (i+1) (by omega);have hgl:=Tn N (Ad es) i;have hgm:∀k∈Bl N (Ad es) [] (List.range i)++[i],k<es.length:=by
    intro k hk;rcases List.mem_append.1 hk with h | h
    ·have:=Ug h;omega
    ·simp at h;omega
   have hsn:=Xv N (Ad es) i;have hfr:=Qee es N (by omega) hok h3 _ hgm (by simp;omega);generalize Bl N (Ad es) [] (List.range i)=O at *;unfold Hl at hsn;(repeat refine AW.seq ?_);refine AW.block ?_;(repeat refine AW.seq_k fun K hK=>?_);refine AW.rgR [26] ?_;simp;try (refine hK _ rfl ?_;clear hK K)
   refine Ah.intro fun b22 _=>⟨by omega,by unfold maxLen;omega,Ah.intro fun b24 _=>⟨by omega,by unfold maxLen;omega,Ah.intro fun b27 hb27=>?_⟩⟩;rw[←Cv];refine hK _ rfl ?_;clear hK K;refine AW.toEmp [(0,.int .i64 (N:Nat)),(1,.sl 6 (D0 es)),(7,.sl 1 (Al O)),(8,.int .i64 (i:Nat)),(9,.sl 1 (Al (O++[i])))] (by simp;exact Ig (by simp) (by simp)) ?_;(repeat refine AW.seq_k fun K hK=>?_);refine AW.rg ?_;simp;try (refine hK _ rfl ?_;clear hK K)
   refine Ac.val hfr ?_;cases hf:He N ((O++[i]).map (Ad es))with
   |true =>
    rw[hf,if_pos rfl]at hsn;simp;try (refine hK _ rfl ?_;clear hK K)
    refine AW.yes ?_ rfl;(repeat refine AW.seq_k fun K hK=>?_);refine AW.rg ?_;simp;try (refine hK _ rfl ?_;clear hK K)
    (repeat refine AW.seq_k fun K hK=>?_);refine AW.rg ?_;simp[-Int.natCast_add,w1];try (refine hK _ rfl ?_;clear hK K)
    exact⟨i+1,by omega,by omega,by rw[hsn],rfl⟩
   |false =>
    rw[hf,if_neg (by simp)]at hsn;simp;try (refine hK _ rfl ?_;clear hK K)
    refine AW.no ?_ rfl;refine AW.skip ?_;try simp
    try (refine hK _ rfl ?_;clear hK K)
    (repeat refine AW.seq_k fun K hK=>?_);refine AW.rg ?_;simp[-Int.natCast_add,w1];try (refine hK _ rfl ?_;clear hK K)
    exact⟨i+1,by omega,by omega,by rw[hsn],rfl⟩
  ·refine AW.exit ?_;try simp
   rw[show i=es.length by omega]
 ·rintro _ _;(repeat refine AW.seq_k fun K hK=>?_);refine AW.rg ?_;simp;try (refine hK _ rfl ?_;clear hK K)
  exact AW.ret (Ag [.sl 1 (Al (Bl N (Ad es) [] (List.range es.length))),.int .i64 0] rfl ⟨.same _,.same _,trivial⟩ ⟨by rw[e2,e1];rfl,rfl⟩)
def Sj (n:Int) (es:List RE):AV:=.int .i64 (if C2 n es=true then (if n=1 then 0 else 2*n-3-((D1 n es).length:Int)) else 0)
theorem Na {n:Int} {es:List RE} (h:C2 n es=true):(D1 n es).length≤40:=by
 obtain⟨⟨h1,h2,h3⟩,_⟩:=Df h;unfold D1;rw[if_pos h];have:=Tn n.toNat (Ad es) es.length;omega
end Go.Av
end
section
namespace Go.Av
open Go.Proofs Go.Lam
theorem Xb (l:List Nat) (e:Nat) (hl:l.length<2^40):Aj Tryz.prog 89 [.sl 1 (Al l),.int .i64 (e:Nat)] Aa.emp fun v m=>(∃t:Int,v=.int .i64 t∧(0≤t↔e∈l))∧m=Aa.emp:=by
 refine Ae Tryz.func89 rfl rfl 19 rfl (Nat.le_of_ble_eq_true rfl) ?_;(repeat refine AW.seq_k fun K hK=>?_);refine AW.rg ?_;simp[Ak];try (refine hK _ rfl ?_;clear hK K)
 refine AW.seq_ex (ι:=Unit) (fun _=>[]) (fun _=>Aa.emp) (fun _=>e ∉ l) ?_ ?_
 ·(repeat refine AW.seq_k fun K hK=>?_);refine AW.rg ?_;simp;try (refine hK _ rfl ?_;clear hK K)
  refine AW.block (AW.loopS (ι:=Nat) (fun i=>[(0,.sl 1 (Al l)),(1,.int .i64 (e:Nat)),(7,.int .i64 (l.length:Nat)),(8,.int .i64 (i:Nat))]) (fun i=>Aa.emp)
   (fun i=>i≤l.length∧∀k,(h:k<l.length)→k<i→l[k]≠e) (fun i=>l.length-i) 0 ⟨by simp,by omega⟩ rfl (by simp) ?_)
  rintro i ⟨g1,g2⟩;(repeat refine AW.seq_k fun K hK=>?_);refine AW.rg ?_;simp;try (refine hK _ rfl ?_;clear hK K)
  (repeat refine AW.seq ?_);refine AW.cs (fun hi=>?_) (fun hi=>?_) rfl<;>(try simp at hi)
  ·refine AW.skip ?_;try simp
   try (refine hK _ rfl ?_;clear hK K)
   have w1:=Aq (i+1) (by omega);(repeat refine AW.seq ?_);refine AW.block ?_;(repeat refine AW.seq_k fun K hK=>?_);refine AW.rg ?_;simp;try (refine hK _ rfl ?_;clear hK K)
   (repeat refine AW.seq_k fun K hK=>?_);refine AW.rg ?_;simp[hi];try (refine hK _ rfl ?_;clear hK K)
   (repeat refine AW.seq ?_);refine AW.cs (fun he=>?_) (fun he=>?_) rfl<;>(try simp at he)
   ·(repeat refine AW.seq_k fun K hK=>?_);refine AW.rg ?_;simp;try (refine hK _ rfl ?_;clear hK K)
    exact AW.ret (Af rfl _ (.same _) ⟨⟨i,rfl,⟨fun _=>(by rw[he];exact List.getElem_mem hi),fun _=>(by omega)⟩⟩,rfl⟩)
   ·refine AW.skip ?_;try simp
    try (refine hK _ rfl ?_;clear hK K)
    (repeat refine AW.seq_k fun K hK=>?_);refine AW.rg ?_;simp[-Int.natCast_add,w1];try (refine hK _ rfl ?_;clear hK K)
    refine⟨⟨by omega,fun k h hk=>?_⟩,by omega⟩;rcases Nat.lt_or_ge k i with h1 | h1
    ·exact g2 k h h1
    ·have:k=i:=by omega
     subst this;exact fun h=>he h.symm
  ·refine AW.exit ?_;try simp
   intro hm;obtain⟨k,hk,rfl⟩:=List.mem_iff_getElem.1 hm;exact g2 k hk (by omega) rfl
 ·rintro _ h;(repeat refine AW.seq_k fun K hK=>?_);refine AW.rg ?_;simp;try (refine hK _ rfl ?_;clear hK K)
  exact AW.ret (Af rfl _ (.same _) ⟨⟨-1,rfl,⟨fun h=>(by omega),fun h'=>absurd h' h⟩⟩,rfl⟩)
theorem Su (l:List Nat) (e:Nat) (hl:l.length<2^40):Aj Tryz.prog 50 [.sl 1 (Al l),.int .i64 (e:Nat)] Aa.emp fun v m=>v=.bool (decide (e∈l))∧m=Aa.emp:=by
 have hc:=Xb l e hl;refine Ae Tryz.func50 rfl rfl 9 rfl (Nat.le_of_ble_eq_true rfl) ?_;(repeat refine AW.seq_k fun K hK=>?_);refine AW.rg ?_;simp[Ak];try (refine hK _ rfl ?_;clear hK K)
 (repeat refine AW.seq_k fun K hK=>?_);refine AW.rg ?_;simp;try (refine hK _ rfl ?_;clear hK K)
 refine Ac.pure hc ?_;rintro _ ⟨t,rfl,ht⟩;simp;try (refine hK _ rfl ?_;clear hK K)
 exact AW.ret (Af rfl _ (.same _) ⟨by show AV.bool (decide (0≤t))=_;rw[decide_eq_decide.2 ht],rfl⟩)
theorem T3 (b:Nat) (l:List Nat):∀c y,Aa.emp.set b ⟨3,1,Al l⟩ c=some y→∀v∈y.l,v.cells.all AV.one=true:=by
 intro c y hy v hv;simp only[A1,Az]at hy;split at hy
 ·cases hy;exact Ce _ v hv
 ·cases hy
theorem W0 (l:List Nat) (hl:l.length<2^40) (h0:l≠[]):Aj Tryz.prog 52 [.sl 1 (Al l)] Aa.emp fun v m=>∃b,v=.osl b 1 0 l.length∧m=Aa.emp.set b ⟨3,1,Al l⟩:=by
 have hi:Al l≠[]:=by intro h;have:=Jw l;rw[h]at this;exact h0 (List.eq_nil_of_length_eq_zero this.symm)
 refine Ae Tryz.func52 rfl rfl 8 rfl (Nat.le_of_ble_eq_true rfl) ?_;(repeat refine AW.seq_k fun K hK=>?_);refine AW.rg ?_;simp[Ak];try (refine hK _ rfl ?_;clear hK K)
 (repeat refine AW.seq_k fun K hK=>?_);refine AW.rg ?_;simp[J9,hi];try (refine hK _ rfl ?_;clear hK K)
 refine AW.no ?_ rfl;refine AW.skip ?_;try simp
 try (refine hK _ rfl ?_;clear hK K)
 (repeat refine AW.seq_k fun K hK=>?_);refine AW.rg ?_;simp;try (refine hK _ rfl ?_;clear hK K)
 refine Ah.intro fun b5 _=>⟨by omega,by unfold maxLen;omega,Ah.intro fun b7 _=>?_⟩;refine hK _ rfl ?_;clear hK K;exact AW.ret (Bz rfl (T3 b7 l) ⟨b7,rfl,rfl⟩)
theorem Mx (b:Nat) (l:List Nat) (k:Nat) (hk:k<l.length) (hl:l.length<2^40):Aj Tryz.prog 51 [.osl b 1 0 l.length,.int .i64 (k:Nat),.int .i64 ((k+1:Nat):Int)] (Aa.emp.set b ⟨3,1,Al l⟩) fun v m=>v=.osl b 1 0 (l.length-1)∧m=Aa.emp.set b ⟨3,1,Al (l.eraseIdx k)⟩:=by
 have hkn:¬(k:Int)=((k+1:Nat):Int):=by omega
 refine Ae Tryz.func51 rfl rfl 33 rfl (Nat.le_of_ble_eq_true rfl) ?_;(repeat refine AW.seq_k fun K hK=>?_);refine AW.rg ?_;simp[-Int.natCast_add,Ak];try (refine hK _ rfl ?_;clear hK K)
 have w0:((l.length:Int)).toNat=l.length:=by simp
 have c0:(0:Int)≤(l.length:Int):=by omega
 have c1:((k+1:Nat):Int)≤(l.length:Int):=by omega
 have c2:(k:Int)≤((k+1:Nat):Int):=by omega
 have c3:¬l.length=k:=by omega
 (repeat refine AW.seq_k fun K hK=>?_);refine AW.rg ?_;simp[-Int.natCast_add,c0,c1,c2,c3];try (refine hK _ rfl ?_;clear hK K)
 (repeat refine AW.seq_k fun K hK=>?_);refine AW.rg ?_;simp[-Int.natCast_add,hkn];try (refine hK _ rfl ?_;clear hK K)
 refine AW.no ?_ rfl;refine AW.skip ?_;try simp[-Int.natCast_add]
 try (refine hK _ rfl ?_;clear hK K)
 (repeat refine AW.seq_k fun K hK=>?_);refine AW.rg ?_;simp[-Int.natCast_add];try (refine hK _ rfl ?_;clear hK K)
 have key:(Al l).take k++(Al l).drop (k+1)++(Al l).drop (l.length-1)=Al (l.eraseIdx k++l.drop (l.length-1)):=by
  rw[List.eraseIdx_eq_take_drop_succ];simp[Al,List.map_take,List.map_drop]
 have hel:(l.eraseIdx k).length=l.length-1:=by rw[List.length_eraseIdx,if_pos hk]
 have hdl:(l.drop (l.length-1)).length=1:=by simp;omega
 have key2:(Al (l.eraseIdx k++l.drop (l.length-1))).take (l.length-1)=Al (l.eraseIdx k):=by
  unfold Al;rw[←List.map_take,List.take_append_of_le_length (by omega),List.take_of_length_le (by omega)]
 refine AW.seq_has [(0,.osl b 1 0 (l.length-1)),(7,.int .i64 (l.length:Nat))] (Aa.emp.set b ⟨3,1,Al (l.eraseIdx k++l.drop (l.length-1))⟩) ?_ ?_
 ·refine AW.rdLR [26] [] [0,1,2,3,4,5,6,7] C8 (by simp[-Int.natCast_add]) ?_;by_cases hlast:k+1=l.length
  ·have hne:¬l=[]:=by rintro rfl;simp at hk
   simp[c0,c1,c2,hlast,Tr,hne];refine⟨by omega,by omega,by unfold maxLen;omega,by omega,?_,by omega⟩;have hd:(Al l).drop (k+1)=[]:=List.drop_of_length_le (by simp;omega);rw[hd,List.append_nil,show l.length-1=k by omega]at key;rw[List.take_append_drop]at key;rw[show l.length-1=k by omega,←key]
  ·have c5:¬l.length=k+1:=by omega
   simp[-Int.natCast_add,c0,c1,c2,c5,Tr];have ht:List.take (l.length-(k+1)) (List.drop (k+1) (Al l))=List.drop (k+1) (Al l):=List.take_of_length_le (by simp);refine⟨by omega,by omega,fun x hx=>?_,by omega,by unfold maxLen;omega,by omega,?_,by omega⟩
   ·have hm:x∈Al l:=List.mem_of_mem_drop (List.mem_of_mem_take hx);unfold Al at hm;obtain⟨y,_,rfl⟩:=List.mem_map.1 hm;exact⟨rfl,by simp[AV.cells,AV.one]⟩
   ·rw[ht,show k+(l.length-(k+1))=l.length-1 by omega,←List.append_assoc,key]
 (repeat refine AW.seq_k fun K hK=>?_);refine AW.rgY ?_;simp[Qeg,isY,Qkj];refine⟨b,0,⟨rfl,rfl⟩,_,⟨rfl,rfl⟩,rfl,.i64,.i64,l.length-1,⟨rfl,rfl⟩,l.length,⟨rfl,rfl⟩,by omega,by simp[hel,hdl];omega,b,_,_,⟨rfl,rfl,rfl⟩,_,⟨rfl,rfl⟩,by omega,by simp[hel,hdl];omega,?_⟩;refine hK _ rfl ?_;clear hK K;(repeat refine AW.seq_k fun K hK=>?_);refine AW.rg ?_;simp;try (refine hK _ rfl ?_;clear hK K)
 refine AW.shrink (b:=b) (e:=3) (z:=1) (by simp only[A1,if_true];rfl) (l.length-1) ?_;simp;rw[List.take_append_of_le_length (by simp[hel,hdl]),List.take_take,Nat.min_self,key2];exact AW.ret (Bz rfl (T3 b _) ⟨rfl,rfl⟩)
end Go.Av
end
section
namespace Go.Av
section
variable {P:Program} {cf:Dm} {ops:Array Oper} {K:St→Prop}
def Ca (ops:Array Oper) (a b:Nat):Array Oper:=ops.modify b fun o=>{o with after:=o.after.push ⟨a,.data⟩}
theorem Gs (ops:Array Oper) (a b:Nat):(Ca ops a b).size=ops.size:=by simp[Ca]
theorem Dl (ops:Array Oper) (a b i:Nat):(Ca ops a b)[i]?=(ops[i]?).map fun o=>if i=b then {o with after:=o.after.push ⟨a,.data⟩} else o:=by
 unfold Ca;rw[Array.getElem?_modify];by_cases h:b=i
 ·subst h;simp
 ·rw[if_neg h];cases ops[i]? with
  |none=>rfl
  |some o=>simp[Ne.symm h]
theorem W9 (ops:Array Oper) (a b j:Nat):((Ca ops a b)[j]?).bind (·.dst)=(ops[j]?).bind (·.dst):=by
 rw[Dl];cases ops[j]? with
 |none=>rfl
 |some o=>simp only[Option.map_some,Option.bind_some];split<;>rfl
theorem Gz (a b:Nat) (o:Oper) (i:Nat) (K:St→Prop) (s:St):Cc P cf (Ca ops a b) (if i=b then {o with after:=o.after.push ⟨a,.data⟩} else o) K s↔Cc P cf ops o K s:=by
 have key:∀o':Oper,o'.op=o.op→o'.dst=o.dst→o'.guard=o.guard→(Cc P cf (Ca ops a b) o' K s↔Cc P cf ops o K s):=by
  intro o' h1 h2 h3;have he:∀(s:St) (k:AV→Aa→Prop),Ej P cf o' s k↔Ej P cf o s k:=by
   intro s k;unfold Ej N0;rw[h1,h2]
  unfold Cc Cq;rw[h2,h3];cases o.guard with
  |none=>exact he _ _
  |some g =>
   obtain⟨j,want⟩:=g;simp only[W9];cases (ops[j]?).bind (·.dst)with
   |none=>exact Iff.rfl
   |some d =>
    refine exists_congr fun t=>and_congr_right fun _=>?_;split
    ·exact he _ _
    ·exact Iff.rfl
 split
 ·exact key _ rfl rfl rfl
 ·exact key _ rfl rfl rfl
theorem Mc (a b:Nat):∀(plan:List Nat) (s:St),Cr P cf ops plan K s→Cr P cf (Ca ops a b) plan K s
 |[],_,h=>h
 |i::rest,s,h=>by
  unfold Cr at h ⊢;rw[Dl];cases ho:ops[i]? with
  |none=>rw[ho]at h;exact h
  |some o =>
   rw[ho]at h;simp only[Option.map_some];rw[Gz];unfold Cc at h ⊢;exact Br (fun v m hk=>Mc a b rest _ hk) h
theorem Ft {a b:Nat} {listed:Array Bool} {i:Nat} (h:i∈Region.ready .any ops listed) (hi:i≠b∨listed.getD a false=true):i∈Region.ready .any (Ca ops a b) listed:=by
 rw[E7]at h ⊢;obtain⟨h1,h2,h3⟩:=h;refine⟨by rw[Gs];exact h1,h2,fun o ho e he hb=>?_⟩;rw[Dl]at ho;cases hx:ops[i]? with
 |none=>rw[hx]at ho;cases ho
 |some o' =>
  rw[hx]at ho;simp only[Option.map_some,Option.some.injEq]at ho;subst ho;split at he
  ·rename_i hib
   simp only[Array.toList_push,List.mem_append,List.mem_singleton]at he;rcases he with he | rfl
   ·exact h3 o' hx e he hb
   ·rcases hi with hi|hi
    ·exact absurd hib hi
    ·exact hi
  ·exact h3 o' hx e he hb
theorem N6 {a b:Nat}:∀(fuel:Nat) (listed:Array Bool) (s:St),listed.size=ops.size→listed.getD a false=true→Mu P cf (Ca ops a b) K fuel listed s→Mu P cf ops K fuel listed s
 |0,listed,s,_,ha,h=>by
  refine⟨?_,h.2⟩;cases hr:Region.ready .any ops listed with
  |nil=>rfl
  |cons i l =>
   have:=Ft (a:=a) (b:=b) (show i∈Region.ready .any ops listed by rw[hr];simp) (.inr ha);rw[h.1]at this;cases this
 |fuel+1,listed,s,hsz,ha,h=>by
  refine⟨fun he=>h.1 ?_,fun i hi=>?_⟩
  ·cases hr:Region.ready .any (Ca ops a b) listed with
   |nil=>rfl
   |cons i l =>
    have hi:i∈Region.ready .any (Ca ops a b) listed:=by rw[hr];simp
    have:i∈Region.ready .any ops listed:=by
     rw[E7]at hi ⊢;refine⟨by rw[←Gs ops a b];exact hi.1,hi.2.1,fun o ho e he' hb=>hi.2.2 _ (by rw[Dl,ho];rfl) e ?_ hb⟩;split
     ·simp[he']
     ·exact he'
    rw[he]at this;cases this
  ·have h2:=h.2 i (Ft hi (.inr ha));rw[Dl]at h2;have hlt:=(E7.1 hi).1;cases ho:ops[i]? with
   |none=>rw[ho]at h2;exact h2
   |some o =>
    rw[ho]at h2;simp only[Option.map_some]at h2 ⊢;rw[Gz]at h2;unfold Cc at h2 ⊢;refine Br (fun v m hk=>N6 fuel _ _ (by simpa using hsz) ?_ hk) h2;rw[Hc (by rw[hsz];exact hlt),ha];simp
def Qi (o:Oper):Bool:=match o.op with
 |.store _ _ _=>true
 |_=>false
def Qk9 (o:Oper):Bool:=Qi o || match Bm o with
 |.q | .l | .a | .z=>true
 |_=>false
theorem Qbp {o:Oper} (ho:Qi o=true) {s:St} {k k':AV→Aa→Prop} (h1:Cq P cf ops o s k) (h2:Cq P cf ops o s k'):Cq P cf ops o s fun v m=>k v m∧k' v m:=by
 have key:∀{k k':AV→Aa→Prop},Ej P cf o s k→Ej P cf o s k'→Ej P cf o s fun v m=>k v m∧k' v m:=by
  intro k k' h1 h2;unfold Qi at ho;unfold Ej at *;split at ho
  ·rename_i t a x hop
   simp only[hop]at h1 h2 ⊢;obtain⟨ti,b,z,i,j,blk,old,q1,q2,q3,q4,q5,q6,q7,q8,q9⟩:=h1;obtain⟨ti',b',z',i',j',blk',old',r1,r2,r3,r4,r5,r6,r7,r8,r9⟩:=h2;rw[q1]at r1;cases r1;rw[q2]at r2;cases r2;rw[q3]at r3;cases r3;rw[q5]at r5;cases r5;exact⟨ti,b,z,i,j,blk,old,q1,q2,q3,q4,q5,q6,q7,q8,q9,r9⟩
  ·cases ho
 unfold Cq at *;cases hg:o.guard with
 |none=>rw[hg]at h1 h2;exact key h1 h2
 |some g =>
  obtain⟨j,want⟩:=g;rw[hg]at h1 h2;simp only at h1 h2 ⊢;cases hd:(ops[j]?).bind (·.dst)with
  |none=>rw[hd]at h1;exact h1
  |some d =>
   rw[hd]at h1 h2;simp only at h1 h2 ⊢;obtain⟨t,t1,t2⟩:=h1;obtain⟨t',t3,t4⟩:=h2;rw[t1]at t3;cases t3;refine⟨t,t1,?_⟩;cases t with
   |true=>simp only[if_true]at t2 t4 ⊢;exact key t2 t4
   |false=>simp only[Bool.false_eq_true,if_false]at t2 t4 ⊢;exact⟨t2,t4⟩
theorem Zt (hdm:cf.dm=true) {o:Oper} (ho:Qk9 o=true) {X Y:St→Prop} {s:St} (h1:Cc P cf ops o X s) (h2:Cc P cf ops o Y s):Cc P cf ops o (fun s'=>X s'∧Y s') s:=by
 by_cases hst:Qi o=true
 ·exact Qbp hst h1 h2
 unfold Qk9 at ho;rw[Bool.not_eq_true]at hst;rw[hst,Bool.false_or]at ho;have hb:Bm o≠.b:=by intro e;rw[e]at ho;cases ho
 have hx:Bm o≠.x:=by intro e;rw[e]at ho;cases ho
 have hc:Bm o≠.c:=by intro e;rw[e]at ho;cases ho
 obtain⟨fo,f1,f2⟩:=Kn (P:=P) (cf:=cf) (ops:=ops) hb hx hdm s;unfold Cc at *;have e:({s with m:=s.m}:St)=s:=rfl;rw[←e,f2]at h1 h2 ⊢;cases fo with
 |no=>exact h1
 |quiet ev =>
  obtain⟨v,q1,q2⟩:=h1;obtain⟨v',q3,q4⟩:=h2;rw[q1]at q3;cases q3;exact⟨v,q1,q2,q4⟩
 |new fv x=>exact fun b p1 p2=>⟨h1 b p1 p2,h2 b p1 p2⟩
 |call f args=>exact absurd f1 hc
theorem Y4 (hdm:cf.dm=true) (hsoft:∀(i:Nat) (o:Oper),ops[i]?=some o→Qk9 o=true) {a b:Nat} (hab:a≠b):∀(fuel:Nat) (listed:Array Bool) (s:St),listed.size=ops.size→Mu P cf (Ca ops a b) K fuel listed s→Mu P cf (Ca ops b a) K fuel listed s→Mu P cf ops K fuel listed s
 |0,listed,s,_,h1,h2=>by
  refine⟨?_,h1.2⟩;cases hr:Region.ready .any ops listed with
  |nil=>rfl
  |cons i l =>
   have hi:i∈Region.ready .any ops listed:=by rw[hr];simp
   by_cases hib:i=b
   ·have:=Ft (a:=b) (b:=a) hi (.inl (by rw[hib];exact Ne.symm hab));rw[h2.1]at this;cases this
   ·have:=Ft (a:=a) (b:=b) hi (.inl hib);rw[h1.1]at this;cases this
 |fuel+1,listed,s,hsz,h1,h2=>by
  refine⟨fun he=>h1.1 ?_,fun i hi=>?_⟩
  ·cases hr:Region.ready .any (Ca ops a b) listed with
   |nil=>rfl
   |cons i l =>
    have hi:i∈Region.ready .any (Ca ops a b) listed:=by rw[hr];simp
    have:i∈Region.ready .any ops listed:=by
     rw[E7]at hi ⊢;refine⟨by rw[←Gs ops a b];exact hi.1,hi.2.1,fun o ho e he' hb=>hi.2.2 _ (by rw[Dl,ho];rfl) e ?_ hb⟩;split
     ·simp[he']
     ·exact he'
    rw[he]at this;cases this
  ·have hlt:=(E7.1 hi).1;cases ho:ops[i]? with
   |none=>have:=(Array.getElem?_eq_none_iff.1 ho);omega
   |some o =>
    simp only;have g1:i≠b→Cc P cf ops o (Mu P cf (Ca ops a b) K fuel (listed.setIfInBounds i true)) s:=fun hib=>by
     have:=h1.2 i (Ft hi (.inl hib));rw[Dl,ho]at this;simp only[Option.map_some]at this
     rwa [Gz]at this
    have g2:i≠a→Cc P cf ops o (Mu P cf (Ca ops b a) K fuel (listed.setIfInBounds i true)) s:=fun hia=>by
     have:=h2.2 i (Ft hi (.inl hia));rw[Dl,ho]at this;simp only[Option.map_some]at this
     rwa [Gz]at this
    have hsz':(listed.setIfInBounds i true).size=ops.size:=by simpa using hsz
    by_cases hib:i=b
    ·have:=g2 (by rw[hib];exact Ne.symm hab);unfold Cc at this ⊢;refine Br (fun v m hk=>N6 fuel _ _ hsz' ?_ hk) this;rw[Hc (by rw[hsz];exact hlt),if_pos hib.symm]
    ·by_cases hia:i=a
     ·have:=g1 hib;unfold Cc at this ⊢;refine Br (fun v m hk=>N6 fuel _ _ hsz' ?_ hk) this;rw[Hc (by rw[hsz];exact hlt),if_pos hia.symm]
     ·have:=Zt hdm (hsoft i o ho) (g1 hib) (g2 hia);unfold Cc at this ⊢;exact Br (fun v m hk=>Y4 hdm hsoft hab fuel _ _ hsz' hk.1 hk.2) this
theorem Qb1 {Q:Exit→St→Prop} {s:St} (ro:Nat→Bool) (av:Nat→Prop) (plan:List Nat) (hp:G9 P ro ops plan=true) (h:Cr P ⟨ro,av,true⟩ ops plan (Q .normal) s) :
  Mu P ⟨ro,av,true⟩ ops (Q .normal) ops.size (Array.replicate ops.size false) s:=by
 unfold G9 at hp;have hp0:=hp;unfold Gu at hp;simp only[Bool.and_eq_true]at hp;have hfil:(plan.filter fun i=>!(Array.replicate ops.size false).getD i true)=plan:=by
  refine List.filter_eq_self.2 fun i hi=>?_;have hlt:i<ops.size:=by
   have:=List.all_eq_true.1 hp.2.1.1.1.2 i hi;simpa[Nat.blt_eq]using this
  simp[hlt]
 have hcl:Qp ops (Array.replicate ops.size false):=fun i o ho hl e he hb=>by
  have hi:i<ops.size:=(Array.getElem?_eq_some_iff.1 ho).1;rw[Array.getD_eq_getD_getElem?,Array.getElem?_replicate,if_pos hi]at hl;cases hl
 refine O2 (cf:=⟨ro,av,true⟩) (q:=Jv.no) (blk:=fun r=>r) rfl hp0 ops.size _ s ⟨fun _ h=>(by cases h),fun _ _ h=>(by cases h),fun _ h=>(by cases h),fun _ h=>(by cases h)⟩ Array.size_replicate hcl ?_ ?_
 ·rw[hfil];exact(of_decide_eq_true hp.2.1.1.2).2
 ·rw[hfil];exact h
theorem AW.rd2 {Q:Exit→St→Prop} {s:St} {id:Nat} (a b:Nat) (plan plan2:List Nat) (hm:P.follows .mixedOrders=true)
  (h1:Cr P ⟨fun _=>false,fun _=>False,true⟩ ops plan (Q .normal) s) (h2:Cr P ⟨fun _=>false,fun _=>False,true⟩ ops plan2 (Q .normal) s)
  (hok:Bu s.n ops=true:=by kernel_rfl) (hp1:G9 P (fun _=>false) (Ca ops a b) plan=true:=by kernel_rfl) (hp2:G9 P (fun _=>false) (Ca ops b a) plan2=true:=by kernel_rfl)
  (hab:Nat.beq a b=false:=by rfl) (hs:ops.toList.all Qk9=true:=by kernel_rfl):AW P (.region id ops true) Q s:=by
 intro F G w0 act w hr;refine wp_region_any hm ?_;have hok':∀i o,ops[i]?=some o→(F1 s.n o&&Ip ops s.n o)=true:=fun i o ho=>by
  unfold Bu at hok;exact List.all_eq_true.1 hok o (List.mem_of_getElem? (by rw[Array.getElem?_toList];exact ho))
 have hne:a≠b:=by intro e;subst e;simp at hab
 have q1:=Qb1 (Q:=Q) (ops:=Ca ops a b) _ _ plan hp1 (Mc a b plan s h1);have q2:=Qb1 (Q:=Q) (ops:=Ca ops b a) _ _ plan2 hp2 (Mc b a plan2 s h2);rw[Gs]at q1 q2;have hany:=Y4 rfl (fun i o ho=>List.all_eq_true.1 hs o (List.mem_of_getElem? (by rw[Array.getElem?_toList];exact ho))) hne ops.size _ s Array.size_replicate q1 q2;have hd:Ds F G w0 s act {w with drawn:=w.drawn+1}:=hr.drew;exact Lt (F:=F) (G:=G) (w0:=w0) (cf:=⟨fun _=>false,fun _=>False,true⟩) s.n w.heap.size (fun _ h=>h.elim) (fun a w h=>h) hok' ops.size _ s act {w with drawn:=w.drawn+1} (Nat.le_refl _) rfl hd hany
end
end Go.Av
end
section
namespace Go.Av
open Go.Proofs Go.Lam
def W4 (o:Option Nat) (l:List Nat):AV:=match o with
 |none=>.nil
 |some b=>.osl b 1 0 l.length
def Gg (bs:List (Option Nat)) (cl:List (List Nat)):List AV:=List.zipWith W4 bs cl
def Dz (fl:List Nat):Nat→Nat:=fun v=>fl.getD v 0
def Cx (cl:List (List Nat)):Nat→List Nat:=fun v=>cl.getD v []
def Cf (es:List RE) (bf bc n:Nat):Ep:=⟨105,3,[.agg [.sl 6 (D0 es),.osl bf 1 0 n,.osl bc 1 0 n]]⟩
structure Cw (M:Aa) (n bg bf bc:Nat) (es:List RE) (fl:List Nat) (bs:List (Option Nat)) (cl:List (List Nat)):Prop where
 g:M bg=some (Cf es bf bc n)
 f:M bf=some ⟨3,1,Al fl⟩
 c:M bc=some ⟨25,1,Gg bs cl⟩
 fll:fl.length=n
 bsl:bs.length=n
 cll:cl.length=n
 row:∀(i b:Nat),bs[i]?=some (some b)→M b=some ⟨3,1,Al (Cx cl i)⟩
 nil:∀(i:Nat),bs[i]?=some none→Cx cl i=[]
 nd:bg≠bf∧bg≠bc∧bf≠bc
 ndr:∀(i b:Nat),bs[i]?=some (some b)→b≠bg∧b≠bf∧b≠bc
 inj:∀(i j b:Nat),bs[i]?=some (some b)→bs[j]?=some (some b)→i=j
def A5 (bg bf bc:Nat) (bs:List (Option Nat)):List Nat:=bg::bf::bc::bs.filterMap id
def Ey (M:Aa) (l:List Nat):Prop:=∀k,M k≠none→k∈l
theorem A8 {bg bf bc k:Nat} {bs:List (Option Nat)}:k∈A5 bg bf bc bs↔k=bg∨k=bf∨k=bc∨∃i:Nat,bs[i]?=some (some k):=by
 unfold A5;simp only[List.mem_cons,List.mem_filterMap,id_eq,exists_eq_right];refine or_congr_right (or_congr_right (or_congr_right ?_));exact List.mem_iff_getElem?
section
variable {M:Aa} {n bg bf bc:Nat} {es:List RE} {fl:List Nat} {bs:List (Option Nat)} {cl:List (List Nat)}
theorem F9 (h:Cw M n bg bf bc es fl bs cl):(Gg bs cl).length=n:=by simp[Gg,h.bsl,h.cll]
theorem J6 (h:Cw M n bg bf bc es fl bs cl) {i:Nat} (hi:i<n):∃o,bs[i]?=some o∧(Gg bs cl)[i]?=some (W4 o (Cx cl i)):=by
 have h1:i<bs.length:=by rw[h.bsl];exact hi
 have h2:i<cl.length:=by rw[h.cll];exact hi
 refine⟨bs[i],List.getElem?_eq_getElem h1,?_⟩;unfold Gg;rw[List.getElem?_zipWith,List.getElem?_eq_getElem h1,List.getElem?_eq_getElem h2];simp[Cx,h2]
theorem We {i x:Nat} (hi:i<fl.length):Dz (fl.set i x)=Et (Dz fl) i x:=by
 funext v
 unfold Dz Et;rw[List.getD_eq_getElem?_getD,List.getElem?_set];by_cases h:i=v
 ·subst h;simp[hi]
 ·rw[if_neg h,if_neg (Ne.symm h),←List.getD_eq_getElem?_getD]
theorem M9 {i:Nat} {x:List Nat} (hi:i<cl.length):Cx (cl.set i x)=Et (Cx cl) i x:=by
 funext v
 unfold Cx Et;rw[List.getD_eq_getElem?_getD,List.getElem?_set];by_cases h:i=v
 ·subst h;simp[hi]
 ·rw[if_neg h,if_neg (Ne.symm h),←List.getD_eq_getElem?_getD]
theorem Cw.setF (h:Cw M n bg bf bc es fl bs cl) (i x:Nat):Cw (M.set bf ⟨3,1,Al (fl.set i x)⟩) n bg bf bc es (fl.set i x) bs cl where
 g:=by rw[Aa.set_other _ _ h.nd.1];exact h.g
 f:=Aa.set_same _ _ _
 c:=by rw[Aa.set_other _ _ (Ne.symm h.nd.2.2)];exact h.c
 fll:=by rw[List.length_set,h.fll]
 bsl:=h.bsl
 cll:=h.cll
 row:=fun i b hb=>by rw[Aa.set_other _ _ (h.ndr i b hb).2.1];exact h.row i b hb
 nil:=h.nil
 nd:=h.nd
 ndr:=h.ndr
 inj:=h.inj
theorem Cw.setC (h:Cw M n bg bf bc es fl bs cl) {i b':Nat} {l':List Nat} (hi:i<n) (hf:b'≠bg∧b'≠bf∧b'≠bc) (hr:∀j:Nat,j≠i→bs[j]?≠some (some b')) {M':Aa} (h1:M' bg=M bg) (h2:M' bf=M bf)
  (h3:M' bc=some ⟨25,1,(Gg bs cl).set i (.osl b' 1 0 l'.length)⟩) (h4:M' b'=some ⟨3,1,Al l'⟩) (h5:∀(j b:Nat),j≠i→bs[j]?=some (some b)→M' b=M b):Cw M' n bg bf bc es fl (bs.set i (some b')) (cl.set i l') where
 g:=by rw[h1];exact h.g
 f:=by rw[h2];exact h.f
 c:=by
  rw[h3]
  congr 2
  refine List.ext_getElem? fun k=>?_;unfold Gg;rw[List.getElem?_set,List.length_zipWith,List.getElem?_zipWith,List.getElem?_zipWith,List.getElem?_set,List.getElem?_set,h.bsl,h.cll];by_cases hk:i=k
  ·subst hk;simp[hi,W4]
  ·simp[hk]
 fll:=h.fll
 bsl:=by rw[List.length_set,h.bsl]
 cll:=by rw[List.length_set,h.cll]
 row:=fun j b hb=>by
  rw[M9 (by rw[h.cll];exact hi)];unfold Et;rw[List.getElem?_set]at hb;by_cases hj:i=j
  ·subst hj;rw[if_pos rfl,if_pos (by rw[h.bsl];exact hi)]at hb;cases hb;rw[if_pos rfl,h4]
  ·rw[if_neg hj]at hb;rw[if_neg (Ne.symm hj),h5 j b (Ne.symm hj) hb,h.row j b hb]
 nil:=fun j hb=>by
  rw[M9 (by rw[h.cll];exact hi)];unfold Et;rw[List.getElem?_set]at hb;by_cases hj:i=j
  ·subst hj;rw[if_pos rfl,if_pos (by rw[h.bsl];exact hi)]at hb;cases hb
  ·rw[if_neg hj]at hb;rw[if_neg (Ne.symm hj)];exact h.nil j hb
 nd:=h.nd
 ndr:=fun j b hb=>by
  rw[List.getElem?_set]at hb;by_cases hj:i=j
  ·subst hj;rw[if_pos rfl,if_pos (by rw[h.bsl];exact hi)]at hb;cases hb;exact hf
  ·rw[if_neg hj]at hb;exact h.ndr j b hb
 inj:=fun j k b hj hk=>by
  rw[List.getElem?_set]at hj hk;by_cases e1:i=j<;>by_cases e2:i=k
  ·omega
  ·subst e1;rw[if_pos rfl,if_pos (by rw[h.bsl];exact hi)]at hj;rw[if_neg e2]at hk;cases hj;exact absurd hk (hr k (Ne.symm e2))
  ·subst e2;rw[if_pos rfl,if_pos (by rw[h.bsl];exact hi)]at hk;rw[if_neg e1]at hj;cases hk;exact absurd hj (hr j (Ne.symm e1))
  ·rw[if_neg e1]at hj;rw[if_neg e2]at hk;exact h.inj j k b hj hk
theorem Cw.congr (h:Cw M n bg bf bc es fl bs cl) {M':Aa} (hm:∀k∈A5 bg bf bc bs,M' k=M k):Cw M' n bg bf bc es fl bs cl where
 g:=by rw[hm bg (A8.2 (.inl rfl))];exact h.g
 f:=by rw[hm bf (A8.2 (.inr (.inl rfl)))];exact h.f
 c:=by rw[hm bc (A8.2 (.inr (.inr (.inl rfl))))];exact h.c
 fll:=h.fll
 bsl:=h.bsl
 cll:=h.cll
 row:=fun i b hb=>by rw[hm b (A8.2 (.inr (.inr (.inr ⟨i,hb⟩))))];exact h.row i b hb
 nil:=h.nil
 nd:=h.nd
 ndr:=h.ndr
 inj:=h.inj
end
theorem Qbq (bg:Nat) (es:List RE) (bf bc n:Nat):∀c y,Aa.emp.set bg (Cf es bf bc n) c=some y→∀v∈y.l,v.cells.all AV.one=true:=by
 intro c y hy v hv;simp only[A1,Az]at hy;split at hy
 ·cases hy;simp only[Cf,List.mem_singleton]at hv;subst hv;rfl
 ·cases hy
theorem R9 (bg bf bc n:Nat) (es:List RE) (e j:Nat) (he:e<es.length) (hes:I2 12 es) (hj:j=(Ad es e).1∨j=(Ad es e).2) :
  Aj Tryz.prog 125 [.ptr bg 3 0 0,.int .i64 (e:Nat),.int .i64 (j:Nat)] (Aa.emp.set bg (Cf es bf bc n)) fun v m=>∃x',(v=.int .i64 (Fo (Ad es) e j:Nat)∧x'=Cf es bf bc n)∧m=Aa.emp.set bg x':=by
 obtain⟨e1,e2,e3⟩:=hes e he;have hlt:=e3.1;have hlt2:=e3.2.1;have ho:(Fo (Ad es) e j:Int)=((Ad es e).1:Int)+((Ad es e).2:Int)-(j:Int):=by unfold Fo;omega
 refine Ae Tryz.func125 rfl rfl 26 rfl (Nat.le_of_ble_eq_true rfl) ?_;(repeat refine AW.seq_k fun K hK=>?_);refine AW.rg ?_;simp[Ak];try (refine hK _ rfl ?_;clear hK K)
 unfold Cf;(repeat refine AW.seq_k fun K hK=>?_);refine AW.rdL [bg] [0,1,2,3,4,5,6,7,8,9,10,11,12,13,14,15,16,17,18,19] C8 (by simp) ?_;have w1:IntKind.i64.wrap ((Gx es e).a+(Gx es e).b)=(Gx es e).a+(Gx es e).b:=Md (by omega);have w2:IntKind.i64.wrap ((Gx es e).a+(Gx es e).b-(j:Int))=(Gx es e).a+(Gx es e).b-(j:Int):=Md (by omega);simp[he,Cj,w1,w2];try (refine hK _ rfl ?_;clear hK K)
 exact AW.ret (Bz rfl (Qbq bg es bf bc n) ⟨Cf es bf bc n,⟨by rw[ho,←e1,←e2];rfl,rfl⟩,rfl⟩)
end Go.Av
end
section
namespace Go.Av
open Go.Proofs Go.Lam
theorem Qgr (n:Nat):Gg (List.replicate n none) (List.replicate n [])=List.replicate n .nil:=by
 simp[Gg,W4,List.zipWith_replicate]
theorem Qj (n i:Nat):Cx (List.replicate n []) i=[]:=by
 unfold Cx;rw[List.getD_eq_getElem?_getD,List.getElem?_replicate];split<;>rfl
theorem Wv {M:Aa} {n bg bf bc:Nat} {es:List RE} (h1:M bg=some (Cf es bf bc n)) (h2:M bf=some ⟨3,1,Al (List.replicate n 0)⟩) (h3:M bc=some ⟨25,1,List.replicate n .nil⟩) (hd:bg≠bf∧bg≠bc∧bf≠bc) :
  Cw M n bg bf bc es (List.replicate n 0) (List.replicate n none) (List.replicate n []) where
 g:=h1
 f:=h2
 c:=by rw[Qgr];exact h3
 fll:=List.length_replicate
 bsl:=List.length_replicate
 cll:=List.length_replicate
 row:=fun i b hb=>by rw[List.getElem?_replicate]at hb;split at hb<;>simp at hb
 nil:=fun i _=>Qj n i
 nd:=hd
 ndr:=fun i b hb=>by rw[List.getElem?_replicate]at hb;split at hb<;>simp at hb
 inj:=fun i j b hb _=>by rw[List.getElem?_replicate]at hb;split at hb<;>simp at hb
theorem Ey.set {M:Aa} {l:List Nat} (h:Ey M l) {b:Nat} (x:Ep) (hb:b∈l):Ey (M.set b x) l:=fun k hk=>by
 by_cases e:k=b
 ·rw[e];exact hb
 ·rw[Aa.set_other _ _ e]at hk;exact h k hk
theorem Ia (bs:List (Option Nat)) (cl:List (List Nat)):∀v∈Gg bs cl,v.cells.all AV.one=true:=by
 intro v hv;unfold Gg at hv;obtain⟨i,hi⟩:=List.getElem?_of_mem hv;rw[List.getElem?_zipWith]at hi;split at hi
 ·rename_i o l _ _
  cases hi;cases o<;>rfl
 ·cases hi
theorem G4 {M:Aa} {n bg bf bc:Nat} {es:List RE} {fl:List Nat} {bs:List (Option Nat)} {cl:List (List Nat)} (h:Cw M n bg bf bc es fl bs cl) (ho:Ey M (A5 bg bf bc bs)):∀c y,M c=some y→∀v∈y.l,v.cells.all AV.one=true:=by
 intro c y hy v hv;rcases A8.1 (ho c (by rw[hy];simp))with rfl | rfl | rfl | ⟨i,hi⟩
 ·rw[h.g]at hy;cases hy;simp only[Cf,List.mem_singleton]at hv;subst hv;rfl
 ·rw[h.f]at hy;cases hy;exact Ce _ v hv
 ·rw[h.c]at hy;cases hy;exact Ia _ _ v hv
 ·rw[h.row i c hi]at hy;cases hy;exact Ce _ v hv
theorem Cw.dom {M:Aa} {n bg bf bc:Nat} {es:List RE} {fl:List Nat} {bs:List (Option Nat)} {cl:List (List Nat)} (h:Cw M n bg bf bc es fl bs cl) {k:Nat} (hk:k∈A5 bg bf bc bs):M k≠none:=by
 rcases A8.1 hk with rfl|rfl|rfl|⟨i,hi⟩
 ·rw[h.g];simp
 ·rw[h.f];simp
 ·rw[h.c];simp
 ·rw[h.row i k hi];simp
theorem Qmg {M:Aa} {bg bf bc:Nat} {bs:List (Option Nat)} (h:∀k,M k≠none→k=bg∨k=bf∨k=bc):Ey M (A5 bg bf bc bs):=fun k hk=>by
 rw[A8];rcases h k hk with h | h | h
 ·exact .inl h
 ·exact .inr (.inl h)
 ·exact .inr (.inr (.inl h))
theorem Qbk (n:Nat) (es:List RE) (hn:n≤12):Aj Tryz.prog 81 [.int .i64 (n:Nat),A3 es] Aa.emp fun v m=>∃bg bf bc,v=.ptr bg 3 0 0∧Cw m n bg bf bc es (List.replicate n 2) (List.replicate n none) (List.replicate n [])∧Ey m (A5 bg bf bc (List.replicate n none)):=by
 refine Ae Tryz.func81 rfl rfl 26 rfl (Nat.le_of_ble_eq_true rfl) ?_;unfold A3;(repeat refine AW.seq_k fun K hK=>?_);refine AW.rg ?_;simp[Ak];try (refine hK _ rfl ?_;clear hK K)
 refine AW.seq_ex (ι:=Aa × Nat × Nat × Nat) (fun z=>[(0,.int .i64 (n:Nat)),(5,.ptr z.2.1 3 0 0)]) (fun z=>z.1) (fun z=>Cw z.1 n z.2.1 z.2.2.1 z.2.2.2 es (List.replicate n 0) (List.replicate n none) (List.replicate n [])∧Ey z.1 (A5 z.2.1 z.2.2.1 z.2.2.2 (List.replicate n none))) ?_ ?_
 ·refine AW.rd2 2 4 [0,1,3,2,4,5,6,7] [0,1,3,4,2,5,6,7] C8 ?_ ?_
  ·simp;refine⟨by omega,Ah.intro fun bf h1=>⟨by omega,Ah.intro fun bc h2=>Ah.intro fun bg h3=>?_⟩⟩;simp only[Ap,Az,and_true]at h2 h3;exact⟨bf,bc,Wv (by simp[Cf]) (by simp[A1,h2,h3,Al]) (by simp[A1,h2,h3]) ⟨h3.2.1,h3.1.1,h2.2⟩,Qmg (fun k hk=>by
    simp only[A1,Az]at hk;split at hk
    ·exact .inl (by assumption)
    ·split at hk
     ·exact .inr (.inr (by assumption))
     ·split at hk
      ·exact .inr (.inl (by assumption))
      ·exact absurd rfl hk)⟩
  ·simp;refine⟨by omega,Ah.intro fun bc h1=>⟨by omega,Ah.intro fun bf h2=>Ah.intro fun bg h3=>?_⟩⟩;simp only[Ap,Az,and_true]at h2 h3;exact⟨bf,bc,Wv (by simp[Cf]) (by simp[A1,h2,h3,Al]) (by simp[A1,h2,h3]) ⟨h3.1.1,h3.2.1,h2.1⟩,Qmg (fun k hk=>by
    simp only[A1,Az]at hk;split at hk
    ·exact .inl (by assumption)
    ·split at hk
     ·exact .inr (.inl (by assumption))
     ·split at hk
      ·exact .inr (.inr (by assumption))
      ·exact absurd rfl hk)⟩
 rintro⟨M,bg,bf,bc⟩ ⟨hg,ho⟩;simp only at hg ho ⊢;refine AW.seq_ex (ι:=Aa) (fun _=>[(5,.ptr bg 3 0 0)]) (fun M=>M) (fun M=>Cw M n bg bf bc es (List.replicate n 2) (List.replicate n none) (List.replicate n [])∧Ey M (A5 bg bf bc (List.replicate n none))) ?_ ?_
 ·(repeat refine AW.seq_k fun K hK=>?_);refine AW.rg ?_;simp;try (refine hK _ rfl ?_;clear hK K)
  refine AW.block (AW.loopS (ι:=Aa × Nat) (fun z=>[(5,.ptr bg 3 0 0),(14,.int .i64 (n:Nat)),(15,.int .i64 (z.2:Nat))]) (fun z=>z.1)
   (fun z=>z.2≤n∧Cw z.1 n bg bf bc es (List.replicate z.2 2++List.replicate (n-z.2) 0) (List.replicate n none) (List.replicate n [])∧Ey z.1 (A5 bg bf bc (List.replicate n none))) (fun z=>n-z.2) (M,0) ⟨by simp,by simpa using hg,ho⟩ rfl (by simp) ?_)
  rintro⟨M,i⟩ ⟨g1,g2,g3⟩;simp only at g1 g2 g3;(repeat refine AW.seq_k fun K hK=>?_);refine AW.rg ?_;simp;try (refine hK _ rfl ?_;clear hK K)
  (repeat refine AW.seq ?_);refine AW.cs (fun hi=>?_) (fun hi=>?_) rfl<;>(try simp at hi)
  ·refine AW.skip ?_;try simp
   try (refine hK _ rfl ?_;clear hK K)
   have w1:=Aq (i+1) (by omega);have m1:=g2.g;have m2:=g2.f;have hfl:=g2.fll;have g4:=g2.setF i 2;rw[List.set_append_right _ _ (by simp),List.length_replicate,Nat.sub_self,show n-i=(n-(i+1))+1 by omega,List.replicate_succ,List.set_cons_zero]at g4;unfold Cf at m1;(repeat refine AW.seq ?_);refine AW.block ?_;(repeat refine AW.seq_k fun K hK=>?_);refine AW.rg ?_;simp;try (refine hK _ rfl ?_;clear hK K)
   (repeat refine AW.seq_k fun K hK=>?_);refine AW.rg ?_;simp[m1,m2,hi,hfl];try (refine hK _ rfl ?_;clear hK K)
   (repeat refine AW.seq_k fun K hK=>?_);refine AW.rg ?_;simp[-Int.natCast_add,w1];try (refine hK _ rfl ?_;clear hK K)
   have e:List.replicate i 2++2::List.replicate (n-(i+1)) 0=List.replicate (i+1) 2++List.replicate (n-(i+1)) 0:=by rw[List.replicate_succ',List.append_assoc];rfl
   rw[e]at g4;refine⟨_,i+1,⟨by omega,g4,g3.set _ (A8.2 (.inr (.inl rfl)))⟩,by omega,?_,rfl⟩;rw[←e]
   congr 2
   show(Al (List.replicate i 2++List.replicate (n-i) 0)).set i (.int .i64 ((2:Nat):Int))=_
   rw[H7,List.set_append_right _ _ (by simp),List.length_replicate,Nat.sub_self,show n-i=(n-(i+1))+1 by omega,List.replicate_succ,List.set_cons_zero]
  ·refine AW.exit ?_;try simp
   rw[show i=n by omega,Nat.sub_self,List.replicate_zero,List.append_nil]at g2;exact⟨g2,g3⟩
 rintro M ⟨hg,ho⟩;(repeat refine AW.seq_k fun K hK=>?_);refine AW.rg ?_;simp;try (refine hK _ rfl ?_;clear hK K)
 exact AW.ret (Bz rfl (G4 hg ho) ⟨bg,bf,bc,rfl,hg,ho⟩)
end Go.Av
end
section
namespace Go.Av
open Go.Proofs Go.Lam
def bools (l:List Bool):List AV:=l.map .bool
@[simp] theorem Qks (l:List Bool):(bools l).length=l.length:=by simp[bools]
@[simp] theorem Qrm {l:List Bool} {i:Nat} (h:i<(bools l).length):(bools l)[i]=.bool (l[i]'(by simpa using h)):=by simp[bools]
theorem Fd (l:List Bool) (i:Nat) (x:Bool):(bools l).set i (.bool x)=bools (l.set i x):=by unfold bools;rw[List.map_set]
theorem K1 (l:List Bool):∀v∈bools l,v.cells.all AV.one=true:=by
 intro v hv;obtain⟨x,_,rfl⟩:=List.mem_map.1 hv;rfl
def E5 (sn:List Bool):Nat→Bool:=fun v=>sn.getD v false
theorem I1 {sn:List Bool} {i:Nat} {x:Bool} (hi:i<sn.length):E5 (sn.set i x)=Et (E5 sn) i x:=by
 funext v
 unfold E5 Et;rw[List.getD_eq_getElem?_getD,List.getElem?_set];by_cases h:i=v
 ·subst h;simp[hi]
 ·rw[if_neg h,if_neg (Ne.symm h),←List.getD_eq_getElem?_getD]
theorem Qm {sn:List Bool} {i:Nat} (hi:i<sn.length):E5 sn i=sn[i]:=by unfold E5;rw[List.getD_eq_getElem?_getD,List.getElem?_eq_getElem hi];rfl
theorem E0 {fl:List Nat} {i:Nat} (hi:i<fl.length):fl[i]=Dz fl i:=by unfold Dz;rw[List.getD_eq_getElem?_getD,List.getElem?_eq_getElem hi];rfl
def Fm (sn:List Bool):Nat:=sn.countP fun b=>!b
theorem Ru {sn:List Bool} {i:Nat} (hi:i<sn.length) (h:sn[i]=false):Fm (sn.set i true)+1=Fm sn:=by
 unfold Fm;rw[List.countP_set hi];have hp:0<sn.countP fun b=>!b:=List.countP_pos_iff.2 ⟨sn[i],List.getElem_mem hi,by rw[h];rfl⟩;simp[h];omega
def Qpq (bg bx c3 n:Nat):AV:=.fn 195 [.rptr [.ptr bg 3 0 0],.rptr [.osl bx 1 0 n],.ptr c3 1 0 0]
structure Hz (M:Aa) (n bg bf bc bx c3:Nat) (es:List RE) (fl:List Nat) (bs:List (Option Nat)) (cl:List (List Nat)) (sn:List Bool):Prop where
 game:Cw M n bg bf bc es fl bs cl
 seen:M bx=some ⟨4,1,bools sn⟩
 snl:sn.length=n
 cell:M c3=some ⟨100,1,[Qpq bg bx c3 n]⟩
 off:∀k∈A5 bg bf bc bs,k≠bx∧k≠c3
 xc:bx≠c3
 only:Ey M (bx::c3::A5 bg bf bc bs)
section
variable {M:Aa} {n bg bf bc bx c3:Nat} {es:List RE} {fl:List Nat} {bs:List (Option Nat)} {cl:List (List Nat)} {sn:List Bool}
theorem Hz.look (h:Hz M n bg bf bc bx c3 es fl bs cl sn) (i:Nat):Hz (M.set bx ⟨4,1,bools (sn.set i true)⟩) n bg bf bc bx c3 es fl bs cl (sn.set i true) where
 game:=h.game.congr fun k hk=>Aa.set_other _ _ (h.off k hk).1
 seen:=Aa.set_same _ _ _
 snl:=by rw[List.length_set,h.snl]
 cell:=by rw[Aa.set_other _ _ (Ne.symm h.xc)];exact h.cell
 off:=h.off
 xc:=h.xc
 only:=h.only.set _ (by simp)
theorem Hz.setF (h:Hz M n bg bf bc bx c3 es fl bs cl sn) (i x:Nat):Hz (M.set bf ⟨3,1,Al (fl.set i x)⟩) n bg bf bc bx c3 es (fl.set i x) bs cl sn where
 game:=h.game.setF i x
 seen:=by rw[Aa.set_other _ _ (Ne.symm (h.off bf (A8.2 (.inr (.inl rfl)))).1)];exact h.seen
 snl:=h.snl
 cell:=by rw[Aa.set_other _ _ (Ne.symm (h.off bf (A8.2 (.inr (.inl rfl)))).2)];exact h.cell
 off:=h.off
 xc:=h.xc
 only:=h.only.set _ (by simp[A5])
theorem Qgl {i b' k:Nat} (hi:i<bs.length) (hk:k∈A5 bg bf bc (bs.set i (some b'))):k=b'∨k∈A5 bg bf bc bs:=by
 rcases A8.1 hk with h|h|h|⟨j,hj⟩
 ·exact .inr (A8.2 (.inl h))
 ·exact .inr (A8.2 (.inr (.inl h)))
 ·exact .inr (A8.2 (.inr (.inr (.inl h))))
 ·rw[List.getElem?_set]at hj;by_cases e:i=j
  ·rw[if_pos e,if_pos hi]at hj;cases hj;exact .inl rfl
  ·rw[if_neg e]at hj;exact .inr (A8.2 (.inr (.inr (.inr ⟨j,hj⟩))))
theorem Hz.dom (h:Hz M n bg bf bc bx c3 es fl bs cl sn) {k:Nat} (hk:k∈bx::c3::A5 bg bf bc bs):M k≠none:=by
 simp only[List.mem_cons]at hk;rcases hk with rfl | rfl | hk
 ·rw[h.seen];simp
 ·rw[h.cell];simp
 ·rcases A8.1 hk with rfl|rfl|rfl|⟨i,hi⟩
  ·rw[h.game.g];simp
  ·rw[h.game.f];simp
  ·rw[h.game.c];simp
  ·rw[h.game.row i k hi];simp
theorem Hz.ones (h:Hz M n bg bf bc bx c3 es fl bs cl sn):∀c y,M c=some y→∀v∈y.l,v.cells.all AV.one=true:=by
 intro c y hy v hv;have hc:=h.only c (by rw[hy];simp);simp only[List.mem_cons]at hc;rcases hc with rfl | rfl | hc
 ·rw[h.seen]at hy;cases hy;exact K1 _ v hv
 ·rw[h.cell]at hy;cases hy;simp only[List.mem_singleton]at hv;subst hv;rfl
 ·rcases A8.1 hc with rfl|rfl|rfl|⟨i,hi⟩
  ·rw[h.game.g]at hy;cases hy;simp only[Cf,List.mem_singleton]at hv;subst hv;rfl
  ·rw[h.game.f]at hy;cases hy;exact Ce _ v hv
  ·rw[h.game.c]at hy;cases hy;exact Ia _ _ v hv
  ·rw[h.game.row i c hi]at hy;cases hy;exact Ce _ v hv
theorem Hz.setC (h:Hz M n bg bf bc bx c3 es fl bs cl sn) {i b':Nat} {l':List Nat} (hi:i<n) (hf:b' ∉ bx::c3::A5 bg bf bc bs∨bs[i]?=some (some b')) {M':Aa}
  (h3:M' bc=some ⟨25,1,(Gg bs cl).set i (.osl b' 1 0 l'.length)⟩) (h4:M' b'=some ⟨3,1,Al l'⟩) (h5:∀k∈bx::c3::A5 bg bf bc bs,k≠b'→k≠bc→bs[i]?≠some (some k)→M' k=M k)
  (h6:∀k,M' k≠none→k=b'∨k∈bx::c3::A5 bg bf bc bs∧(bs[i]?=some (some k)→k=b')):Hz M' n bg bf bc bx c3 es fl (bs.set i (some b')) (cl.set i l') sn:=by
 have hib:i<bs.length:=by rw[h.game.bsl];exact hi
 have hb':b'≠bg∧b'≠bf∧b'≠bc∧b'≠bx∧b'≠c3:=by
  rcases hf with hf|hf
  ·simp only[A5,List.mem_cons,not_or]at hf;exact⟨hf.2.2.1,hf.2.2.2.1,hf.2.2.2.2.1,hf.1,hf.2.1⟩
  ·have h1:=h.game.ndr i b' hf;have h2:=h.off b' (A8.2 (.inr (.inr (.inr ⟨i,hf⟩))));exact⟨h1.1,h1.2.1,h1.2.2,h2.1,h2.2⟩
 have hn1:bs[i]?≠some (some bg):=fun e=>(h.game.ndr i bg e).1 rfl;have hn2:bs[i]?≠some (some bf):=fun e=>(h.game.ndr i bf e).2.1 rfl;have hn3:bs[i]?≠some (some bx):=fun e=>(h.off bx (A8.2 (.inr (.inr (.inr ⟨i,e⟩))))).1 rfl;have hn4:bs[i]?≠some (some c3):=fun e=>(h.off c3 (A8.2 (.inr (.inr (.inr ⟨i,e⟩))))).2 rfl;have hbc:=h.off bc (A8.2 (.inr (.inr (.inl rfl))));have hrow:∀j,j≠i→bs[j]?≠some (some b'):=fun j hj e=>by
  rcases hf with hf|hf
  ·exact hf (by simp only[List.mem_cons];exact .inr (.inr (A8.2 (.inr (.inr (.inr ⟨j,e⟩))))))
  ·exact hj (h.game.inj j i b' e hf)
 refine⟨h.game.setC hi ⟨hb'.1,hb'.2.1,hb'.2.2.1⟩ hrow ?_ ?_ h3 h4 ?_,?_,h.snl,?_,?_,h.xc,?_⟩
 ·exact h5 bg (by simp[A5]) (Ne.symm hb'.1) h.game.nd.2.1 hn1
 ·exact h5 bf (by simp[A5]) (Ne.symm hb'.2.1) h.game.nd.2.2 hn2
 ·intro j b hj hb;have hm:b∈A5 bg bf bc bs:=A8.2 (.inr (.inr (.inr ⟨j,hb⟩)));exact h5 b (by simp only[List.mem_cons];exact .inr (.inr hm)) (fun e=>hrow j hj (e ▸ hb)) (h.game.ndr j b hb).2.2 (fun e=>hj (h.game.inj j i b hb e))
 ·rw[h5 bx (by simp) (Ne.symm hb'.2.2.2.1) (Ne.symm hbc.1) hn3];exact h.seen
 ·rw[h5 c3 (by simp) (Ne.symm hb'.2.2.2.2) (Ne.symm hbc.2) hn4];exact h.cell
 ·intro k hk;rcases Qgl hib hk with rfl | hk
  ·exact⟨hb'.2.2.2.1,hb'.2.2.2.2⟩
  ·exact h.off k hk
 ·intro k hk;simp only[List.mem_cons];rcases h6 k hk with rfl | ⟨hk,hk2⟩
  ·exact .inr (.inr (A8.2 (.inr (.inr (.inr ⟨i,by rw[List.getElem?_set,if_pos rfl,if_pos hib]⟩)))))
  ·simp only[List.mem_cons]at hk;rcases hk with hk | hk | hk
   ·exact .inl hk
   ·exact .inr (.inl hk)
   ·refine .inr (.inr (A8.2 ?_));rcases A8.1 hk with hk | hk | hk | ⟨j,hj⟩
    ·exact .inl hk
    ·exact .inr (.inl hk)
    ·exact .inr (.inr (.inl hk))
    ·by_cases hij:i=j
     ·subst hij;rw[hk2 hj];exact .inr (.inr (.inr ⟨i,by rw[List.getElem?_set,if_pos rfl,if_pos hib]⟩))
     ·exact .inr (.inr (.inr ⟨j,by rw[List.getElem?_set,if_neg hij];exact hj⟩))
end
end Go.Av
end
