/- A part of the proof. -/
import Derived.Test.YthflocfaafoohaaGreatP3
set_option linter.all false
set_option exponentiation.threshold 5000
set_option maxRecDepth 10000
section
namespace Go.Av
open Go.Proofs
theorem V0 (n:Nat) (f:Nat→Rat):Bd (n+1) f=f 0+Bd n fun k=>f (k+1):=by
 rw[Rn (k0:=0) f (by omega)];rfl
theorem P2:∀(n:Nat) (f:Nat→Rat),Bd n f=Bd n fun i=>f (n-1-i)
 |0,f=>rfl
 |n+1,f=>by
  rw[V0,P2 n (fun k=>f (k+1)),Cj];have e:Bd n (fun i=>f (n-1-i+1))=Bd n fun i=>f (n+1-1-i):=A2 fun i hi=>by rw[show n-1-i+1=n+1-1-i by omega]
  rw[e,show n+1-1-n=0 by omega];grind
def Jb (X:List (List Rat)) (ps:List Nat) (σ:Nat→Nat):MF:=fun a b=>A6 X (σ (ps.length-1-a)) (ps.getD (ps.length-1-b) 0)
structure Qp (n w:Nat) (X M:List (List Rat)) (ps:List Nat) (σ:Nat→Nat):Prop where
 rep:∀a b,a<n→b<w→A6 X (σ a) b=(if a<ps.length then 0 else A6 M a b)+Bd ps.length fun m=>A6 X (σ a) (ps.getD m 0)*A6 M m b
 lt:∀a,a<n→σ a<n
 inj:∀a b,a<n→b<n→σ a=σ b→a=b
 det:Ci ps.length (Jb X ps σ)≠0
theorem Qp.start (n w:Nat) (M:List (List Rat)):Qp n w M M [] id where
 rep a b _ _:=by
  rw[if_neg (by simp)];show _=A6 M a b+0
  simp only[id];grind
 lt a h:=h
 inj a b _ _ h:=h
 det:=by show(1:Rat)≠0;decide
theorem Qp.step {n w j:Nat} {X M:List (List Rat)} {ps:List Nat} {σ:Nat→Nat} (h:Ia n w j M ps) (hB:Qp n w X M ps σ) (hj:j<w) {z:List (List Rat) × List Nat} (he:Cn j (M,ps)=some z):∃σ',Qp n w X z.1 z.2 σ':=by
 have hl:=h.good.2.2;unfold Cn at he;simp only at he;cases hp:T3 M j ps.length with
 |none =>
  rw[hp]at he;simp only[Option.some.injEq]at he;subst he;exact⟨σ,hB⟩
 |some i =>
  rw[hp]at he;simp only at he;obtain⟨q1,q2,_⟩:=Ot hp;rw[hl]at q1;simp only[Bool.and_eq_true,decide_eq_true_eq,Bool.not_eq_true',decide_eq_false_iff_not]at q2;obtain⟨Y,hY,rfl⟩:=Option.map_eq_some_iff.1 he;obtain⟨r,hr⟩:∃r,ps.length=r:=⟨_,rfl⟩;rw[hr]at hY q2;have hrn:r<n:=by omega
  have hM1:=h.good.swap q1 hrn;have hsw:∀a b,A6 (Cg M i r) a b=if a=r then A6 M i b else if a=i then A6 M r b else A6 M a b:=fun a b=>P7 (by omega) (by omega) a b
  have hd:A6 (Cg M i r) r j≠0:=by rw[hsw,if_pos rfl];exact q2.2
  obtain⟨_,hs⟩:=Wy hM1 hrn hd hj hY
  let τ:Nat→Nat:=fun a=>σ (if a=r then i else if a=i then r else a)
  have hτ:∀a,a<n→(if a=r then i else if a=i then r else a)<n:=fun a ha=>by split<;>(try split)<;>omega
  have rep1:∀a b,a<n→b<w→A6 X (τ a) b=(if a<r then 0 else A6 (Cg M i r) a b)+Bd r fun m=>A6 X (τ a) (ps.getD m 0)*A6 (Cg M i r) m b:=fun a b ha hb=>by
   have h1:=hB.rep (if a=r then i else if a=i then r else a) b (hτ a ha) hb;rw[hr]at h1;have h2:Bd r (fun m=>A6 X (τ a) (ps.getD m 0)*A6 (Cg M i r) m b)=Bd r fun m=>A6 X (τ a) (ps.getD m 0)*A6 M m b:=A2 fun m hm=>by
    rw[hsw,if_neg (by omega),if_neg (by omega)]
   rw[h2];have h3:(if a<r then 0 else A6 (Cg M i r) a b)=if (if a=r then i else if a=i then r else a)<r then 0 else A6 M (if a=r then i else if a=i then r else a) b:=by
    by_cases e1:a=r
    ·subst e1;rw[if_neg (by omega),hsw,if_pos rfl,if_pos rfl,if_neg (by omega)]
    ·by_cases e2:a=i
     ·subst e2;rw[if_neg (by omega),hsw,if_neg e1,if_pos rfl,if_neg e1,if_pos rfl,if_neg (by omega)]
     ·rw[if_neg e1,if_neg e2,hsw,if_neg e1,if_neg e2]
   rw[h3];exact h1
  generalize Cg M i r=M1 at *;have hlen:(ps++[j]).length=r+1:=by simp[hr]
  have hgd:∀m,m<r→(ps++[j]).getD m 0=ps.getD m 0:=fun m hm=>by rw[Iy,if_pos (by omega)]
  have hgr:(ps++[j]).getD r 0=j:=by rw[Iy,if_neg (by omega),if_pos hr.symm]
  refine⟨τ,?_,fun a ha=>hB.lt _ (hτ a ha),fun a b ha hb hab=>?_,?_⟩
  ·intro a b ha hb;simp only;rw[hlen,Cj,hgr];have e1:Bd r (fun m=>A6 X (τ a) ((ps++[j]).getD m 0)*A6 Y m b)=Bd r (fun m=>A6 X (τ a) (ps.getD m 0)*A6 M1 m b)+(-(A6 M1 r b / A6 M1 r j))*Bd r (fun m=>A6 X (τ a) (ps.getD m 0)*A6 M1 m j):=by
    rw[←Dj,←Gy];refine A2 fun m hm=>?_;rw[hgd m hm,hs m b (by omega) hb,if_neg (by omega)];grind
   have r1:=rep1 a b ha hb;have r2:=rep1 a j ha hj;rw[e1,hs r b hrn hb,if_pos rfl];generalize Bd r (fun m=>A6 X (τ a) (ps.getD m 0)*A6 M1 m b)=S at *;generalize Bd r (fun m=>A6 X (τ a) (ps.getD m 0)*A6 M1 m j)=S' at *;rcases Nat.lt_trichotomy a r with hlt | heq | hgt
   ·rw[if_pos hlt]at r1 r2;rw[if_pos (by omega)];grind
   ·subst heq;rw[if_neg (by omega)]at r1 r2;rw[if_pos (by omega)];grind
   ·rw[if_neg (by omega)]at r1 r2;rw[if_neg (by omega),hs a b ha hb,if_neg (by omega)];grind
  ·have:=hB.inj _ _ (hτ a ha) (hτ b hb) hab
   revert this
   (repeat' split)<;>intro this<;>omega
  ·simp only;rw[hlen];have hP:∀a b,a<r+1→b<r+1→Jb X (ps++[j]) τ a b=A6 X (τ (r-a)) ((ps++[j]).getD (r-b) 0):=fun a b _ _=>by unfold Jb;rw[hlen];rfl
   let Q:MF:=fun a b=>if a=0 then (if b=0 then 1 else 0) else Jb X (ps++[j]) τ b a
   let u:Nat→Rat:=fun k=>if k=0 then A6 M1 r j else A6 M1 (r-k) j
   have hN:∀a b,a<r+1→b<r+1→Tw (Jb X (ps++[j]) τ) a b=setF Q 0 (fun b=>Bd (r+1) fun i=>u i*Q i b) a b:=fun a b ha hb=>by
    unfold setF;by_cases e:a=0
    ·subst e;rw[if_pos rfl];show Jb X (ps++[j]) τ b 0=Bd (r+1) fun i=>u i*Q i b
     rw[hP b 0 hb (by omega),Nat.sub_zero,hgr,V0];have r2:=rep1 (r-b) j (by omega) hj;have e1:Bd r (fun k=>u (k+1)*Q (k+1) b)=Bd r fun m=>A6 X (τ (r-b)) (ps.getD m 0)*A6 M1 m j:=by
      rw[P2 r (fun m=>A6 X (τ (r-b)) (ps.getD m 0)*A6 M1 m j)];refine A2 fun k hk=>?_;show A6 M1 (r-(k+1)) j*Jb X (ps++[j]) τ b (k+1)=_
      rw[hP b (k+1) hb (by omega),hgd _ (by omega),show r-(k+1)=r-1-k by omega];grind
     rw[e1,r2];show _=A6 M1 r j*(if b=0 then 1 else 0)+_
     by_cases eb:b=0
     ·subst eb;rw[if_neg (by omega),if_pos rfl,Nat.sub_zero];grind
     ·rw[if_pos (by omega),if_neg eb];grind
    ·rw[if_neg e];show Jb X (ps++[j]) τ b a=if a=0 then _ else _
     rw[if_neg e]
   rw[←Qa,B6 hN,(Hu (r+1)).comb (by omega) u Q,←Qa];have hQ:Ci (r+1) (Tw Q)=Ci r (Jb X ps σ):=by
    show Bd (r+1) (fun i=>Km i*Tw Q i 0*Ci r (Cl i (Tw Q)))=_
    rw[B3 (k:=0) (by omega) fun i hi hne=>by
     show Km i*(if i=0 then 1 else 0)*_=0
     rw[if_neg hne];grind]
    have e1:Ci r (Cl 0 (Tw Q))=Ci r (Jb X ps σ):=B6 fun a b ha hb=>by
     have e0:Cl 0 (Tw Q) a b=Jb X (ps++[j]) τ (Bs 0 a) (b+1):=by
      show(if b+1=0 then (if Bs 0 a=0 then (1:Rat) else 0) else Jb X (ps++[j]) τ (Bs 0 a) (b+1))=_
      exact if_neg (by omega)
     rw[e0,show Bs 0 a=a+1 from rfl,hP (a+1) (b+1) (by omega) (by omega),hgd _ (by omega)];unfold Jb;rw[hr,show r-(a+1)=r-1-a by omega,show r-(b+1)=r-1-b by omega];show A6 X (σ _) _=_
     rw[if_neg (by omega),if_neg (by omega)]
    rw[e1];show Km 0*(if 0=0 then 1 else 0)*_=_
    rw[if_pos rfl,show Km 0=1 from rfl];grind
   rw[hQ];have hdet:=hB.det;rw[hr]at hdet;intro h0;rcases Rat.mul_eq_zero.1 h0 with h1 | h1
   ·exact hd h1
   ·exact hdet h1
end Go.Av
end
section
namespace Go.Av
open Go.Proofs
theorem Qp.cramer {n w A:Nat} {X M:List (List Rat)} {ps:List Nat} {σ:Nat→Nat} (hB:Qp n w X M ps σ) (hn:ps.length≤n) (hps:∀p∈ps,p<w) (hA:∀a b,a<n→b<w→Fy A (A6 X a b)) :
  ∃d:Rat,d≠0∧Fy (Qee A ps.length) d∧∀m b,m<ps.length→b<w→Fy (Qee A ps.length) (A6 M m b*d):=by
 obtain⟨k,hk⟩:∃k,ps.length=k:=⟨_,rfl⟩;have hdet:=hB.det;rw[hk]at hdet hn ⊢;have hP:∀a b,Jb X ps σ a b=A6 X (σ (k-1-a)) (ps.getD (k-1-b) 0):=fun a b=>by unfold Jb;rw[hk]
 have hPI:∀a b,a<k→b<k→Fy A (Jb X ps σ a b):=fun a b ha hb=>by
  rw[hP];exact hA _ _ (hB.lt _ (by omega)) (hps _ (Gt (by omega)))
 refine⟨Ci k (Jb X ps σ),hdet,Zm hPI,fun m b hm hb=>?_⟩;have hc:=(Hu k).comb (k:=k-1-m) (by omega) (fun i=>A6 M (k-1-i) b) (Tw (Jb X ps σ));rw[Qa]at hc;rw[show k-1-(k-1-m)=m by omega]at hc;rw[←hc];refine Zm fun a c ha hcc=>?_;unfold setF;by_cases e:a=k-1-m
 ·rw[if_pos e];have hr:=hB.rep (k-1-c) b (by omega) hb;rw[hk,if_pos (by omega)]at hr;have e1:Bd k (fun i=>A6 M (k-1-i) b*Tw (Jb X ps σ) i c)=A6 X (σ (k-1-c)) b:=by
   rw[hr,P2 k (fun m=>A6 X (σ (k-1-c)) (ps.getD m 0)*A6 M m b)];have e2:Bd k (fun i=>A6 M (k-1-i) b*Tw (Jb X ps σ) i c)=Bd k fun i=>A6 X (σ (k-1-c)) (ps.getD (k-1-i) 0)*A6 M (k-1-i) b:=A2 fun i hi=>by
    show _*Jb X ps σ c i=_
    rw[hP];grind
   rw[e2];grind
  show Fy A (Bd k fun i=>A6 M (k-1-i) b*Tw (Jb X ps σ) i c)
  rw[e1];exact hA _ _ (hB.lt _ (by omega)) hb
 ·rw[if_neg e];exact hPI c a hcc ha
theorem Qp.size {n w A:Nat} {X M:List (List Rat)} {ps:List Nat} {σ:Nat→Nat} (hB:Qp n w X M ps σ) (hn:ps.length≤n) (hps:∀p∈ps,p<w) (hA:∀a b,a<n→b<w→Fy A (A6 X a b)) (hA1:1≤A) {F:Nat} (hF:Qee A ps.length≤F) :
  ∃d:Rat,d≠0∧Fy ((ps.length+1)*(A*F)) d∧∀a b,a<n→b<w→Fy ((ps.length+1)*(A*F)) (A6 M a b*d):=by
 obtain⟨d,h0,h1,h2⟩:=hB.cramer hn hps hA;have hFA:F≤A*F:=Nat.le_mul_of_pos_left _ (by omega);have hK:A*F≤(ps.length+1)*(A*F):=Nat.le_mul_of_pos_left _ (by omega);refine⟨d,h0,D8 (Nat.le_trans hF (Nat.le_trans hFA hK)) h1,fun a b ha hb=>?_⟩;by_cases hlt:a<ps.length
 ·exact D8 (Nat.le_trans hF (Nat.le_trans hFA hK)) (h2 a b hlt hb)
 ·have hr:=hB.rep a b ha hb;rw[if_neg hlt]at hr;have e1:A6 M a b*d=A6 X (σ a) b*d-Bd ps.length fun m=>A6 X (σ a) (ps.getD m 0)*(A6 M m b*d):=by
   have e2:Bd ps.length (fun m=>A6 X (σ a) (ps.getD m 0)*(A6 M m b*d))=d*Bd ps.length fun m=>A6 X (σ a) (ps.getD m 0)*A6 M m b:=by
    rw[←Dj];exact A2 fun m _=>by grind
   rw[e2];grind
  rw[e1];have i1:=Qd (hA (σ a) b (hB.lt a ha) hb) (D8 hF h1);have i2:=Zh (B:=A*F) (n:=ps.length) (f:=fun m=>A6 X (σ a) (ps.getD m 0)*(A6 M m b*d)) fun m hm=>Qd (hA _ _ (hB.lt a ha) (hps _ (Gt hm))) (D8 hF (h2 m b hm hb));refine D8 ?_ (Pn i1 i2);rw[Nat.succ_mul];omega
theorem Lt {op:Rat→Nat→Option Rat} {f:Nat→List Rat→Option (List Rat)} (hf:∀t r,f t r=F5 op t r) {row:List Rat}:∀{n:Nat},n≤row.length→(∀k,k<n→op (Ba row k) k≠none)→Aw f n row≠none
 |0,_,_=>by simp[Aw]
 |n+1,hl,h=>by
  rw[Bq];cases hs:Aw f n row with
  |none=>exact absurd hs (Lt hf (by omega) fun k hk=>h k (by omega))
  |some u =>
   obtain⟨_,_,h3⟩:=Qy (o:=0) (fun t r=>by rw[hf,Nat.zero_add]) (by omega) hs;have e:=h3 n (.inr (by omega));show f n u≠none
   rw[hf];unfold F5;rw[e];cases ho:op (Ba row n) n with
   |none=>exact absurd ho (h n (by omega))
   |some x=>simp
theorem Qd6 {n w r j K:Nat} {M:List (List Rat)} (h:Bf n w M) (hr:r<n) (hd:A6 M r j≠0) (hj:j<w) (hK:2*(K*(K*K*K))<Bj) (hs:∀a b,a<n→b<w→Sz K (A6 M a b)) (hs2:∀b,b<w→Sz K (A6 M r b / A6 M r j)):G0 M j r≠none:=by
 have hK1:1≤K:=Nat.le_trans (A6 M r j).den_pos (hs r j hr hj).2;have hKK:K*K≤K*(K*K*K):=Nat.mul_le_mul_left _ (Nat.le_trans (Nat.le_mul_of_pos_left K (by omega)) (Nat.le_mul_of_pos_right _ (by omega)));have hl:(Aj M r).length=w:=(h.row hr).2;unfold G0;rw[hl];have hdv:Aw (Cx (A6 M r j)) w (Aj M r)≠none:=Lt (op:=fun q _=>Fu q (A6 M r j)) (fun t r=>rfl) (by omega) fun k hk=>by
  show Fu (A6 M r k) (A6 M r j)≠none
  rw[Qis (hs r k hr hk) (hs r j hr hj) (by omega)];simp
 cases hm:Aw (Cx (A6 M r j)) w (Aj M r)with
 |none=>exact absurd hm hdv
 |some row =>
  show Aw (Bv r j) M.length (M.set r row)≠none
  rw[h.2.2];obtain⟨k1,k2,k3⟩:=Qy (o:=0) (op:=fun q _=>Fu q (A6 M r j)) (fun t r=>by rw[Nat.zero_add];rfl) (by omega) hm;have hrow:∀b,b<w→Ba row b=A6 M r b / A6 M r j:=fun b hb=>by
   have:=k2 b hb;rw[Nat.zero_add]at this;exact Qg7 this
  have hg1:Bf n w (M.set r row):=h.set r (Kw (p:=fun row=>Ef row∧row.length=w) (fun k s t hs hst=>It (fun q k x hx=>P3 hd hx) hs hst) (h.row hr) hm);have h1:∀a b,A6 (M.set r row) a b=if a=r then Ba row b else A6 M a b:=fun a b=>Zz (by rw[h.2.2];exact hr) row a b
  have key:∀i,i≤n→∃Z,Aw (Bv r j) i (M.set r row)=some Z∧Bf n w Z∧∀a b,(a=r∨i≤a)→b<w→A6 Z a b=if a=r then Ba row b else A6 M a b:=by
   intro i
   induction i with
   |zero =>
    intro _;exact⟨_,rfl,hg1,fun a b _ _=>h1 a b⟩
   |succ i ih =>
    intro hi;obtain⟨U,g0,g1,g2⟩:=ih (by omega);have hZ:Bv r j i U≠none:=by
     unfold Bv;by_cases hc:i=r∨A6 U i j=0
     ·rw[if_pos hc];simp
     ·rw[if_neg hc];have hil:(Aj U i).length=w:=(g1.row (by omega)).2;have hir:i≠r:=fun e=>hc (.inl e);have hsub:Aw (E8 (Aj U r) (A6 U i j)) (Aj U i).length (Aj U i)≠none:=by
       rw[hil];refine Lt (op:=fun q k=>L6 q (A6 U i j) (Ba (Aj U r) k)) (fun t r=>rfl) (by omega) fun k hk=>?_;have e1:Ba (Aj U i) k=A6 M i k:=by
        have:=g2 i k (.inr (by omega)) hk;rw[if_neg hir]at this;exact this
       have e2:A6 U i j=A6 M i j:=by
        have:=g2 i j (.inr (by omega)) hj;rw[if_neg hir]at this;exact this
       have e3:Ba (Aj U r) k=A6 M r k / A6 M r j:=by
        have:=g2 r k (.inl rfl) hk;rw[if_pos rfl,hrow k hk]at this;exact this
       show L6 (Ba (Aj U i) k) (A6 U i j) (Ba (Aj U r) k)≠none
       rw[e1,e2,e3];unfold L6;have z1:=hs2 k hk;have z2:=hs i j (by omega) hj;have z3:=hs i k (by omega) hk;rw[X8 z1 z2 (by omega),Option.bind_some,Ze z3 (Qt9 z1 z2) (by
        have:K*(K*K)≤K*(K*K*K):=Nat.mul_le_mul_left _ (Nat.le_mul_of_pos_right _ (by omega));omega)]
       simp
      cases hq:Aw (E8 (Aj U r) (A6 U i j)) (Aj U i).length (Aj U i)with
      |none=>exact absurd hq hsub
      |some x=>simp
    cases hz:Bv r j i U with
    |none=>exact absurd hz hZ
    |some Z =>
     refine⟨Z,by rw[Bq,g0];exact hz,Ra (by omega) g1 hz,fun a b ha hb=>?_⟩;rw[(Yr g1 (by omega) hz).2 a b hb,if_neg (by omega)];exact g2 a b (by omega) hb
  obtain⟨Z,hZ,_⟩:=key n (Nat.le_refl _);rw[hZ];simp
theorem Quc:∀k,k<20→Qee 256 k≤2^230:=by decide +kernel
structure Hy (n w:Nat) (X:List (List Rat)) (z:List (List Rat) × List Nat) (σ:Nat→Nat):Prop where
 rref:Ia n w w z.1 z.2
 null:∀v,Hv n w z.1 v↔Hv n w X v
 bare:Qp n w X z.1 z.2 σ
 size:∃d:Rat,d≠0∧Fy (2^244) d∧∀a b,a<n→b<w→Fy (2^244) (A6 z.1 a b*d)
theorem Q6 {n w:Nat} {X:List (List Rat)} (hX:Bf n w X) (hn:n≤19) (hA:∀a b,a<n→b<w→Fy 256 (A6 X a b)):∀j,j≤w →
  ∃z σ,Aw Cn j (X,[])=some z∧Ia n w j z.1 z.2∧(∀v,Hv n w z.1 v↔Hv n w X v)∧Qp n w X z.1 z.2 σ∧∃d:Rat,d≠0∧Fy (2^244) d∧∀a b,a<n→b<w→Fy (2^244) (A6 z.1 a b*d):=by
 have hsize:∀{M:List (List Rat)} {ps:List Nat} {σ:Nat→Nat},Qp n w X M ps σ→ps.length≤n→(∀p∈ps,p<w)→∃d:Rat,d≠0∧Fy (2^244) d∧∀a b,a<n→b<w→Fy (2^244) (A6 M a b*d):=fun {M ps σ} hB hl hps=>by
  obtain⟨d,h0,h1,h2⟩:=hB.size hl hps hA (by omega) (Quc ps.length (by omega));have hle:(ps.length+1)*(256*2^230)≤2^244:=by
   have:(ps.length+1)*(256*2^230)≤20*(256*2^230):=Nat.mul_le_mul_right _ (by omega);refine Nat.le_trans this ?_;decide +kernel
  exact⟨d,h0,D8 hle h1,fun a b ha hb=>D8 hle (h2 a b ha hb)⟩
 intro j
 induction j with
 |zero =>
  intro _;refine⟨(X,[]),id,rfl,Ia.start hX,fun _=>Iff.rfl,Qp.start n w X,hsize (Qp.start n w X) (by simp) (by simp)⟩
 |succ j ih =>
  intro hj;obtain⟨⟨M,ps⟩,σ,h1,h2,h3,h4,d,d0,d1,d2⟩:=ih (by omega);have hq:∀a b,a<n→b<w→A6 M a b=A6 M a b*d / d:=fun a b _ _=>by grind
  have hsz:∀a b,a<n→b<w→Sz (2^244) (A6 M a b):=fun a b ha hb=>by
   rw[hq a b ha hb];exact Z7 (d2 a b ha hb) d1 d0
  have hst:Cn j (M,ps)≠none:=by
   unfold Cn;simp only;cases hp:T3 M j ps.length with
   |none=>simp
   |some i =>
    simp only;have hl:=h2.good.2.2;simp only at hl;obtain⟨q1,q2,_⟩:=Ot hp;rw[hl]at q1;simp only[Bool.and_eq_true,decide_eq_true_eq,Bool.not_eq_true',decide_eq_false_iff_not]at q2;have hrn:ps.length<n:=by omega
    have hsw:∀a b,A6 (Cg M i ps.length) a b=if a=ps.length then A6 M i b else if a=i then A6 M ps.length b else A6 M a b:=fun a b=>P7 (by omega) (by omega) a b
    have hd:A6 (Cg M i ps.length) ps.length j≠0:=by rw[hsw,if_pos rfl];exact q2.2
    have:=Qd6 (K:=2^244) (h2.good.swap q1 hrn) hrn hd (by omega) (by unfold Bj;decide +kernel) (fun a b ha hb=>by
     rw[hsw];split
     ·exact hsz i b q1 hb
     ·split
      ·exact hsz _ b hrn hb
      ·exact hsz a b ha hb) (fun b hb=>by
     rw[hsw,if_pos rfl,hsw,if_pos rfl];have e:A6 M i b / A6 M i j=A6 M i b*d / (A6 M i j*d):=by
      have hne:=q2.2;grind
     rw[e];exact Z7 (d2 i b q1 hb) (d2 i j q1 (by omega)) fun h0=>by
      rcases Rat.mul_eq_zero.1 h0 with h'|h'
      ·exact q2.2 h'
      ·exact d0 h')
    cases hc:G0 (Cg M i ps.length) j ps.length with
    |none=>exact absurd hc this
    |some Y=>simp
  cases hz:Cn j (M,ps)with
  |none=>exact absurd hz hst
  |some z =>
   obtain⟨g1,g2⟩:=h2.step (by omega) hz;obtain⟨τ,g3⟩:=h4.step h2 (by omega) hz;refine⟨z,τ,by rw[Bq,h1];exact hz,g1,fun v=>(g2 v).trans (h3 v),g3,hsize g3 g1.len fun p hp=>by have:=g1.lt p hp;omega⟩
theorem R8 {n w:Nat} {X:List (List Rat)} (hX:Bf n w X) (hw:(Aj X 0).length=w) (hn:n≤19) (hA:∀a b,a<n→b<w→Fy 256 (A6 X a b)):∃z σ,E7 X=some z∧Hy n w X z σ:=by
 obtain⟨z,σ,h1,h2,h3,h4,h5⟩:=Q6 hX hn hA w (Nat.le_refl _);exact⟨z,σ,by unfold E7;rw[hw];exact h1,h2,h3,h4,h5⟩
end Go.Av
end
section
namespace Go.Av
open Go.Proofs
section
variable {n w:Nat} {X:List (List Rat)} {z:List (List Rat) × List Nat} {σ:Nat→Nat}
theorem Hy.indep (h:Hy n w X z σ) {c:Nat→Rat} (hc:∀b,b<w→Bd z.2.length (fun l=>c l*A6 X (σ l) b)=0):∀l,l<z.2.length→c l=0:=by
 intro l hl;obtain⟨r,hr⟩:∃r,z.2.length=r:=⟨_,rfl⟩;have hdet:=h.bare.det;rw[hr]at hdet hl hc;rw[←Qa]at hdet;have:=Ql1 hdet (u:=fun a=>c (r-1-a)) (fun b hb=>by
  have h1:=hc (z.2.getD (r-1-b) 0) (h.rref.lt _ (Gt (by omega)));rw[P2]at h1;rw[←h1];unfold D7 Tw Jb;rw[hr];exact A2 fun a ha=>by grind) (r-1-l) (by omega)
 rwa [show r-1-(r-1-l)=l by omega]at this
theorem Hy.rep (h:Hy n w X z σ) {a b:Nat} (ha:a<n) (hb:b<w):A6 X (σ a) b=Bd z.2.length fun m=>A6 X (σ a) (z.2.getD m 0)*A6 z.1 m b:=by
 have h1:=h.bare.rep a b ha hb;by_cases hlt:a<z.2.length
 ·rw[if_pos hlt]at h1;rw[h1];grind
 ·rw[if_neg hlt,h.rref.zer a ha b hb (fun h'=>absurd h' hlt)]at h1;rw[h1];grind
theorem Hy.dep (h:Hy n w X z σ) (hlt:z.2.length<n):∃c:Nat→Rat,(∃a,a<n∧c a≠0)∧∀b,b<w→Bd n (fun a=>c a*A6 X (σ a) b)=0:=by
 obtain⟨u,h1,h2⟩:=Qh z.2.length n (fun m a=>A6 X (σ a) (z.2.getD m 0)) hlt;refine⟨u,h1,fun b hb=>?_⟩;have e:Bd n (fun a=>u a*A6 X (σ a) b)=Bd n fun a=>Bd z.2.length fun m=>u a*(A6 X (σ a) (z.2.getD m 0)*A6 z.1 m b):=A2 fun a ha=>by
  rw[h.rep ha hb,←Dj]
 rw[e,Nz];refine Hb fun m hm=>?_;have e2:Bd n (fun a=>u a*(A6 X (σ a) (z.2.getD m 0)*A6 z.1 m b))=A6 z.1 m b*Bd n fun a=>A6 X (σ a) (z.2.getD m 0)*u a:=by
  rw[←Dj];exact A2 fun a _=>by grind
 rw[e2,h2 m hm];grind
theorem Ia.inj {Y:List (List Rat)} {ps:List Nat} (h:Ia n w w Y ps) {v:Nat→Rat} (hv:Hv n w Y v) (h0:∀l,l<w→l ∉ ps→v l=0):∀l,l<w→v l=0:=by
 intro l hl;by_cases hm:l∈ps
 ·obtain⟨k,hk,rfl⟩:=List.getElem_of_mem hm;have hpk:ps.getD k 0=ps[k]:=by rw[List.getD_eq_getElem?_getD,List.getElem?_eq_getElem hk];rfl
  have h1:=hv k (Nat.lt_of_lt_of_le hk h.len);unfold D7 at h1;rw[B3 hl fun i hi hne=>by
   by_cases him:i∈ps
   ·obtain⟨k',hk',rfl⟩:=List.getElem_of_mem him;have hpk':ps.getD k' 0=ps[k']:=by rw[List.getD_eq_getElem?_getD,List.getElem?_eq_getElem hk'];rfl
    have h2:=h.one k' hk' k (Nat.lt_of_lt_of_le hk h.len);rw[hpk']at h2;rw[h2,if_neg (fun e=>hne (by subst e;rfl))];grind
   ·rw[h0 i hi him];grind]at h1
  have h2:=h.one k hk k (Nat.lt_of_lt_of_le hk h.len);rw[hpk,if_pos rfl]at h2;rw[h2]at h1;grind
 ·exact h0 l hl hm
def Y9 (w:Nat) (ps:List Nat):List Nat:=(List.range w).filter fun i=>decide (i ∉ ps)
theorem Zw {ps:List Nat} {i:Nat}:i∈Y9 w ps↔i<w∧i ∉ ps:=by simp[Y9]
theorem Lh {Y:List (List Rat)} {ps:List Nat} (h:Ia n w w Y ps):(Y9 w ps).length+ps.length=w:=by
 have:=h.count;unfold Hc at this;rw[List.length_map]at this;exact this
theorem Ia.full {Y:List (List Rat)} {ps:List Nat} (h:Ia n w w Y ps) {v:Nat→Rat} (hv:Hv n w Y v) (hl:ps.length=w):∀l,l<w→v l=0:=by
 have hf:=Lh h;have h0:Y9 w ps=[]:=List.length_eq_zero_iff.1 (by omega);refine h.inj hv fun l hl hm=>?_;have:l∈Y9 w ps:=Zw.2 ⟨hl,hm⟩;rw[h0]at this;cases this
theorem Ia.few {Y:List (List Rat)} {ps:List Nat} (h:Ia n w w Y ps) {k:Nat} {V:Nat→Nat→Rat} (hV:∀i,i<k→Hv n w Y (V i)) (hi:∀c:Nat→Rat,(∀l,l<w→Bd k (fun i=>c i*V i l)=0)→∀i,i<k→c i=0):k+ps.length≤w:=by
 have hf:=Lh h;rcases Nat.lt_or_ge w (k+ps.length)with hlt | hge
 ·exfalso
  obtain⟨c,⟨i,hik,hne⟩,h2⟩:=Qh (Y9 w ps).length k (fun m i=>V i ((Y9 w ps).getD m 0)) (by omega);refine hne (hi c (fun l hl=>?_) i hik);refine h.inj (v:=fun l=>Bd k fun i=>c i*V i l) (fun a ha=>?_) (fun l hl hm=>?_) l hl
  ·have e:D7 w (A6 Y a) (fun l=>Bd k fun i=>c i*V i l)=Bd k fun i=>c i*D7 w (A6 Y a) (V i):=by
    unfold D7;have e1:Bd w (fun l=>A6 Y a l*Bd k fun i=>c i*V i l)=Bd w fun l=>Bd k fun i=>A6 Y a l*(c i*V i l):=A2 fun l _=>by rw[Dj]
    rw[e1,Nz];refine A2 fun i _=>?_;rw[←Dj];exact A2 fun l _=>by grind
   rw[e];exact Hb fun i hi'=>by rw[hV i hi' a ha];grind
  ·obtain⟨m,hm',e⟩:=List.getElem_of_mem (Zw.2 ⟨hl,hm⟩);have h3:=h2 m hm';rw[List.getD_eq_getElem?_getD,List.getElem?_eq_getElem hm']at h3;simp only[Option.getD_some,e]at h3;show Bd k (fun i=>c i*V i l)=0
   rw[←h3];exact A2 fun i _=>by grind
 ·exact hge
theorem Qaf {Y:List (List Rat)} {ps:List Nat} (h:Ia n w w Y ps) {j i:Nat} (hj:j<w) (hi:i<w) (him:i ∉ ps):Ba (I2 Y ps w j) i=if i=j then 1 else 0:=by
 unfold I2;rw[Re (fun p hp=>by simp;exact h.lt p hp) ps.length (Nat.le_refl _) fun k hk e=>him (by rw[←e];exact Gt hk),Fl (by simpa using hj)];split
 ·rfl
 ·unfold Ba;rw[List.getD_eq_getElem?_getD,List.getElem?_replicate];split<;>rfl
theorem Ia.many {Y:List (List Rat)} {ps:List Nat} (h:Ia n w w Y ps) {q:Nat} (hq:q+1+ps.length≤w) (P:Nat→Nat→Rat):∃v:Nat→Rat,Hv n w Y v∧(∃l,l<w∧v l≠0)∧∀i,i<q→D7 w (P i) v=0:=by
 have hf:=Lh h;have hg:∀m,m<q+1→∃j,(Y9 w ps).getD m 0=j∧j<w∧j ∉ ps:=fun m hm=>by
  have hm':m<(Y9 w ps).length:=by omega
  refine⟨_,rfl,?_⟩;have:=List.getElem_mem hm';rw[List.getD_eq_getElem?_getD,List.getElem?_eq_getElem hm'];exact Zw.1 this
 have hnd:(Y9 w ps).Nodup:=List.nodup_range.filter _;obtain⟨c,⟨m,hm,hne⟩,h2⟩:=Qh q (q+1) (fun i m=>D7 w (P i) (Ba (I2 Y ps w ((Y9 w ps).getD m 0)))) (by omega);have lin:∀R:Nat→Rat,D7 w R (fun l=>Bd (q+1) fun m=>c m*Ba (I2 Y ps w ((Y9 w ps).getD m 0)) l)=Bd (q+1) fun m=>c m*D7 w R (Ba (I2 Y ps w ((Y9 w ps).getD m 0))):=fun R=>by
  unfold D7;have e1:Bd w (fun l=>R l*Bd (q+1) fun m=>c m*Ba (I2 Y ps w ((Y9 w ps).getD m 0)) l)=Bd w fun l=>Bd (q+1) fun m=>R l*(c m*Ba (I2 Y ps w ((Y9 w ps).getD m 0)) l):=A2 fun l _=>by rw[Dj]
  rw[e1,Nz];refine A2 fun i _=>?_;rw[←Dj];exact A2 fun l _=>by grind
 refine⟨fun l=>Bd (q+1) fun m=>c m*Ba (I2 Y ps w ((Y9 w ps).getD m 0)) l,fun a ha=>?_,?_,fun i hi=>?_⟩
 ·rw[lin];refine Hb fun m hm=>?_;obtain⟨j,hj,j1,j2⟩:=hg m hm;rw[hj,h.ker j1 j2 a ha];grind
 ·obtain⟨j,hj,j1,j2⟩:=hg m hm;refine⟨j,j1,?_⟩;show Bd (q+1) (fun m=>c m*Ba (I2 Y ps w ((Y9 w ps).getD m 0)) j)≠0
  rw[B3 hm fun i hi' hne'=>by
   obtain⟨j',hj',j1',j2'⟩:=hg i hi';show c i*Ba (I2 Y ps w ((Y9 w ps).getD i 0)) j=0
   rw[hj',Qaf h j1' j1 j2,if_neg]
   ·grind
   ·intro e;rw[←hj,←hj']at e;have hm1:m<(Y9 w ps).length:=by omega
    have hi1:i<(Y9 w ps).length:=by omega
    rw[List.getD_eq_getElem?_getD,List.getD_eq_getElem?_getD,List.getElem?_eq_getElem hm1,List.getElem?_eq_getElem hi1]at e;simp only[Option.getD_some]at e;rcases Nat.lt_or_ge m i with h' | h'
    ·exact List.pairwise_iff_getElem.1 hnd m i hm1 hi1 h' e
    ·exact List.pairwise_iff_getElem.1 hnd i m hi1 hm1 (by omega) e.symm]
  rw[hj,Qaf h j1 j1 j2,if_pos rfl];grind
 ·rw[lin,←h2 i hi];exact A2 fun m _=>by grind
end
end Go.Av
end
section
namespace Go.Lam
abbrev Ed:=Nat × Nat
def ins (X:Nat→Bool) (e:Ed):Bool:=X e.1&&X e.2
def spn (L:List Ed) (X:Nat→Bool):Nat:=L.countP (ins X)
def sz (n:Nat) (X:Nat→Bool):Nat:=(List.range n).countP X
def Bk (n:Nat) (L:List Ed):Prop:=∀X,2≤sz n X→spn L X+3≤2*sz n X
def Eh (n:Nat) (L:List Ed) (X:Nat→Bool):Prop:=2≤sz n X∧spn L X+3=2*sz n X
def Ec (n:Nat) (e:Ed):Prop:=e.1<n∧e.2<n∧e.1≠e.2
def uni (X Y:Nat→Bool):Nat→Bool:=fun v=>X v || Y v
def cap (X Y:Nat→Bool):Nat→Bool:=fun v=>X v&&Y v
def Fw (a b:Nat):Nat→Bool:=fun v=>v==a || v==b
theorem Zc {α:Type} (l:List α) (p q:α→Bool):l.countP (fun a=>p a || q a)+l.countP (fun a=>p a&&q a)=l.countP p+l.countP q:=by
 induction l with
 |nil=>rfl
 |cons a l ih=>simp only[List.countP_cons];cases p a<;>cases q a<;>simp<;>omega
theorem Qhn (n:Nat) (X Y:Nat→Bool):sz n (uni X Y)+sz n (cap X Y)=sz n X+sz n Y:=Zc _ X Y
theorem countP_le {α:Type} {l:List α} {p q:α→Bool} (h:∀a∈l,p a=true→q a=true):l.countP p≤l.countP q:=List.countP_mono_left h
theorem Qtr (L:List Ed) (X Y:Nat→Bool):spn L X+spn L Y≤spn L (uni X Y)+spn L (cap X Y):=by
 have h:=Zc L (ins X) (ins Y);have h1:L.countP (fun a=>ins X a || ins Y a)≤spn L (uni X Y):=countP_le (fun e _=>by simp only[ins,uni];cases X e.1<;>cases X e.2<;>cases Y e.1<;>cases Y e.2<;>simp)
 have h2:L.countP (fun a=>ins X a&&ins Y a)≤spn L (cap X Y):=countP_le (fun e _=>by simp only[ins,cap];cases X e.1<;>cases X e.2<;>cases Y e.1<;>cases Y e.2<;>simp)
 unfold spn at *;omega
theorem Qlu {n:Nat} {L:List Ed} (hs:Bk n L) {X Y:Nat→Bool} (hx:Eh n L X) (hy:Eh n L Y) (hc:2≤sz n (cap X Y)):Eh n L (uni X Y)∧Eh n L (cap X Y):=by
 have h1:=Qhn n X Y;have h2:=Qtr L X Y;have h3:=hs _ hc;obtain⟨a1,a2⟩:=hx;obtain⟨b1,b2⟩:=hy;have hu:2≤sz n (uni X Y):=by
  have:sz n X≤sz n (uni X Y):=countP_le (fun v _ h=>by simp[uni,h]);omega
 have h4:=hs _ hu;exact⟨⟨hu,by omega⟩,⟨hc,by omega⟩⟩
theorem Qri (n:Nat) (X:Nat→Bool):sz n X≤n:=by
 have:=List.countP_le_length (p:=X) (l:=List.range n);simpa[sz]using this
theorem T9 {n:Nat} {X Y:Nat→Bool} (h:∀v,v<n→X v=true→Y v=true):sz n X≤sz n Y:=countP_le (fun v hv=>h v (List.mem_range.1 hv))
theorem Qa5 {n:Nat} {X Y:Nat→Bool} (h:∀v,v<n→X v=Y v):sz n X=sz n Y:=List.countP_congr (fun v hv=>by rw[h v (List.mem_range.1 hv)])
theorem Y5 {n:Nat} {L:List Ed} (hL:∀e∈L,Ec n e) {X Y:Nat→Bool} (h:∀v,v<n→X v=Y v):spn L X=spn L Y:=List.countP_congr (fun e he=>by
 obtain⟨h1,h2,_⟩:=hL e he;simp only[ins];rw[h _ h1,h _ h2])
theorem Qnp {n v:Nat} {X:Nat→Bool} (hv:v<n) (h:X v=true):1≤sz n X:=List.countP_pos_iff.2 ⟨v,List.mem_range.2 hv,h⟩
theorem Qcx (n v:Nat):(List.range n).count v=if v<n then 1 else 0:=by
 split
 ·rename_i h
  exact List.nodup_range.count (a:=v) |>.trans (by simp[h])
 ·rename_i h
  exact List.count_eq_zero.2 (by simpa using h)
theorem Nt (n a:Nat) (ha:a<n):sz n (fun v=>v==a)=1:=by
 have:=Qcx n a;rw[if_pos ha]at this;exact this
theorem Qhp {n a b:Nat} (ha:a<n) (hb:b<n) (h:a≠b):sz n (Fw a b)=2:=by
 have h1:=Qhn n (fun v=>v==a) (fun v=>v==b);rw[Nt n a ha,Nt n b hb]at h1;have:sz n (cap (fun v=>v==a) (fun v=>v==b))=0:=by
  refine List.countP_eq_zero.2 fun v _=>?_;simp only[cap,Bool.and_eq_true,beq_iff_eq];rintro⟨rfl,h'⟩;exact h h'
 rw[this]at h1;exact h1
theorem Zv {n a b:Nat} {X:Nat→Bool} (ha:a<n) (hb:b<n) (h:a≠b) (h1:X a=true) (h2:X b=true):2≤sz n X:=by
 rw[←Qhp ha hb h];refine T9 fun v _ hv=>?_;simp only[Fw,Bool.or_eq_true,beq_iff_eq]at hv;rcases hv with rfl | rfl<;>assumption
theorem Qjw {n a b:Nat} {X:Nat→Bool} (h:sz n X≤1) (ha:a<n) (hb:b<n) (h1:X a=true) (h2:X b=true):a=b:=by
 rcases Nat.decEq a b with h'|h'
 ·have:=Zv ha hb h' h1 h2;omega
 ·exact h'
theorem Ui {n:Nat} {L:List Ed} (hL:∀e∈L,Ec n e) {X:Nat→Bool} (h:sz n X≤1):spn L X=0:=by
 refine List.countP_eq_zero.2 fun e he hx=>?_;obtain⟨h1,h2,h3⟩:=hL e he;simp only[ins,Bool.and_eq_true]at hx;exact h3 (Qjw h h1 h2 hx.1 hx.2)
theorem Us (e:Ed) (L:List Ed) (X:Nat→Bool):spn (e::L) X=spn L X+if ins X e=true then 1 else 0:=List.countP_cons
theorem Lq (L M:List Ed) (X:Nat→Bool):spn (L++M) X=spn L X+spn M X:=List.countP_append
theorem Qnc {L M:List Ed} (h:L.Perm M) (X:Nat→Bool):spn L X=spn M X:=h.countP_eq _
theorem Bk.perm {n:Nat} {L M:List Ed} (h:L.Perm M) (hs:Bk n L):Bk n M:=fun X hX=>by rw[←Qnc h];exact hs X hX
theorem Bk.sub {n:Nat} {L M:List Ed} (h:∀X,spn L X≤spn M X) (hs:Bk n M):Bk n L:=fun X hX=>by
 have:=h X;have:=hs X hX;omega
theorem Vz {n:Nat} {L:List Ed} (hs:Bk n L) (e:Ed):Bk n (L++[e])↔∀X,Eh n L X→ins X e=false:=by
 constructor
 ·intro h X hX;cases hi:ins X e with
  |false=>rfl
  |true =>
   have h1:=h X hX.1;rw[Lq,Us,hi]at h1;simp[spn]at h1;have:=hX.2;unfold spn at this;omega
 ·intro h X hX;rw[Lq,Us];have h1:=hs X hX;cases hi:ins X e with
  |false=>simp[spn]at *;omega
  |true =>
   have:spn L X+3≠2*sz n X:=fun e'=>by rw[h X ⟨hX,e'⟩]at hi;cases hi
   simp[spn]at *;omega
end Go.Lam
end
section
namespace Go.Lam
def sm (n:Nat) (f:Nat→Nat):Nat:=((List.range n).map f).sum
theorem Ny (n:Nat) (f:Nat→Nat):sm (n+1) f=sm n f+f n:=by simp[sm,List.range_succ]
theorem Zd {n:Nat} {f g:Nat→Nat} (h:∀v,v<n→f v≤g v):sm n f≤sm n g:=by
 induction n with
 |zero=>simp[sm]
 |succ n ih=>rw[Ny,Ny];have:=ih (fun v hv=>h v (by omega));have:=h n (by omega);omega
theorem I7 {n:Nat} {f g:Nat→Nat} (h:∀v,v<n→f v=g v):sm n f=sm n g :=
 Nat.le_antisymm (Zd fun v hv=>Nat.le_of_eq (h v hv)) (Zd fun v hv=>Nat.le_of_eq (h v hv).symm)
theorem Lo (n:Nat) (f g:Nat→Nat):sm n (fun v=>f v+g v)=sm n f+sm n g:=by
 induction n with
 |zero=>rfl
 |succ n ih=>simp only[Ny];omega
theorem Qga (n:Nat) (X:Nat→Bool):sm n (fun v=>if X v=true then 2 else 0)=2*sz n X:=by
 induction n with
 |zero=>rfl
 |succ n ih=>rw[Ny,ih];simp only[sz,List.range_succ,List.countP_append,List.countP_cons,List.countP_nil];split<;>omega
theorem Oj {n a:Nat} (ha:a<n) (c:Nat):sm n (fun v=>if v=a then c else 0)=c:=by
 induction n with
 |zero=>omega
 |succ n ih =>
  rw[Ny];by_cases h:n=a
  ·subst h;have:sm n (fun v=>if v=n then c else 0)=0:=by
    have:=I7 (n:=n) (f:=fun v=>if v=n then c else 0) (g:=fun _=>0) (fun v hv=>by simp;omega);rw[this];clear this;clear ha ih;induction n with
    |zero=>rfl
    |succ n ih=>rw[Ny,ih]
   simp[this]
  ·rw[ih (by omega)];simp[h]
structure Inv (n:Nat) (E:Nat→Ed) (A:List Nat) (fr:Nat→Nat) (cv:Nat→List Nat):Prop where
 two:∀v,v<n→fr v+(cv v).length=2
 perm:((List.range n).flatMap cv).Perm A
 ends:∀v,v<n→∀e∈cv v,(E e).1=v∨(E e).2=v
 ok:∀e∈A,Ec n (E e)
def Xa (n:Nat) (fr:Nat→Nat) (X:Nat→Bool):Nat:=sm n fun v=>if X v=true then fr v else 0
section
variable {n:Nat} {E:Nat→Ed} {A:List Nat} {fr:Nat→Nat} {cv:Nat→List Nat}
theorem Inv.mem (h:Inv n E A fr cv) {v e:Nat} (hv:v<n) (he:e∈cv v):e∈A:=h.perm.mem_iff.1 (List.mem_flatMap.2 ⟨v,List.mem_range.2 hv,he⟩)
theorem Inv.okAt (h:Inv n E A fr cv) {v e:Nat} (hv:v<n) (he:e∈cv v):Ec n (E e):=h.ok e (h.mem hv he)
def G4 (E:Nat→Ed) (e j:Nat):Nat:=(E e).1+(E e).2-j
theorem Inv.oth_lt (h:Inv n E A fr cv) {v e:Nat} (hv:v<n) (he:e∈cv v):G4 E e v<n∧G4 E e v≠v:=by
 obtain⟨h1,h2,h3⟩:=h.okAt hv he;unfold G4;rcases h.ends v hv e he with h4|h4<;>omega
theorem Inv.ins_iff (h:Inv n E A fr cv) {v e:Nat} (hv:v<n) (he:e∈cv v) (X:Nat→Bool):ins X (E e)=(X v&&X (G4 E e v)):=by
 obtain⟨h1,h2,h3⟩:=h.okAt hv he;unfold G4 ins;rcases h.ends v hv e he with h4|h4
 ·rw[show(E e).1+(E e).2-v=(E e).2 by omega,h4]
 ·rw[show(E e).1+(E e).2-v=(E e).1 by omega,h4,Bool.and_comm]
theorem Inv.spn (h:Inv n E A fr cv) (X:Nat→Bool):spn (A.map E) X=sm n fun v=>(cv v).countP fun e=>ins X (E e):=by
 have e1:Lam.spn (A.map E) X=A.countP fun e=>ins X (E e):=by simp[Lam.spn,List.countP_map,Function.comp_def]
 rw[e1,←h.perm.countP_eq,List.countP_flatMap];rfl
theorem Inv.le (h:Inv n E A fr cv) (X:Nat→Bool):Lam.spn (A.map E) X+Xa n fr X≤2*sz n X:=by
 rw[h.spn,Xa,←Lo,←Qga];refine Zd fun v hv=>?_;have h2:=h.two v hv;have hl:=List.countP_le_length (p:=fun e=>ins X (E e)) (l:=cv v);cases hx:X v with
 |true=>simp;omega
 |false =>
  have:(cv v).countP (fun e=>ins X (E e))=0:=List.countP_eq_zero.2 fun e he=>by rw[h.ins_iff hv he,hx];simp
  simp[this]
def Qh7 (n:Nat) (E:Nat→Ed) (cv:Nat→List Nat) (X:Nat→Bool):Prop:=∀v,v<n→X v=true→∀e∈cv v,X (G4 E e v)=true
theorem Inv.eq (h:Inv n E A fr cv) {X:Nat→Bool} (hs:Qh7 n E cv X):Lam.spn (A.map E) X+Xa n fr X=2*sz n X:=by
 rw[h.spn,Xa,←Lo,←Qga];refine I7 fun v hv=>?_;have h2:=h.two v hv;cases hx:X v with
 |true =>
  have:(cv v).countP (fun e=>ins X (E e))=(cv v).length:=List.countP_eq_length.2 fun e he=>by rw[h.ins_iff hv he,hx,hs v hv hx e he];rfl
  simp[this];omega
 |false =>
  have:(cv v).countP (fun e=>ins X (E e))=0:=List.countP_eq_zero.2 fun e he=>by rw[h.ins_iff hv he,hx];simp
  simp[this]
theorem Inv.shut (h:Inv n E A fr cv) {X:Nat→Bool} (he:2*sz n X≤Lam.spn (A.map E) X+Xa n fr X):Qh7 n E cv X:=by
 intro v hv hx e hm;rcases Bool.eq_false_or_eq_true (X (G4 E e v))with h1 | h1
 ·exact h1
 ·exfalso
  have key:∀w,w<n→((cv w).countP fun e=>ins X (E e))+(if X w=true then fr w else 0)≤if X w=true then 2 else 0:=by
   intro w hw;have h2:=h.two w hw;have hl:=List.countP_le_length (p:=fun e=>ins X (E e)) (l:=cv w);cases hx:X w with
   |true=>simp;omega
   |false =>
    have:(cv w).countP (fun e=>ins X (E e))=0:=List.countP_eq_zero.2 fun e he=>by rw[h.ins_iff hw he,hx];simp
    simp[this]
  have strict:sm n (fun w=>((cv w).countP fun e=>ins X (E e))+(if X w=true then fr w else 0))+1≤sm n fun w=>if X w=true then 2 else 0:=by
   rw[←Oj hv 1,←Lo];refine Zd fun w hw=>?_;by_cases hwv:w=v
   ·subst hwv;have h2:=h.two w hw;have:(cv w).countP (fun e=>ins X (E e))<(cv w).length:=by
     rcases Nat.lt_or_ge ((cv w).countP fun e=>ins X (E e)) (cv w).length with h3 | h3
     ·exact h3
     ·have:=List.countP_eq_length.1 (Nat.le_antisymm List.countP_le_length h3) e hm;rw[h.ins_iff hw hm,h1]at this;simp at this
    simp[hx];omega
   ·simp only[hwv,if_false];exact key w hw
  rw[Qga,Lo,←h.spn]at strict;unfold Xa at he;omega
theorem Qnn {X Y:Nat→Bool} (h:∀v,v<n→X v=true→Y v=true):Xa n fr X≤Xa n fr Y:=Zd fun v hv=>by
 cases hx:X v with
 |true=>simp[h v hv hx]
 |false=>simp
theorem Qq {a b:Nat} (ha:a<n) (hb:b<n) (hab:a≠b):Xa n fr (Fw a b)=fr a+fr b:=by
 rw[←Oj ha (fr a),←Oj hb (fr b),←Lo];refine I7 fun v _=>?_;simp only[Fw,Bool.or_eq_true,beq_iff_eq];by_cases h1:v=a
 ·subst h1;simp[hab]
 ·by_cases h2:v=b
  ·subst h2;simp[h1]
  ·simp[h1,h2]
theorem U9 {a:Nat} (ha:a<n):Xa n fr (fun v=>v==a)=fr a:=by
 rw[←Oj ha (fr a)];exact I7 fun v _=>by by_cases h:v=a<;>simp[h]
theorem Qbb {X Y:Nat→Bool} (h:∀v,v<n→X v=true→Y v=false→fr v=0) (hy:∀v,v<n→Y v=true→X v=true):Xa n fr X=Xa n fr Y:=I7 fun v hv=>by
 cases hx:X v with
 |true=>cases hyv:Y v with
  |true=>rfl
  |false=>simp[h v hv hx hyv]
 |false=>cases hyv:Y v with
  |true=>rw[hy v hv hyv]at hx;cases hx
  |false=>rfl
theorem Inv.first (h:Inv n E A fr cv) (hs:Bk n (A.map E)) {a:Nat} (ha:a<n) {X:Nat→Bool} (hX:Qh7 n E cv X) (hXa:X a=true) (hz:∀v,v<n→X v=true→v≠a→fr v=0):2≤fr a:=by
 have e1:=h.eq hX;have e2:Xa n fr X=fr a:=by
  rw[←U9 (n:=n) (fr:=fr) ha];exact Qbb (fun v hv hx hy=>hz v hv hx (by simpa using hy)) (fun v _ hv=>by simp at hv;rw[hv];exact hXa)
 rcases Nat.lt_or_ge (sz n X) 2 with h1|h1
 ·have h0:Lam.spn (A.map E) X=0:=Ui (n:=n) (fun e he=>by
   obtain⟨k,hk,rfl⟩:=List.mem_map.1 he;exact h.ok k hk) (by omega)
  have:=Qnp ha hXa;omega
 ·have:=hs X h1;omega
theorem Inv.second (h:Inv n E A fr cv) (hs:Bk n (A.map E)) {a b:Nat} (ha:a<n) (hb:b<n) (hab:a≠b) (h2:fr a=2) {X:Nat→Bool} (hX:Qh7 n E cv X) (hXa:X a=true) (hXb:X b=true)
  (hz:∀v,v<n→X v=true→v≠a→v≠b→fr v=0) (hlt:fr b<2):fr b=1∧Eh n (A.map E) X:=by
 have e1:=h.eq hX;have e2:Xa n fr X=fr a+fr b:=by
  rw[←Qq (n:=n) (fr:=fr) ha hb hab];refine Qbb (fun v hv hx hy=>?_) (fun v _ hv=>?_)
  ·simp only[Fw,Bool.or_eq_false_iff,beq_eq_false_iff_ne]at hy;exact hz v hv hx hy.1 hy.2
  ·simp only[Fw,Bool.or_eq_true,beq_iff_eq]at hv;rcases hv with rfl | rfl<;>assumption
 have h3:=Zv ha hb hab hXa hXb;have:=hs X h3;exact⟨by omega,h3,by omega⟩
theorem Inv.four (h:Inv n E A fr cv) {a b:Nat} (ha:a<n) (hb:b<n) (hab:a≠b) (h4:fr a+fr b=4) (X:Nat→Bool) (hXa:X a=true) (hXb:X b=true):¬Eh n (A.map E) X:=by
 intro ht;have e1:=h.le X;have e2:Xa n fr (Fw a b)≤Xa n fr X:=Qnn fun v _ hv=>by
  simp only[Fw,Bool.or_eq_true,beq_iff_eq]at hv;rcases hv with rfl | rfl<;>assumption
 rw[Qq ha hb hab]at e2;have:=ht.2;omega
end
end Go.Lam
end
section
namespace Go.Lam
def Ct (m:Nat):Nat→Bool:=fun v=>m.testBit v
theorem Mw (n:Nat) (X:Nat→Bool):∃m,m<2^n∧∀v,v<n→Ct m v=X v:=by
 induction n with
 |zero=>exact⟨0,by simp,fun v hv=>by omega⟩
 |succ n ih =>
  obtain⟨m,h1,h2⟩:=ih;cases hx:X n with
  |false =>
   refine⟨m,by rw[Nat.pow_succ];omega,fun v hv=>?_⟩;by_cases hvn:v=n
   ·subst hvn;rw[hx];exact Nat.testBit_lt_two_pow h1
   ·exact h2 v (by omega)
  |true =>
   refine⟨2^n+m,by rw[Nat.pow_succ];omega,fun v hv=>?_⟩;unfold Ct;by_cases hvn:v=n
   ·subst hvn;rw[hx,Nat.testBit_two_pow_add_eq,Nat.testBit_lt_two_pow h1];rfl
   ·rw[Nat.testBit_two_pow_add_gt (by omega)];exact h2 v (by omega)
def Oi (n:Nat) (L:List Ed):Bool:=(List.range (2^n)).all fun m=>!(decide (2≤sz n (Ct m))&&decide (2*sz n (Ct m)<spn L (Ct m)+3))
theorem I0 {n:Nat} {L:List Ed} (hL:∀e∈L,Ec n e):Oi n L=true↔Bk n L:=by
 unfold Oi;rw[List.all_eq_true];constructor
 ·intro h X hX;obtain⟨m,h1,h2⟩:=Mw n X;have h3:=h m (List.mem_range.2 h1);rw[Qa5 h2,Y5 hL h2]at h3;simp only[Bool.not_eq_true',Bool.and_eq_false_iff,decide_eq_false_iff_not]at h3;omega
 ·intro h m _;simp only[Bool.not_eq_true',Bool.and_eq_false_iff,decide_eq_false_iff_not];have:=h (Ct m);omega
def Kd (n:Nat) (E:Nat→Ed) (out:List Nat) (e:Nat):List Nat:=if Oi n ((out++[e]).map E)=true then out++[e] else out
def Ch (n:Nat) (E:Nat→Ed) (out s:List Nat):List Nat:=s.foldl (Kd n E) out
theorem Bk.nil (n:Nat):Bk n []:=fun X hX=>by simp[spn];omega
theorem Bk.append_left {n:Nat} {L M:List Ed} (h:Bk n (L++M)):Bk n L:=h.sub fun X=>by rw[Lq];omega
theorem Bk.sublist {n:Nat} {L M:List Ed} (h:L.Sublist M) (hs:Bk n M):Bk n L:=hs.sub fun _=>h.countP_le
section
variable {n:Nat} {E:Nat→Ed}
theorem Qc7 {out:List Nat} {e:Nat} (ho:∀k∈out,Ec n (E k)) (he:Ec n (E e)) (hs:Bk n (out.map E)):Bk n ((Kd n E out e).map E):=by
 unfold Kd;split
 ·rename_i h
  exact(I0 (by simp only[List.mem_map,List.mem_append,List.mem_singleton];rintro _ ⟨k,hk | rfl,rfl⟩;exact ho k hk;exact he)).1 h
 ·exact hs
theorem Qco {out:List Nat} {e k:Nat} (h:k∈Kd n E out e):k∈out∨k=e:=by
 unfold Kd at h;split at h
 ·simpa using h
 ·exact .inl h
theorem Sw (out:List Nat) (e:Nat) (s:List Nat):Ch n E out (e::s)=Ch n E (Kd n E out e) s:=rfl
theorem Xq (out s t:List Nat):Ch n E out (s++t)=Ch n E (Ch n E out s) t:=by simp[Ch]
theorem O8 {k:Nat}:∀{s out:List Nat},k∈Ch n E out s→k∈out∨k∈s
 |[],_,h=>.inl h
 |e::s,out,h=>by
  rcases O8 (s:=s) h with h1|h1
  ·rcases Qco h1 with h2|h2
   ·exact .inl h2
   ·exact .inr (by simp[h2])
  ·exact .inr (by simp[h1])
theorem Hj:∀{s out:List Nat},(∀k∈out,Ec n (E k))→(∀k∈s,Ec n (E k))→Bk n (out.map E)→Bk n ((Ch n E out s).map E)
 |[],_,_,_,h=>h
 |e::s,out,ho,hs,h=>Hj (s:=s) (fun k hk=>by
   rcases Qco hk with h2|h2
   ·exact ho k h2
   ·rw[h2];exact hs e (by simp)) (fun k hk=>hs k (by simp[hk])) (Qc7 ho (hs e (by simp)) h)
theorem Ou:∀(s out:List Nat),∃t,t.Sublist s∧Ch n E out s=out++t
 |[],out=>⟨[],.slnil,by simp[Ch]⟩
 |e::s,out=>by
  obtain⟨t,h1,h2⟩:=Ou s (Kd n E out e);rw[Sw,h2];unfold Kd;split
  ·exact⟨e::t,h1.cons₂ e,by simp⟩
  ·exact⟨t,h1.cons e,rfl⟩
theorem Uw:∀{s out:List Nat},(∀k∈out,Ec n (E k))→(∀k∈s,Ec n (E k))→Bk n ((out++s).map E)→Ch n E out s=out++s
 |[],out,_,_,_=>by simp[Ch]
 |e::s,out,ho,hs,h=>by
  have h1:Kd n E out e=out++[e]:=by
   unfold Kd;rw[if_pos];refine(I0 ?_).2 ?_
   ·simp only[List.mem_map,List.mem_append,List.mem_singleton];rintro _ ⟨k,hk | rfl,rfl⟩;exact ho k hk;exact hs _ (by simp)
   ·have:(out++e::s).map E=(out++[e]).map E++s.map E:=by simp
    rw[this]at h;exact h.append_left
  rw[Sw,h1,Uw (s:=s)]
  ·simp
  ·intro k hk;simp only[List.mem_append,List.mem_singleton]at hk;rcases hk with hk | rfl
   ·exact ho k hk
   ·exact hs _ (by simp)
  ·exact fun k hk=>hs k (by simp[hk])
  ·simpa using h
theorem Hh (s out:List Nat):(Ch n E out s).length≤out.length+s.length:=by
 obtain⟨t,h1,h2⟩:=Ou (n:=n) (E:=E) s out;rw[h2,List.length_append];have:=h1.length_le;omega
theorem Qa0 {s:List Nat} (hs:∀k∈s,Ec n (E k)):(Ch n E [] s).length=s.length↔Oi n (s.map E)=true:=by
 have hL:∀e∈s.map E,Ec n e:=by simp only[List.mem_map];rintro _ ⟨k,hk,rfl⟩;exact hs k hk
 constructor
 ·intro h;obtain⟨t,h1,h2⟩:=Ou (n:=n) (E:=E) s [];rw[h2]at h;have h3:t=s:=h1.eq_of_length (by simpa using h);have h4:=Hj (n:=n) (E:=E) (s:=s) (out:=[]) (by simp) hs (Bk.nil n);rw[h2,h3]at h4;exact(I0 hL).2 (by simpa using h4)
 ·intro h;rw[Uw (by simp) hs (by simpa using(I0 hL).1 h)];simp
end
end Go.Lam
end
section
namespace Go.Lam
def Qeq (n:Nat) (L:List Ed) (m:Nat):Bool:=decide (2≤sz n (Ct m))&&decide (spn L (Ct m)+3=2*sz n (Ct m))
theorem Qfv {n:Nat} {L:List Ed} {m:Nat}:Qeq n L m=true↔Eh n L (Ct m):=by simp[Qeq,Eh]
def Nd (n:Nat) (L:List Ed):List Nat:=(List.range (2^n)).filter (Qeq n L)
def blocks (n:Nat) (L:List Ed):List Nat:=(Nd n L).filter fun m=>(Nd n L).all fun k=>k==m || k &&& m != m
theorem Eh.congr {n:Nat} {L:List Ed} (hL:∀e∈L,Ec n e) {X Y:Nat→Bool} (h:∀v,v<n→X v=Y v) (ht:Eh n L X):Eh n L Y:=by
 unfold Eh at *;rw[←Qa5 h,←Y5 hL h];exact ht
theorem Qnw {m k:Nat}:k &&& m=m↔∀v,Ct m v=true→Ct k v=true:=by
 constructor
 ·intro h v hv;rw[←h]at hv;unfold Ct at *;rw[Nat.testBit_and]at hv;simp at hv;exact hv.1
 ·intro h;refine Nat.eq_of_testBit_eq fun v=>?_;rw[Nat.testBit_and];have:=h v;unfold Ct at this;cases h1:m.testBit v<;>cases h2:k.testBit v<;>simp_all
theorem Qp9 {n m:Nat} (h:m<2^n) {v:Nat} (hv:Ct m v=true):v<n:=by
 rcases Nat.lt_or_ge v n with h1|h1
 ·exact h1
 ·unfold Ct at hv;rw[Nat.testBit_lt_two_pow (Nat.lt_of_lt_of_le h (Nat.pow_le_pow_right (by omega) h1))]at hv;cases hv
theorem Ur {n m k:Nat} (hm:m<2^n) (hk:k<2^n) (h:∀v,v<n→Ct m v=Ct k v):m=k:=Nat.eq_of_testBit_eq fun v=>by
 rcases Nat.lt_or_ge v n with h1|h1
 ·exact h v h1
 ·rw[Nat.testBit_lt_two_pow (Nat.lt_of_lt_of_le hm (Nat.pow_le_pow_right (by omega) h1)),Nat.testBit_lt_two_pow (Nat.lt_of_lt_of_le hk (Nat.pow_le_pow_right (by omega) h1))]
theorem Qgm (m k:Nat):Ct (m ||| k)=uni (Ct m) (Ct k):=by funext v;simp[Ct,uni,Nat.testBit_or]
section
variable {n:Nat} {L:List Ed}
theorem Co {m:Nat}:m∈Nd n L↔m<2^n∧Eh n L (Ct m):=by simp[Nd,Qfv]
theorem Du {m:Nat}:m∈blocks n L↔m∈Nd n L∧∀k∈Nd n L,(∀v,Ct m v=true→Ct k v=true)→k=m:=by
 unfold blocks;rw[List.mem_filter,List.all_eq_true];refine and_congr_right fun _=>forall_congr' fun k=>forall_congr' fun _=>?_;rw[←Qnw];by_cases h1:k=m
 ·simp[h1]
 ·by_cases h2:k &&& m=m<;>simp[h1,h2]
theorem Kb (hL:∀e∈L,Ec n e) {X:Nat→Bool} (h:Eh n L X):∃m∈blocks n L,∀v,v<n→X v=true→Ct m v=true:=by
 suffices H:∀d,∀X,n≤sz n X+d→Eh n L X→∃m∈blocks n L,∀v,v<n→X v=true→Ct m v=true from H n X (by omega) h
 intro d
 induction d with
 |zero =>
  intro X hd hX;obtain⟨m,h1,h2⟩:=Mw n X;have ht:Eh n L (Ct m):=hX.congr hL fun v hv=>(h2 v hv).symm;refine⟨m,Du.2 ⟨Co.2 ⟨h1,ht⟩,fun k hk hs=>?_⟩,fun v hv hx=>by rw[h2 v hv];exact hx⟩;have full:∀v,v<n→X v=true:=fun v hv=>by
   rcases Bool.eq_false_or_eq_true (X v)with h3|h3
   ·exact h3
   ·have a1:=Qhn n X (fun w=>w==v);rw[Nt n v hv]at a1;have a2:sz n (cap X fun w=>w==v)=0:=List.countP_eq_zero.2 fun w _=>by
     simp only[cap,Bool.and_eq_true,beq_iff_eq];rintro⟨h4,rfl⟩;rw[h3]at h4;cases h4
    have:=Qri n (uni X fun w=>w==v);omega
  exact Ur (Co.1 hk).1 h1 fun v hv=>by
   have:=hs v (by rw[h2 v hv];exact full v hv);rw[this,h2 v hv,full v hv]
 |succ d ih =>
  intro X hd hX;obtain⟨m,h1,h2⟩:=Mw n X;have ht:Eh n L (Ct m):=hX.congr hL fun v hv=>(h2 v hv).symm;by_cases hm:m∈blocks n L
  ·exact⟨m,hm,fun v hv hx=>by rw[h2 v hv];exact hx⟩
  ·rw[Du]at hm;have hm':¬∀k∈Nd n L,(∀v,Ct m v=true→Ct k v=true)→k=m:=fun hc=>hm ⟨Co.2 ⟨h1,ht⟩,hc⟩;have ⟨k,hk⟩:=Classical.not_forall.1 hm';have ⟨hk1,hk2⟩:=Classical.not_imp.1 hk;have ⟨hk3,hk4⟩:=Classical.not_imp.1 hk2;obtain⟨hk5,hk6⟩:=Co.1 hk1;have hlt:sz n X<sz n (Ct k):=by
    have a1:sz n X≤sz n (Ct k):=T9 fun v hv hx=>hk3 v (by rw[h2 v hv];exact hx);rcases Nat.lt_or_ge (sz n X) (sz n (Ct k))with h3 | h3
    ·exact h3
    ·exfalso
     refine hk4 (Ur hk5 h1 fun v hv=>?_);rw[h2 v hv];cases hb:Ct k v with
     |false =>
      cases hx:X v with
      |false=>rfl
      |true=>rw[hk3 v (by rw[h2 v hv];exact hx)]at hb;cases hb
     |true =>
      cases hx:X v with
      |true=>rfl
      |false =>
       have b1:=Qhn n X (fun w=>w==v);rw[Nt n v hv]at b1;have b2:sz n (cap X fun w=>w==v)=0:=List.countP_eq_zero.2 fun w _=>by
        simp only[cap,Bool.and_eq_true,beq_iff_eq];rintro⟨h4,rfl⟩;rw[hx]at h4;cases h4
       have b3:sz n (uni X fun w=>w==v)≤sz n (Ct k):=T9 fun w hw h5=>by
        simp only[uni,Bool.or_eq_true,beq_iff_eq]at h5;rcases h5 with h5 | rfl
        ·exact hk3 w (by rw[h2 w hw];exact h5)
        ·exact hb
       omega
   obtain⟨m',h3,h4⟩:=ih (Ct k) (by omega) hk6;exact⟨m',h3,fun v hv hx=>h4 v hv (hk3 v (by rw[h2 v hv];exact hx))⟩
theorem Qs (hs:Bk n L) {m k:Nat} (hm:m∈blocks n L) (hk:k∈blocks n L) (h:2≤sz n (cap (Ct m) (Ct k))):m=k:=by
 obtain⟨hm1,hm2⟩:=Du.1 hm;obtain⟨hk1,hk2⟩:=Du.1 hk;have hu:=(Qlu hs (Co.1 hm1).2 (Co.1 hk1).2 h).1;rw[←Qgm]at hu;have hlt:m ||| k<2^n:=Nat.or_lt_two_pow (Co.1 hm1).1 (Co.1 hk1).1;have e1:=hm2 _ (Co.2 ⟨hlt,hu⟩) (fun v hv=>by rw[Qgm];simp[uni,hv]);have e2:=hk2 _ (Co.2 ⟨hlt,hu⟩) (fun v hv=>by rw[Qgm];simp[uni,hv]);exact e1.symm.trans e2
theorem Ij:(blocks n L).Nodup:=(List.nodup_range.filter _).filter _
theorem Lg (hL:∀e∈L,Ec n e) (hs:Bk n L) {e:Ed} (he:e∈L):Eh n L (Fw e.1 e.2):=by
 obtain⟨h1,h2,h3⟩:=hL e he;have h4:sz n (Fw e.1 e.2)=2:=Qhp h1 h2 h3;refine⟨by omega,?_⟩;have:=hs _ (Nat.le_of_eq h4.symm);have h5:0<spn L (Fw e.1 e.2):=List.countP_pos_iff.2 ⟨e,he,by simp[ins,Fw]⟩;omega
theorem U3 {α β:Type} (p:α→β→Bool) (J:List β):∀l:List α,(l.map fun m=>J.countP (p m)).sum=(J.map fun e=>l.countP fun m=>p m e).sum
 |[]=>by
  simp only[List.map_nil,List.sum_nil,List.countP_nil]
  induction J with
  |nil=>rfl
  |cons a J ih=>rw[List.map_cons,List.sum_cons,←ih];rfl
 |a::l=>by
  rw[List.map_cons,List.sum_cons,U3 p J l]
  induction J with
  |nil=>rfl
  |cons b J ih=>simp only[List.countP_cons,List.map_cons,List.sum_cons]at *;omega
theorem Oe {α:Type} {p:α→Bool}:∀{l:List α},l.Nodup→(∀a∈l,∀b∈l,p a=true→p b=true→a=b)→l.countP p≤1
 |[],_,_=>by simp
 |a::l,hn,h=>by
  rw[List.nodup_cons]at hn;rw[List.countP_cons];cases hp:p a with
  |false=>simp;exact Oe hn.2 fun x hx y hy=>h x (by simp[hx]) y (by simp[hy])
  |true =>
   have:l.countP p=0:=List.countP_eq_zero.2 fun b hb hpb=>hn.1 (by rw[h a (by simp) b (by simp[hb]) hp hpb];exact hb);simp[this]
theorem K5 {α:Type} {f g:α→Nat}:∀{l:List α},(∀a∈l,f a≤g a)→(l.map f).sum≤(l.map g).sum
 |[],_=>by simp
 |a::l,h=>by
  have:=h a (by simp);have:=K5 (l:=l) fun b hb=>h b (by simp[hb]);simp;omega
theorem T6 {α:Type}:∀l:List α,(l.map fun _=>1).sum=l.length
 |[]=>rfl
 |a::l=>by rw[List.map_cons,List.sum_cons,T6 l,List.length_cons];omega
theorem Qjf (hs:Bk n L) {e:Ed} (he:Ec n e):(blocks n L).countP (fun m=>ins (Ct m) e)≤1 :=
 Oe Ij fun m hm k hk h1 h2=>by
  simp only[ins,Bool.and_eq_true]at h1 h2;exact Qs hs hm hk (Zv he.1 he.2.1 he.2.2 (by simp only[cap];rw[h1.1,h2.1];rfl) (by simp only[cap];rw[h1.2,h2.2];rfl))
theorem Vi (hL:∀e∈L,Ec n e) (hs:Bk n L):((blocks n L).map fun m=>2*sz n (Ct m)-3).sum=L.length:=by
 have e1:((blocks n L).map fun m=>2*sz n (Ct m)-3)=(blocks n L).map fun m=>L.countP (ins (Ct m)):=List.map_congr_left fun m hm=>by
  have:=(Co.1 (Du.1 hm).1).2.2;unfold spn at this;omega
 rw[e1,U3 (fun m e=>ins (Ct m) e) L,←T6 L]
 congr 1
 refine List.map_congr_left fun e he=>Nat.le_antisymm (Qjf hs (hL e he)) ?_;obtain⟨m,h1,h2⟩:=Kb hL (Lg hL hs he);refine List.countP_pos_iff.2 ⟨m,h1,?_⟩;obtain⟨h3,h4,_⟩:=hL e he;simp only[ins,Bool.and_eq_true];exact⟨h2 _ h3 (by simp[Fw]),h2 _ h4 (by simp[Fw])⟩
theorem Q1j (hL:∀e∈L,Ec n e) (hs:Bk n L) {J:List Ed} (hJ:∀e∈J,Ec n e) (hj:Bk n J) (h:∀e∈J,∃X,Eh n L X∧ins X e=true):J.length≤L.length:=by
 rw[←Vi hL hs,←T6 J];refine Nat.le_trans (K5 (g:=fun e=>(blocks n L).countP fun m=>ins (Ct m) e) fun e he=>?_) ?_
 ·obtain⟨X,hX,hi⟩:=h e he;obtain⟨m,h1,h2⟩:=Kb hL hX;obtain⟨h3,h4,_⟩:=hJ e he;simp only[ins,Bool.and_eq_true]at hi;exact List.countP_pos_iff.2 ⟨m,h1,by simp only[ins,Bool.and_eq_true];exact⟨h2 _ h3 hi.1,h2 _ h4 hi.2⟩⟩
 ·rw[←U3 (fun m e=>ins (Ct m) e) J];refine K5 fun m hm=>?_;have:=hj _ (Co.1 (Du.1 hm).1).2.1;unfold spn at this;show J.countP (ins (Ct m))≤_
  omega
end
end Go.Lam
end
section
namespace Go.Lam
def Fv {α:Type} (f:Nat→α) (i:Nat) (x:α):Nat→α:=fun v=>if v=i then x else f v
@[simp] theorem Ew {α:Type} (f:Nat→α) (i:Nat) (x:α):Fv f i x i=x:=by simp[Fv]
theorem Bu {α:Type} (f:Nat→α) {i v:Nat} (x:α) (h:v≠i):Fv f i x v=f v:=by simp[Fv,h]
theorem Pa (n:Nat) (cv:Nat→List Nat) (x:Nat):((List.range n).flatMap cv).count x=sm n fun v=>(cv v).count x:=by
 rw[List.count_flatMap];rfl
theorem Vd {l:List Nat} {k e:Nat} (h:l[k]?=some e) (x:Nat):(l.eraseIdx k).count x+(if x=e then 1 else 0)=l.count x:=by
 induction l generalizing k with
 |nil=>simp at h
 |cons a l ih =>
  cases k with
  |zero =>
   simp at h;subst h;simp only[List.eraseIdx_zero,List.tail_cons,List.count_cons];by_cases hx:x=a
   ·simp[hx]
   ·simp[hx,Ne.symm hx]
  |succ k=>simp only[List.eraseIdx_cons_succ,List.count_cons]at *;have:=ih (by simpa using h);omega
section
variable {n:Nat} {E:Nat→Ed} {A:List Nat} {fr:Nat→Nat} {cv:Nat→List Nat}
theorem Inv.move (h:Inv n E A fr cv) {j k e:Nat} (hj:j<n) (hk:(cv j)[k]?=some e) (hf:0<fr (G4 E e j)) :
  Inv n E A (Fv (Fv fr (G4 E e j) (fr (G4 E e j)-1)) j (fr j+1)) (Fv (Fv cv (G4 E e j) (cv (G4 E e j)++[e])) j ((cv j).eraseIdx k)):=by
 have hm:e∈cv j:=List.mem_of_getElem? hk;obtain⟨hl,hne⟩:=h.oth_lt hj hm;refine⟨fun v hv=>?_,?_,fun v hv x hx=>?_,h.ok⟩
 ·by_cases h1:v=j
  ·subst h1;have:=h.two v hv;have hlt:=(List.getElem?_eq_some_iff.1 hk).1;simp only[Ew,List.length_eraseIdx,hlt,if_true];omega
  ·rw[Bu _ _ h1,Bu _ _ h1];by_cases h2:v=G4 E e j
   ·subst h2;have:=h.two _ hv;simp only[Ew,List.length_append,List.length_cons,List.length_nil];omega
   ·rw[Bu _ _ h2,Bu _ _ h2];exact h.two v hv
 ·refine List.Perm.trans (List.perm_iff_count.2 fun x=>?_) h.perm;rw[Pa,Pa];have key:sm n (fun v=>(Fv (Fv cv (G4 E e j) (cv (G4 E e j)++[e])) j ((cv j).eraseIdx k) v).count x+if v=j then (if x=e then 1 else 0) else 0)=sm n (fun v=>(cv v).count x+if v=G4 E e j then (if x=e then 1 else 0) else 0):=I7 fun v hv=>by
   by_cases h1:v=j
   ·subst h1;rw[Ew,if_pos rfl,if_neg (Ne.symm hne),Vd hk x];rfl
   ·rw[Bu _ _ h1,if_neg h1];by_cases h2:v=G4 E e j
    ·subst h2;rw[Ew,if_pos rfl,List.count_append,List.count_singleton];by_cases hx:x=e
     ·simp[hx]
     ·simp[hx,Ne.symm hx]
    ·rw[Bu _ _ h2,if_neg h2]
  rw[Lo,Lo,Oj hj,Oj hl]at key;omega
 ·by_cases h1:v=j
  ·subst h1;rw[Ew]at hx;exact h.ends v hv x (List.mem_of_mem_eraseIdx hx)
  ·rw[Bu _ _ h1]at hx;by_cases h2:v=G4 E e j
   ·subst h2;rw[Ew,List.mem_append,List.mem_singleton]at hx;rcases hx with hx | rfl
    ·exact h.ends _ hv x hx
    ·unfold G4;rcases h.ends j hj x hm with h3 | h3
     ·right;omega
     ·left;omega
   ·rw[Bu _ _ h2]at hx;exact h.ends v hv x hx
theorem Inv.lay (h:Inv n E A fr cv) {a e:Nat} (ha:(E e).1=a) (he:Ec n (E e)) (hf:0<fr a):Inv n E (A++[e]) (Fv fr a (fr a-1)) (Fv cv a (cv a++[e])):=by
 have hl:a<n:=ha ▸ he.1;refine⟨fun v hv=>?_,?_,fun v hv x hx=>?_,fun x hx=>?_⟩
 ·by_cases h1:v=a
  ·subst h1;have:=h.two v hv;simp only[Ew,List.length_append,List.length_cons,List.length_nil];omega
  ·rw[Bu _ _ h1,Bu _ _ h1];exact h.two v hv
 ·refine List.perm_iff_count.2 fun x=>?_;have h1:=List.perm_iff_count.1 h.perm x;rw[Pa]at h1 ⊢;rw[List.count_append,←h1];have key:sm n (fun v=>(Fv cv a (cv a++[e]) v).count x)=sm n (fun v=>(cv v).count x+if v=a then [e].count x else 0):=I7 fun v _=>by
   by_cases h2:v=a
   ·subst h2;rw[Ew,if_pos rfl,List.count_append]
   ·rw[Bu _ _ h2,if_neg h2];rfl
  rw[key,Lo,Oj hl]
 ·by_cases h1:v=a
  ·subst h1;rw[Ew,List.mem_append,List.mem_singleton]at hx;rcases hx with hx | rfl
   ·exact h.ends _ hv x hx
   ·exact .inl ha
  ·rw[Bu _ _ h1]at hx;exact h.ends v hv x hx
 ·rw[List.mem_append,List.mem_singleton]at hx;rcases hx with hx | rfl
  ·exact h.ok x hx
  ·exact he
theorem Inv.start (n:Nat) (E:Nat→Ed):Inv n E [] (fun _=>2) (fun _=>[]):=⟨fun _ _=>rfl,by simp,fun _ _ _ h=>by simp at h,fun _ h=>by simp at h⟩
structure L9 (n:Nat) (E:Nat→Ed) (fr:Nat→Nat) (cv:Nat→List Nat) (S T:Nat→Bool):Prop where
 sub:∀v,S v=true→T v=true
 zero:∀v,v<n→S v=false→T v=true→fr v=0
 shut:∀v,v<n→S v=false→T v=true→∀e∈cv v,T (G4 E e v)=true
theorem L9.refl (S:Nat→Bool):L9 n E fr cv S S:=⟨fun _ h=>h,fun v _ h h'=>(by rw[h]at h';cases h'),fun v _ h h'=>(by rw[h]at h';cases h')⟩
theorem L9.step {S T T':Nat→Bool} {m:Nat} (h:L9 n E fr cv S T) (hm:fr m=0) (h':L9 n E fr cv (Fv T m true) T') (hs:∀e∈cv m,T' (G4 E e m)=true):L9 n E fr cv S T' where
 sub:=fun v hv=>h'.sub v (by unfold Fv;split;rfl;exact h.sub v hv)
 zero:=fun v hv h1 h2=>by
  by_cases hvm:v=m
  ·subst hvm;exact hm
  ·cases hT:T v with
   |true=>exact h.zero v hv h1 hT
   |false=>exact h'.zero v hv (by rw[Bu _ _ hvm];exact hT) h2
 shut:=fun v hv h1 h2 e he=>by
  by_cases hvm:v=m
  ·subst hvm;exact hs e he
  ·cases hT:T v with
   |true =>
    have h3:=h.shut v hv h1 hT e he;exact h'.sub _ (by unfold Fv;split;rfl;exact h3)
   |false=>exact h'.shut v hv (by rw[Bu _ _ hvm];exact hT) h2 e he
structure Got (n:Nat) (E:Nat→Ed) (A:List Nat) (S:Nat→Bool) (j:Nat) (fr:Nat→Nat) (cv:Nat→List Nat) (fr':Nat→Nat) (cv':Nat→List Nat):Prop where
 inv:Inv n E A fr' cv'
 plus:fr' j=fr j+1
 free:∀v,v<n→S v=true→v≠j→fr' v=fr v
 cover:∀v,v<n→S v=true→v≠j→cv' v=cv v
theorem Got.direct (h:Inv n E A fr cv) {S:Nat→Bool} {j k e:Nat} (hj:j<n) (hk:(cv j)[k]?=some e) (hS:S (G4 E e j)=false) (hf:0<fr (G4 E e j)) :
  Got n E A S j fr cv (Fv (Fv fr (G4 E e j) (fr (G4 E e j)-1)) j (fr j+1)) (Fv (Fv cv (G4 E e j) (cv (G4 E e j)++[e])) j ((cv j).eraseIdx k)) where
 inv:=h.move hj hk hf
 plus:=by simp
 free:=fun v _ hv hvj=>by rw[Bu _ _ hvj,Bu _ _ (fun e'=>by rw[e',hS]at hv;cases hv)]
 cover:=fun v _ hv hvj=>by rw[Bu _ _ hvj,Bu _ _ (fun e'=>by rw[e',hS]at hv;cases hv)]
theorem Got.through {S T:Nat→Bool} {fr':Nat→Nat} {cv':Nat→List Nat} {j k e:Nat} (hsub:∀v,S v=true→T v=true) (hj:j<n) (hSj:S j=true) (hk:(cv j)[k]?=some e) (hS:T (G4 E e j)=false)
  (hne:G4 E e j≠j) (g:Got n E A (Fv T (G4 E e j) true) (G4 E e j) fr cv fr' cv') :
  Got n E A S j fr cv (Fv (Fv fr' (G4 E e j) (fr' (G4 E e j)-1)) j (fr' j+1)) (Fv (Fv cv' (G4 E e j) (cv' (G4 E e j)++[e])) j ((cv' j).eraseIdx k)):=by
 have hin:∀v,S v=true→Fv T (G4 E e j) true v=true:=fun v hv=>by unfold Fv;split;rfl;exact hsub v hv
 have hcj:cv' j=cv j:=g.cover j hj (hin j hSj) (Ne.symm hne);have hfj:fr' j=fr j:=g.free j hj (hin j hSj) (Ne.symm hne);have hno:∀v,S v=true→v≠G4 E e j:=fun v hv e'=>by rw[e']at hv;rw[hsub _ hv]at hS;cases hS
 refine⟨g.inv.move hj (by rw[hcj];exact hk) (by rw[g.plus];omega),by simp[hfj],fun v hv h1 h2=>?_,fun v hv h1 h2=>?_⟩
 ·rw[Bu _ _ h2,Bu _ _ (hno v h1)];exact g.free v hv (hin v h1) (hno v h1)
 ·rw[Bu _ _ h2,Bu _ _ (hno v h1)];exact g.cover v hv (hin v h1) (hno v h1)
end
end Go.Lam
end
section
namespace Go.Lam
def Ko (n m:Nat):List Nat:=(List.range n).filter (Ct m)
def B8:List Nat→List Nat→Bool
 |[],[]=>false
 |[],_::_=>true
 |_::_,[]=>false
 |a::l,b::m=>if a=b then B8 l m else decide (a<b)
theorem Jf:∀l:List Nat,B8 l l=false
 |[]=>rfl
 |a::l=>by simp[B8,Jf l]
theorem Gz:∀{a b c:List Nat},B8 a b=true→B8 b c=true→B8 a c=true
 |[],[],_,h,_=>by simp[B8]at h
 |[],_::_,[],_,h=>by simp[B8]at h
 |[],_::_,_::_,_,_=>rfl
 |_::_,[],_,h,_=>by simp[B8]at h
 |_::_,_::_,[],_,h=>by simp[B8]at h
 |x::a,y::b,z::c,h1,h2=>by
  unfold B8 at *;by_cases e1:x=y
  ·subst e1;rw[if_pos rfl]at h1;by_cases e2:x=z
   ·subst e2;rw[if_pos rfl]at h2 ⊢;exact Gz h1 h2
   ·rw[if_neg e2]at h2 ⊢;exact h2
  ·rw[if_neg e1]at h1;by_cases e2:y=z
   ·subst e2;rw[if_neg e1];exact h1
   ·rw[if_neg e2]at h2;simp only[decide_eq_true_eq]at h1 h2;rw[if_neg (by omega)];simp only[decide_eq_true_eq];omega
theorem Ic:∀(a b:List Nat),a=b∨B8 a b=true∨B8 b a=true
 |[],[]=>.inl rfl
 |[],_::_=>.inr (.inl rfl)
 |_::_,[]=>.inr (.inr rfl)
 |x::a,y::b=>by
  unfold B8;by_cases e:x=y
  ·subst e;rcases Ic a b with h | h | h
   ·exact .inl (by rw[h])
   ·exact .inr (.inl (by rw[if_pos rfl];exact h))
   ·exact .inr (.inr (by rw[if_pos rfl];exact h))
  ·rw[if_neg e,if_neg (Ne.symm e)];simp only[decide_eq_true_eq];omega
def Asc (l:List (List Nat)):Prop:=l.Pairwise fun x y=>B8 x y=true
theorem Asc.eq:∀{l m:List (List Nat)},Asc l→Asc m→(∀x,x∈l↔x∈m)→l=m
 |[],[],_,_,_=>rfl
 |[],y::m,_,_,h=>by have:=(h y).2 (by simp);simp at this
 |x::l,[],_,_,h=>by have:=(h x).1 (by simp);simp at this
 |x::l,y::m,hl,hm,h=>by
  obtain⟨hl1,hl2⟩:=List.pairwise_cons.1 hl;obtain⟨hm1,hm2⟩:=List.pairwise_cons.1 hm;have hxy:x=y:=by
   rcases List.mem_cons.1 ((h x).1 (by simp))with h1|h1
   ·exact h1
   ·rcases List.mem_cons.1 ((h y).2 (by simp))with h2|h2
    ·exact h2.symm
    ·have:=Gz (hl1 y h2) (hm1 x h1);rw[Jf]at this;cases this
  subst hxy;rw[Asc.eq hl2 hm2 fun z=>?_];constructor
  ·intro hz;rcases List.mem_cons.1 ((h z).1 (by simp[hz]))with rfl | h1
   ·have:=hl1 z hz;rw[Jf]at this;cases this
   ·exact h1
  ·intro hz;rcases List.mem_cons.1 ((h z).2 (by simp[hz]))with rfl | h1
   ·have:=hm1 z hz;rw[Jf]at this;cases this
   ·exact h1
theorem Asc.of_sorted {l:List (List Nat)} (hn:l.Nodup) (h:l.Pairwise fun x y=>B8 y x=false):Asc l:=by
 have:=hn.and h;exact this.imp fun {a b} ⟨h1,h2⟩=>by
  rcases Ic a b with h3|h3|h3
  ·exact absurd h3 h1
  ·exact h3
  ·rw[h2]at h3;cases h3
def Pd:List (List Nat)→List Nat→List (List Nat)
 |[],x=>[x]
 |y::l,x=>if B8 x y=true then x::y::l else y::Pd l x
theorem Ms {x z:List Nat}:∀{l:List (List Nat)},z∈Pd l x↔z=x∨z∈l
 |[]=>by simp[Pd]
 |y::l=>by
  unfold Pd;split
  ·simp
  ·simp only[List.mem_cons,Ms (l:=l)];constructor
   ·rintro(h|h|h)<;>simp[h]
   ·rintro(h|h|h)<;>simp[h]
theorem Qb5 {x:List Nat}:∀{l:List (List Nat)},Asc l→x ∉ l→Asc (Pd l x)
 |[],_,_=>by simp[Pd,Asc]
 |y::l,h,hx=>by
  obtain⟨h1,h2⟩:=List.pairwise_cons.1 h;unfold Pd;split
  ·rename_i hb
   refine List.pairwise_cons.2 ⟨fun z hz=>?_,h⟩;rcases List.mem_cons.1 hz with rfl | hz
   ·exact hb
   ·exact Gz hb (h1 z hz)
  ·rename_i hb
   simp only[List.mem_cons,not_or]at hx;refine List.pairwise_cons.2 ⟨fun z hz=>?_,Qb5 h2 hx.2⟩;rcases Ms.1 hz with rfl | hz
   ·rcases Ic z y with h3|h3|h3
    ·exact absurd h3 hx.1
    ·exact absurd h3 hb
    ·exact h3
   ·exact h1 z hz
theorem Ok {α:Type} (f:α→List Nat):∀(s:List α) (o:List (List Nat)),Asc o→(s.map f).Nodup→(∀a∈s,f a ∉ o)→Asc (s.foldl (fun o a=>Pd o (f a)) o)∧∀z,z∈s.foldl (fun o a=>Pd o (f a)) o↔z∈o∨z∈s.map f
 |[],o,h,_,_=>⟨h,by simp⟩
 |a::s,o,h,hn,hx=>by
  rw[List.map_cons,List.nodup_cons]at hn;have:=Ok f s (Pd o (f a)) (Qb5 h (hx a (by simp))) hn.2 fun b hb hc=>by
   rcases Ms.1 hc with h1|h1
   ·exact hn.1 (by rw[←h1];exact List.mem_map.2 ⟨b,hb,rfl⟩)
   ·exact hx b (by simp[hb]) h1
  refine⟨this.1,fun z=>?_⟩;rw[List.foldl_cons,this.2 z,Ms,List.map_cons,List.mem_cons];constructor
  ·rintro((h|h)|h)<;>simp[h]
  ·rintro(h|h|h)<;>simp[h]
def Cc (L:List Ed) (j:Nat):Bool:=L.all fun e=>!(e.1==j || e.2==j)
def Fx (j:Nat):List Nat:=[j]
def Tk (n:Nat) (L:List Ed):List (List Nat):=((List.range n).filter (Cc L)).foldl (fun o j=>Pd o (Fx j)) ((blocks n L).foldl (fun o m=>Pd o (Ko n m)) [])
theorem Yo {n m v:Nat}:v∈Ko n m↔v<n∧Ct m v=true:=by simp[Ko]
theorem Lk (n m:Nat):(Ko n m).length=sz n (Ct m):=by simp[Ko,sz,List.countP_eq_length_filter]
theorem Yd {n m k:Nat} (hm:m<2^n) (hk:k<2^n) (h:Ko n m=Ko n k):m=k:=Ur hm hk fun v hv=>by
 have h1:v∈Ko n m↔v∈Ko n k:=by rw[h]
 rw[Yo,Yo]at h1;cases h2:Ct m v<;>cases h3:Ct k v<;>simp_all
section
variable {n:Nat} {L:List Ed}
theorem Mj {m:Nat} (h:m∈blocks n L):m<2^n:=(Co.1 (Du.1 h).1).1
theorem Ge {m:Nat} (h:m∈blocks n L):Eh n L (Ct m):=(Co.1 (Du.1 h).1).2
theorem Es {α β:Type} {f:α→β}:∀{l:List α},(∀x∈l,∀y∈l,f x=f y→x=y)→l.Nodup→(l.map f).Nodup
 |[],_,_=>by simp
 |a::l,h,hn=>by
  rw[List.nodup_cons]at hn;rw[List.map_cons,List.nodup_cons];refine⟨fun hc=>?_,Es (fun x hx y hy=>h x (by simp[hx]) y (by simp[hy])) hn.2⟩;obtain⟨b,hb,e⟩:=List.mem_map.1 hc;rw[h b (by simp[hb]) a (by simp) e]at hb;exact hn.1 hb
theorem Oz:Asc (Tk n L)∧∀z,z∈Tk n L↔(∃m∈blocks n L,z=Ko n m)∨∃j,j<n∧Cc L j=true∧z=[j]:=by
 have h1:=Ok (Ko n) (blocks n L) [] (by simp[Asc]) (Es (fun x hx y hy=>Yd (Mj hx) (Mj hy)) Ij) (by simp);have h2:=Ok Fx ((List.range n).filter (Cc L)) _ h1.1 (Es (fun x _ y _ h=>by simpa[Fx]using h) (List.nodup_range.filter _)) (fun j _ hc=>by
  rcases(h1.2 _).1 hc with h3|h3
  ·simp at h3
  ·obtain⟨m,hm,e⟩:=List.mem_map.1 h3;have h4:=Lk n m;rw[e]at h4;have:=(Ge hm).1;simp[Fx]at h4;omega)
 refine⟨h2.1,fun z=>?_⟩;unfold Tk;rw[h2.2 z,h1.2 z];simp only[List.not_mem_nil,false_or,List.mem_map,List.mem_filter,List.mem_range,Fx];constructor
 ·rintro(⟨m,hm,rfl⟩|⟨j,⟨hj,ha⟩,rfl⟩)
  ·exact .inl ⟨m,hm,rfl⟩
  ·exact .inr ⟨j,hj,ha,rfl⟩
 ·rintro(⟨m,hm,rfl⟩|⟨j,hj,ha,rfl⟩)
  ·exact .inl ⟨m,hm,rfl⟩
  ·exact .inr ⟨j,⟨hj,ha⟩,rfl⟩
def H7 (n:Nat) (L:List Ed) (e:Ed) (j:Nat):Bool:=(Nd n L).any fun m=>ins (Ct m) e&&Ct m j
theorem Kc (hL:∀e∈L,Ec n e) {e:Ed} {j:Nat} (hj:j<n) (he:Ec n e):H7 n L e j=true↔∃X,Eh n L X∧ins X e=true∧X j=true:=by
 unfold H7;rw[List.any_eq_true];constructor
 ·rintro⟨m,hm,h⟩;rw[Bool.and_eq_true]at h;exact⟨_,(Co.1 hm).2,h.1,h.2⟩
 ·rintro⟨X,h1,h2,h3⟩;obtain⟨m,h4,h5⟩:=Kb hL h1;rw[ins,Bool.and_eq_true]at h2;exact⟨m,(Du.1 h4).1,by rw[ins,h5 _ he.1 h2.1,h5 _ he.2.1 h2.2,h5 _ hj h3];rfl⟩
def H4 (n:Nat) (L:List Ed) (e:Ed):List Nat:=(List.range n).filter (H7 n L e)
theorem Mk (hL:∀e∈L,Ec n e) (hs:Bk n L) {e:Ed} (he:Ec n e) {m:Nat} (hm:m∈blocks n L) (hi:ins (Ct m) e=true):H4 n L e=Ko n m:=by
 refine List.filter_congr fun v hv=>?_;rw[List.mem_range]at hv;cases hb:Ct m v with
 |true=>exact(Kc hL hv he).2 ⟨_,Ge hm,hi,hb⟩
 |false =>
  cases hw:H7 n L e v with
  |false=>rfl
  |true =>
   obtain⟨X,h1,h2,h3⟩:=(Kc hL hv he).1 hw;obtain⟨k,h4,h5⟩:=Kb hL h1;rw[ins,Bool.and_eq_true]at h2 hi;have hmk:=Qs hs hm h4 (Zv he.1 he.2.1 he.2.2 (by rw[cap,hi.1,h5 _ he.1 h2.1];rfl) (by rw[cap,hi.2,h5 _ he.2.1 h2.2];rfl));subst hmk;rw[h5 v hv h3]at hb;cases hb
theorem W4 (hL:∀e∈L,Ec n e) (hs:Bk n L) {e:Ed} (he:e∈L):∃m∈blocks n L,ins (Ct m) e=true:=by
 obtain⟨m,h1,h2⟩:=Kb hL (Lg hL hs he);obtain⟨h3,h4,_⟩:=hL e he;exact⟨m,h1,by rw[ins,h2 _ h3 (by simp[Fw]),h2 _ h4 (by simp[Fw])];rfl⟩
theorem Qgj {m:Nat} (hm:m∈blocks n L):∃e∈L,ins (Ct m) e=true:=by
 have h1:=Ge hm;have h2:=h1.1;have h3:=h1.2;unfold spn at h3;exact List.countP_pos_iff.1 (show 0<L.countP (ins (Ct m)) by omega)
def O5 (o:List (List Nat)) (c:List Nat):List (List Nat):=if c∈o then o else o++[c]
theorem Lp {α:Type} (f:α→List Nat):∀(s:List α) (o:List (List Nat)),o.Nodup→(s.foldl (fun o a=>O5 o (f a)) o).Nodup∧∀z,z∈s.foldl (fun o a=>O5 o (f a)) o↔z∈o∨z∈s.map f
 |[],o,h=>⟨h,by simp⟩
 |a::s,o,h=>by
  have hn:(O5 o (f a)).Nodup:=by
   unfold O5;split
   ·exact h
   ·rename_i hc
    rw[List.nodup_append];exact⟨h,by simp,fun x hx y hy e=>by simp at hy;subst hy;subst e;exact hc hx⟩
  have hm:∀z,z∈O5 o (f a)↔z∈o∨z=f a:=fun z=>by
   unfold O5;split
   ·rename_i hc
    exact⟨.inl,fun h=>h.elim id fun e=>e ▸ hc⟩
   ·simp
  have:=Lp f s (O5 o (f a)) hn;refine⟨this.1,fun z=>?_⟩;rw[List.foldl_cons,this.2 z,hm,List.map_cons,List.mem_cons];constructor
  ·rintro((h|h)|h)<;>simp[h]
  ·rintro(h|h|h)<;>simp[h]
def J2 (n:Nat) (L:List Ed):List (List Nat):=L.foldl (fun o e=>O5 o (H4 n L e)) []++((List.range n).filter (Cc L)).map Fx
theorem X7 (hL:∀e∈L,Ec n e) (hs:Bk n L):(J2 n L).Nodup∧∀z,z∈J2 n L↔z∈Tk n L:=by
 have h1:=Lp (H4 n L) L [] (by simp);have hmem:∀z,z∈J2 n L↔z∈Tk n L:=fun z=>by
  unfold J2;rw[List.mem_append,h1.2 z,Oz.2 z];simp only[List.not_mem_nil,false_or,List.mem_map,List.mem_filter,List.mem_range,Fx];constructor
  ·rintro(⟨e,he,rfl⟩|⟨j,⟨hj,ha⟩,rfl⟩)
   ·obtain⟨m,hm,hi⟩:=W4 hL hs he;exact .inl ⟨m,hm,Mk hL hs (hL e he) hm hi⟩
   ·exact .inr ⟨j,hj,ha,rfl⟩
  ·rintro(⟨m,hm,rfl⟩|⟨j,hj,ha,rfl⟩)
   ·obtain⟨e,he,hi⟩:=Qgj hm;exact .inl ⟨e,he,Mk hL hs (hL e he) hm hi⟩
   ·exact .inr ⟨j,⟨hj,ha⟩,rfl⟩
 refine⟨?_,hmem⟩;unfold J2;rw[List.nodup_append];refine⟨h1.1,Es (fun x _ y _ h=>by simpa[Fx]using h) (List.nodup_range.filter _),fun x hx y hy e=>?_⟩;subst e;rcases(h1.2 x).1 hx with h3 | h3
 ·simp at h3
 ·obtain⟨e,he,rfl⟩:=List.mem_map.1 h3;obtain⟨m,hm,hi⟩:=W4 hL hs he;obtain⟨j,_,e2⟩:=List.mem_map.1 hy;rw[Mk hL hs (hL e he) hm hi]at e2;have h4:=Lk n m;rw[←e2]at h4;have:=(Ge hm).1;simp[Fx]at h4;omega
theorem Qb2 (hL:∀e∈L,Ec n e) (hs:Bk n L) {W:List (List Nat)} (hp:W.Perm (J2 n L)) (hw:W.Pairwise fun x y=>B8 y x=false):W=Tk n L:=by
 obtain⟨h1,h2⟩:=X7 hL hs;exact Asc.eq (Asc.of_sorted (hp.nodup_iff.2 h1) hw) Oz.1 fun x=>by rw[hp.mem_iff,h2]
end
end Go.Lam
end
section
namespace Go.Lam
section
variable {n:Nat} {L:List Ed}
def Qpd:Nat→Bool:=fun _=>true
theorem Qls (n:Nat):sz n Qpd=n:=by
 have h:(List.range n).countP Qpd=(List.range n).length:=List.countP_eq_length.2 fun _ _=>rfl;rw[List.length_range]at h;exact h
theorem Qqw (L:List Ed):spn L Qpd=L.length:=List.countP_eq_length.2 fun _ _=>rfl
theorem Qcf:sz n (fun j=>!Cc L j)+(List.range n).countP (Cc L)=n:=by
 have h:=List.length_eq_countP_add_countP (Cc L) (l:=List.range n);rw[List.length_range]at h;have e:(List.range n).countP (fun a=>decide ¬Cc L a=true)=sz n (fun j=>!Cc L j):=List.countP_congr fun v _=>by cases Cc L v<;>simp
 omega
theorem Qbx:spn L (fun j=>!Cc L j)=L.length:=List.countP_eq_length.2 fun e he=>by
 have h:∀j,e.1=j∨e.2=j→Cc L j=false:=fun j hj=>by
  cases ha:Cc L j with
  |false=>rfl
  |true =>
   have:=List.all_eq_true.1 ha e he;simp only[Bool.not_eq_true',Bool.or_eq_false_iff,beq_eq_false_iff_ne]at this;omega
 show(!Cc L e.1&&!Cc L e.2)=true
 rw[h e.1 (.inl rfl),h e.2 (.inr rfl)];rfl
theorem Xd (hL:∀e∈L,Ec n e) (hs:Bk n L):(blocks n L).length≤L.length:=by
 rw[←Vi hL hs,←T6];refine K5 fun m hm=>?_;have:=(Ge hm).1;omega
theorem Qbq (hL:∀e∈L,Ec n e) (hs:Bk n L):(J2 n L).length=(blocks n L).length+(List.range n).countP (Cc L):=by
 have h1:=X7 hL hs;have hp:(J2 n L).Perm ((blocks n L).map (Ko n)++((List.range n).filter (Cc L)).map Fx):=by
  refine(List.perm_ext_iff_of_nodup h1.1 ?_).2 fun z=>?_
  ·rw[List.nodup_append];refine⟨Es (fun x hx y hy=>Yd (Mj hx) (Mj hy)) Ij,Es (fun x _ y _ h=>by simpa[Fx]using h) (List.nodup_range.filter _),fun x hx y hy e=>?_⟩;subst e;obtain⟨m,hm,rfl⟩:=List.mem_map.1 hx;obtain⟨j,_,e2⟩:=List.mem_map.1 hy;have h4:=Lk n m;rw[←e2]at h4;have:=(Ge hm).1;simp[Fx]at h4;omega
  ·rw[h1.2,Oz.2];simp only[List.mem_append,List.mem_map,List.mem_filter,List.mem_range,Fx];constructor
   ·rintro(⟨m,hm,rfl⟩|⟨j,hj,ha,rfl⟩)
    ·exact .inl ⟨m,hm,rfl⟩
    ·exact .inr ⟨j,⟨hj,ha⟩,rfl⟩
   ·rintro(⟨m,hm,rfl⟩|⟨j,⟨hj,ha⟩,rfl⟩)
    ·exact .inl ⟨m,hm,rfl⟩
    ·exact .inr ⟨j,hj,ha,rfl⟩
 rw[hp.length_eq,List.length_append,List.length_map,List.length_map,←List.countP_eq_length_filter]
theorem Qlv (hL:∀e∈L,Ec n e) (hs:Bk n L) (h8:n≤8):(J2 n L).length≤12:=by
 rw[Qbq hL hs];have h1:=Xd hL hs;have h2:=Qcf (n:=n) (L:=L);have h3:=Qri n fun j=>!Cc L j;rcases Nat.lt_or_ge (sz n fun j=>!Cc L j) 2 with h4 | h4
 ·have:spn L (fun j=>!Cc L j)=0:=Ui hL (by omega);rw[Qbx]at this;omega
 ·have h5:=hs _ h4;rw[Qbx]at h5;rcases Nat.lt_or_ge ((blocks n L).length+(List.range n).countP (Cc L)) 13 with h6 | h6
  ·omega
  ·-- all is one block
   have hn8:n=8∧(List.range n).countP (Cc L)=0∧L.length=13:=by omega
   have hT:Eh n L Qpd:=⟨by rw[Qls];omega,by rw[Qqw,Qls];omega⟩;obtain⟨m,hm,hall⟩:=Kb hL hT;have h7:∀k∈blocks n L,k=m:=fun k hk=>(Du.1 hk).2 m (Du.1 hm).1 (fun v hv=>hall v (Qp9 (Mj hk) hv) rfl) ▸ rfl;have h8:(blocks n L).length≤1:=by
    have hnd:=Ij (n:=n) (L:=L)
    match hb:blocks n L,hnd with
    |[],_=>simp
    |[a],_=>simp
    |a::b::t,hnd =>
     rw[hb]at h7;have ha:=h7 a (by simp);have hb':=h7 b (by simp);rw[List.nodup_cons]at hnd;exact absurd (by rw[ha,hb'];simp) hnd.1
   omega
theorem Qhl (n:Nat) (X:Nat→Bool):sz (n+1) X=sz n X+if X n=true then 1 else 0:=by
 simp[sz,List.range_succ,List.countP_append,List.countP_cons]
theorem Bk.joint (hs:Bk n L) (hL:∀e∈L,Ec n e):Bk (n+1) L:=fun X hX=>by
 rw[Qhl]at hX ⊢;rcases Nat.lt_or_ge (sz n X) 2 with h | h
 ·rw[Ui hL (by omega)];omega
 ·have:=hs X h;omega
theorem Bk.one (hs:Bk n L) (hL:∀e∈L,Ec n e) {x:Nat} (hx:x<n) {e:Ed} (he:e=(x,n)∨e=(n,x)):Bk (n+1) (L++[e]):=fun X hX=>by
 rw[Qhl]at hX ⊢;rw[Lq,Us];have hi:ins X e=(X x&&X n):=by rcases he with rfl | rfl<;>simp[ins,Bool.and_comm]
 rw[hi];show spn L X+(0+_)+3≤_
 rcases Nat.lt_or_ge (sz n X) 2 with h|h
 ·rw[Ui hL (by omega)];cases h1:X n<;>cases h2:X x<;>simp[h1]at*<;> (try have:=Qnp hx h2)<;>omega
 ·have:=hs X h;cases h1:X n<;>cases h2:X x<;>simp<;>omega
end
end Go.Lam
end
section
namespace Go.Av
open Go.Proofs
structure RE where
 a:Int
 b:Int
 sq:RR
def RE.av (e:RE):AV:=.agg [.int .i64 e.a,.int .i64 e.b,.bool e.sq.n1,Ao e.sq.l1,.bool e.sq.n2,Ao e.sq.l2]
def Dt (l:List RE):List AV:=l.map RE.av
def Bc (l:List RE):AV:=.sl 6 (Dt l)
instance:Inhabited RE:=⟨⟨0,0,default⟩⟩
def H9 (l:List RE) (i:Nat):RE:=l.getD i default
theorem J9 {l:List RE} {i:Nat} (h:i<l.length):H9 l i=l[i]:=by unfold H9;rw[List.getD_eq_getElem?_getD,List.getElem?_eq_getElem h];rfl
@[simp] theorem Wg (l:List RE):(Dt l).length=l.length:=by simp[Dt]
@[simp] theorem edl_get? {l:List RE} {i:Nat} (h:i<l.length):(Dt l)[i]?=some (H9 l i).av:=by simp[Dt,J9 h,h]
@[simp] theorem edl_get {l:List RE} {i:Nat} (h:i<(Dt l).length):(Dt l)[i]=(H9 l i).av:=by simp[Dt,J9 (by simpa using h:i<l.length)]
@[simp] theorem Q2d {l:List Nat} {i:Nat} (h:i<(A0 l).length):(A0 l)[i]=.int .i64 (l[i]'(by simpa using h):Nat):=by simp[A0]
@[simp] theorem Q1m (l:List Nat):(A0 l).all (fun v=>v.cells.length==1&&v.cells.all AV.one)=true:=by simp[A0,AV.cells,AV.one]
theorem RE.av_len (e:RE):e.av.cells.length=6:=rfl
theorem RE.av_ones (e:RE):e.av.cells.all AV.one=true:=rfl
theorem Cq (e:RE):e.av.cells=[.int .i64 e.a,.int .i64 e.b,.bool e.sq.n1,Ao e.sq.l1,.bool e.sq.n2,Ao e.sq.l2]:=rfl
theorem Kv (l:List Nat) (i v:Nat):(A0 l).set i (.int .i64 (v:Nat))=A0 (l.set i v):=by unfold A0;rw[List.map_set]
theorem Nx {m m':Ac} {b n:Nat} {l:List Nat} (h:m b=some ⟨3,1,A0 l⟩) (hl:l.length=n) (hb:m' b=none:=by simp):B2 m m' (.osl b 1 0 n) (.sl 1 (A0 l)) :=
 .osl b 1 0 n _ (A0 l) h hb rfl (by simpa using hl) (by simp[hl]) (fun k v v' h1 h2=>by rw[Nat.zero_add]at h1;rw[h1]at h2;cases h2;exact .same _)
theorem Yk (l:List RE) (hl:l.length≤40):Ak Tryz.prog 45 [Bc l] Ac.emp fun v m=>v=.sl 1 (A0 (List.range l.length))∧m=Ac.emp:=by
 refine Ad Tryz.func45 rfl rfl 19 rfl (Nat.le_of_ble_eq_true rfl) ?_;unfold Bc;(repeat refine AW.seq_k fun K hK=>?_);refine AW.rg ?_;simp[Al];try (refine hK _ rfl ?_;clear hK K)
 (repeat refine AW.seq_k fun K hK=>?_);refine AW.rg ?_;simp;try (refine hK _ rfl ?_;clear hK K)
 refine⟨by omega,Ae.intro fun bl hbl=>?_⟩;refine hK _ rfl ?_;clear hK K;refine AW.seq_ex (ι:=Unit) (fun _=>[(3,.osl bl 1 0 l.length)]) (fun _=>Ac.emp.set bl ⟨3,1,A0 (List.range l.length)⟩) (fun _=>True) ?_ ?_
 ·(repeat refine AW.seq_k fun K hK=>?_);refine AW.rg ?_;simp;try (refine hK _ rfl ?_;clear hK K)
  refine AW.block (AW.loopS (ι:=Nat × List Nat) (fun z=>[(3,.osl bl 1 0 l.length),(9,.int .i64 (l.length:Nat)),(10,.int .i64 (z.1:Nat))]) (fun z=>Ac.emp.set bl ⟨3,1,A0 z.2⟩)
   (fun z=>z.1≤l.length∧z.2=List.range z.1++List.replicate (l.length-z.1) 0) (fun z=>l.length-z.1) (0,List.replicate l.length 0) ⟨by simp,by simp⟩ (by simp[A0]) (by simp) ?_)
  rintro⟨i,o⟩ ⟨g1,g2⟩;simp only at g1 g2;have hol:o.length=l.length:=by rw[g2];simp;omega
  (repeat refine AW.seq_k fun K hK=>?_);refine AW.rg ?_;simp;try (refine hK _ rfl ?_;clear hK K)
  (repeat refine AW.seq ?_);refine AW.cs (fun hi=>?_) (fun hi=>?_) rfl<;>(try simp at hi)
  ·refine AW.skip ?_;try simp
   have w1:=Aq (i+1) (by omega);(repeat refine AW.seq ?_);refine AW.block ?_;(repeat refine AW.seq_k fun K hK=>?_);refine AW.rg ?_;simp;try (refine hK _ rfl ?_;clear hK K)
   (repeat refine AW.seq_k fun K hK=>?_);refine AW.rg ?_;simp[hol,hi];try (refine hK _ rfl ?_;clear hK K)
   (repeat refine AW.seq_k fun K hK=>?_);refine AW.rg ?_;simp[-Int.natCast_add,w1];try (refine hK _ rfl ?_;clear hK K)
   refine⟨i+1,o.set i i,⟨by omega,?_⟩,by omega,by rw[Kv],rfl⟩;rw[g2,List.set_append_right _ _ (by simp),List.length_range,Nat.sub_self,show l.length-i=(l.length-(i+1))+1 by omega,List.replicate_succ,List.set_cons_zero,List.range_succ,List.append_assoc];rfl
  ·refine AW.exit ?_;try simp
   have:i=l.length:=by omega
   rw[g2,this];simp
 ·rintro _ _;(repeat refine AW.seq_k fun K hK=>?_);refine AW.rg ?_;simp;try (refine hK _ rfl ?_;clear hK K)
  exact AW.ret (Ah rfl _ (Nx (by simp) (by simp)) ⟨rfl,rfl⟩)
end Go.Av
end
section
namespace Go.Av
open Go.Proofs Go.Lam
@[simp] theorem Q0f {l:List Nat} {i:Nat} (h:i<l.length):(A0 l).getD i .any=.int .i64 (l[i]:Nat):=by simp[A0,h]
def Ag (es:List RE):Nat→Ed:=fun i=>((H9 es i).a.toNat,(H9 es i).b.toNat)
def Nj (n:Nat) (es:List RE):Prop:=∀i,i<es.length→(H9 es i).a=((Ag es i).1:Nat)∧(H9 es i).b=((Ag es i).2:Nat)∧Ec n (Ag es i)
end Go.Av
end
section
namespace Go.Av
open Go.Proofs Go.Lam
def Bz (x y:RE):Bool:=(y.a==x.a&&y.b==x.b) || (y.a==x.b&&y.b==x.a)
def okE (n:Int) (pre:List RE) (x:RE):Bool:=decide (0≤x.a)&&decide (x.a<n)&&decide (0≤x.b)&&decide (x.b<n)&&!(x.a==x.b)&&x.sq.ok&&decide (0<D9 x.sq)&&!(pre.any (Bz x))
def Ps (n:Int) (es:List RE) (i:Nat):Bool:=okE n (es.take i) (H9 es i)
def Di (n:Int) (es:List RE):Bool:=decide (1≤n)&&decide (n≤12)&&decide (es.length≤40)&&(List.range es.length).all (Ps n es)
def C6 (n:Int) (es:List RE):AV:=.int .i64 (if Di n es=true then 0 else 1)
def W5 (es:List RE):Prop:=∀x∈es,x.sq.Lb
theorem W5.at {es:List RE} (h:W5 es) {i:Nat} (hi:i<es.length):(H9 es i).sq.Lb:=by rw[J9 hi];exact h _ (List.getElem_mem hi)
theorem Cv {n:Int} {es:List RE} {i:Nat} (hi:i<es.length) (h:Ps n es i=false):Di n es=false:=by
 unfold Di;have:(List.range es.length).all (Ps n es)=false:=List.all_eq_false.2 ⟨i,by simpa using hi,by rw[h];simp⟩;rw[this,Bool.and_false]
theorem Qjn {b:Nat} (X:RE):B2 (Ac.emp.set b ⟨46,6,[X.av]⟩) Ac.emp (.ptr b 6 0 0) (.rptr [.int .i64 X.a,.int .i64 X.b,.bool X.sq.n1,Ao X.sq.l1,.bool X.sq.n2,Ao X.sq.l2]) :=
 .ptr b 6 0 0 ⟨46,6,[X.av]⟩ X.av (Ac.set_same _ _ _) rfl rfl rfl
theorem C1 {n:Int} {pre:List RE} {x:RE} (h:¬(0≤x.a∧x.a<n∧0≤x.b∧x.b<n∧x.a≠x.b∧x.sq.ok=true∧0<D9 x.sq∧pre.any (Bz x)=false)):okE n pre x=false:=by
 cases hc:okE n pre x with
 |false=>rfl
 |true=>unfold okE at hc;simp only[Bool.and_eq_true,decide_eq_true_eq,Bool.not_eq_true',beq_eq_false_iff_ne]at hc;exact absurd ⟨hc.1.1.1.1.1.1.1,hc.1.1.1.1.1.1.2,hc.1.1.1.1.1.2,hc.1.1.1.1.2,hc.1.1.1.2,hc.1.1.2,hc.1.2,hc.2⟩ h
theorem Vf {n:Int} {pre:List RE} {x:RE} (h:0≤x.a∧x.a<n∧0≤x.b∧x.b<n∧x.a≠x.b∧x.sq.ok=true∧0<D9 x.sq∧pre.any (Bz x)=false):okE n pre x=true:=by
 obtain⟨h1,h2,h3,h4,h5,h6,h7,h8⟩:=h;unfold okE;rw[h6,h8];simp[h1,h2,h3,h4,h5,h7]
theorem Qd8 (n:Int) (es:List RE) (hb:W5 es):Ak Tryz.prog 12 [.int .i64 n,Bc es] Ac.emp fun v m=>v=C6 n es∧m=Ac.emp:=by
 refine Ad Tryz.func12 rfl rfl 111 rfl (Nat.le_of_ble_eq_true rfl) ?_;unfold Bc;(repeat refine AW.seq_k fun K hK=>?_);refine AW.rg ?_;simp[Al];try (refine hK _ rfl ?_;clear hK K)
 by_cases c1:n<1
 ·have hc:Di n es=false:=by unfold Di;simp;omega
  (repeat refine AW.seq_k fun K hK=>?_);refine AW.rg ?_;simp[c1];try (refine hK _ rfl ?_;clear hK K)
  refine AW.yes ?_ rfl;(repeat refine AW.seq_k fun K hK=>?_);refine AW.rg ?_;simp;try (refine hK _ rfl ?_;clear hK K)
  exact AW.ret (Ah rfl _ (.same _) ⟨by unfold C6;rw[hc];rfl,rfl⟩)
 by_cases c2:12<n
 ·have hc:Di n es=false:=by unfold Di;simp;omega
  (repeat refine AW.seq_k fun K hK=>?_);refine AW.rg ?_;simp[c1,c2];try (refine hK _ rfl ?_;clear hK K)
  refine AW.yes ?_ rfl;(repeat refine AW.seq_k fun K hK=>?_);refine AW.rg ?_;simp;try (refine hK _ rfl ?_;clear hK K)
  exact AW.ret (Ah rfl _ (.same _) ⟨by unfold C6;rw[hc];rfl,rfl⟩)
 by_cases c3:(40:Int)<(es.length:Int)
 ·have hc:Di n es=false:=by unfold Di;simp;omega
  (repeat refine AW.seq_k fun K hK=>?_);refine AW.rg ?_;simp[c1,c2,c3];try (refine hK _ rfl ?_;clear hK K)
  refine AW.yes ?_ rfl;(repeat refine AW.seq_k fun K hK=>?_);refine AW.rg ?_;simp;try (refine hK _ rfl ?_;clear hK K)
  exact AW.ret (Ah rfl _ (.same _) ⟨by unfold C6;rw[hc];rfl,rfl⟩)
 (repeat refine AW.seq_k fun K hK=>?_);refine AW.rg ?_;simp[c1,c2,c3];try (refine hK _ rfl ?_;clear hK K)
 refine AW.no ?_ rfl;refine AW.skip ?_;try simp
 try (refine hK _ rfl ?_;clear hK K)
 refine AW.seq_ex (ι:=Unit) (fun _=>[]) (fun _=>Ac.emp) (fun _=>Di n es=true) ?_ ?_
 ·(repeat refine AW.seq_k fun K hK=>?_);refine AW.rg ?_;simp;try (refine hK _ rfl ?_;clear hK K)
  refine AW.block (AW.loopS (ι:=Nat) (fun i=>[(0,.int .i64 n),(1,.sl 6 (Dt es)),(5,.int .i64 (i:Nat))]) (fun _=>Ac.emp)
   (fun i=>i≤es.length∧(List.range i).all (Ps n es)=true) (fun i=>es.length-i) 0 ⟨by simp,by simp⟩ rfl (by simp) ?_)
  rintro i ⟨g1,g2⟩;(repeat refine AW.seq_k fun K hK=>?_);refine AW.rg ?_;simp;try (refine hK _ rfl ?_;clear hK K)
  (repeat refine AW.seq ?_);refine AW.cs (fun hi=>?_) (fun hi=>?_) rfl<;>(try simp at hi)
  ·refine AW.skip ?_;try simp
   try (refine hK _ rfl ?_;clear hK K)
   have w1:=Aq (i+1) (by omega);have g3:∀x,x<i→Ps n es x=true:=by simpa using g2
   have hx:=hb.at hi;have hv:=Jt (H9 es i).sq.n1 (H9 es i).sq.l1 (H9 es i).sq.n2 (H9 es i).sq.l2 hx.1 hx.2;have hs:=Sn (H9 es i).sq hx;have hp:Ps n es i=okE n (es.take i) (H9 es i):=rfl;generalize hX:H9 es i=X at *;have fin:∀s:St,Ps n es i=false→AW Tryz.prog Code.ret (Q3 Tryz.prog Tryz.f12.results.toList fun v m=>v=C6 n es∧m=Ac.emp) (S 111 ((4,.int .i64 1)::[]) Ac.emp):=fun _ hf =>
    AW.ret (Ah rfl _ (.same _) ⟨by unfold C6;rw[Cv hi hf];rfl,rfl⟩)
   (repeat refine AW.seq ?_);refine AW.block ?_;(repeat refine AW.seq_k fun K hK=>?_);refine AW.rg ?_;simp[hi,hX,Cq];try (refine hK _ rfl ?_;clear hK K)
   refine Ae.intro fun b6 hb6=>?_;refine hK _ rfl ?_;clear hK K;refine AW.toEmp [(0,.int .i64 n),(1,.sl 6 (Dt es)),(5,.int .i64 (i:Nat)),(6,.rptr [.int .i64 X.a,.int .i64 X.b,.bool X.sq.n1,Ao X.sq.l1,.bool X.sq.n2,Ao X.sq.l2])] (by simp;exact Qjn X) ?_;by_cases d1:X.a<0
   ·have hf:Ps n es i=false:=by rw[hp];exact C1 (by rintro⟨q1,q2,q3,q4,q5,_⟩;omega)
    (repeat refine AW.seq_k fun K hK=>?_);refine AW.rg ?_;simp[d1];try (refine hK _ rfl ?_;clear hK K)
    refine AW.yes ?_ rfl;(repeat refine AW.seq_k fun K hK=>?_);refine AW.rg ?_;simp;try (refine hK _ rfl ?_;clear hK K)
    exact AW.ret (Ah rfl _ (.same _) ⟨by unfold C6;rw[Cv hi hf];rfl,rfl⟩)
   by_cases d2:n≤X.a
   ·have hf:Ps n es i=false:=by rw[hp];exact C1 (by rintro⟨q1,q2,q3,q4,q5,_⟩;omega)
    (repeat refine AW.seq_k fun K hK=>?_);refine AW.rg ?_;simp[d1,d2];try (refine hK _ rfl ?_;clear hK K)
    refine AW.yes ?_ rfl;(repeat refine AW.seq_k fun K hK=>?_);refine AW.rg ?_;simp;try (refine hK _ rfl ?_;clear hK K)
    exact AW.ret (Ah rfl _ (.same _) ⟨by unfold C6;rw[Cv hi hf];rfl,rfl⟩)
   by_cases d3:X.b<0
   ·have hf:Ps n es i=false:=by rw[hp];exact C1 (by rintro⟨q1,q2,q3,q4,q5,_⟩;omega)
    (repeat refine AW.seq_k fun K hK=>?_);refine AW.rg ?_;simp[d1,d2,d3];try (refine hK _ rfl ?_;clear hK K)
    refine AW.yes ?_ rfl;(repeat refine AW.seq_k fun K hK=>?_);refine AW.rg ?_;simp;try (refine hK _ rfl ?_;clear hK K)
    exact AW.ret (Ah rfl _ (.same _) ⟨by unfold C6;rw[Cv hi hf];rfl,rfl⟩)
   by_cases d4:n≤X.b
   ·have hf:Ps n es i=false:=by rw[hp];exact C1 (by rintro⟨q1,q2,q3,q4,q5,_⟩;omega)
    (repeat refine AW.seq_k fun K hK=>?_);refine AW.rg ?_;simp[d1,d2,d3,d4];try (refine hK _ rfl ?_;clear hK K)
    refine AW.yes ?_ rfl;(repeat refine AW.seq_k fun K hK=>?_);refine AW.rg ?_;simp;try (refine hK _ rfl ?_;clear hK K)
    exact AW.ret (Ah rfl _ (.same _) ⟨by unfold C6;rw[Cv hi hf];rfl,rfl⟩)
   by_cases d5:X.a=X.b
   ·have hf:Ps n es i=false:=by rw[hp];exact C1 (by rintro⟨q1,q2,q3,q4,q5,_⟩;omega)
    (repeat refine AW.seq_k fun K hK=>?_);refine AW.rg ?_;simp[d1,d2,d3,d4,d5];try (refine hK _ rfl ?_;clear hK K)
    refine AW.yes ?_ rfl;(repeat refine AW.seq_k fun K hK=>?_);refine AW.rg ?_;simp;try (refine hK _ rfl ?_;clear hK K)
    exact AW.ret (Ah rfl _ (.same _) ⟨by unfold C6;rw[Cv hi hf];rfl,rfl⟩)
   by_cases d6:X.sq.ok=false
   ·have hf:Ps n es i=false:=by rw[hp];exact C1 (fun q=>by rw[d6]at q;simp at q)
    have hok:Pt X.sq.n1 X.sq.l1 X.sq.n2 X.sq.l2=false:=d6;(repeat refine AW.seq_k fun K hK=>?_);refine AW.rg ?_;simp[d1,d2,d3,d4,d5];try (refine hK _ rfl ?_;clear hK K)
    refine Aa.val hv ?_;simp[hok];try (refine hK _ rfl ?_;clear hK K)
    refine AW.yes ?_ rfl;(repeat refine AW.seq_k fun K hK=>?_);refine AW.rg ?_;simp;try (refine hK _ rfl ?_;clear hK K)
    exact AW.ret (Ah rfl _ (.same _) ⟨by unfold C6;rw[Cv hi hf];rfl,rfl⟩)
   replace d6:X.sq.ok=true:=by simpa using d6
   have hok:Pt X.sq.n1 X.sq.l1 X.sq.n2 X.sq.l2=true:=d6;by_cases d7:D9 X.sq≤0
   ·have hf:Ps n es i=false:=by rw[hp];exact C1 (fun q=>by have:=q.2.2.2.2.2.2.1;omega)
    (repeat refine AW.seq_k fun K hK=>?_);refine AW.rg ?_;simp[d1,d2,d3,d4,d5];try (refine hK _ rfl ?_;clear hK K)
    refine Aa.val hv ?_;simp[hok];refine Aa.val hs ?_;simp[d7];try (refine hK _ rfl ?_;clear hK K)
    refine AW.yes ?_ rfl;(repeat refine AW.seq_k fun K hK=>?_);refine AW.rg ?_;simp;try (refine hK _ rfl ?_;clear hK K)
    exact AW.ret (Ah rfl _ (.same _) ⟨by unfold C6;rw[Cv hi hf];rfl,rfl⟩)
   (repeat refine AW.seq_k fun K hK=>?_);refine AW.rg ?_;simp[d1,d2,d3,d4,d5];try (refine hK _ rfl ?_;clear hK K)
   refine Aa.val hv ?_;simp[hok];refine Aa.val hs ?_;simp[d7];try (refine hK _ rfl ?_;clear hK K)
   refine AW.no ?_ rfl;refine AW.skip ?_;try simp
   try (refine hK _ rfl ?_;clear hK K)
   (repeat refine AW.seq_k fun K hK=>?_);refine AW.rg ?_;simp;try (refine hK _ rfl ?_;clear hK K)
   refine AW.block (AW.loopS (ι:=Nat) (fun k=>[(0,.int .i64 n),(1,.sl 6 (Dt es)),(5,.int .i64 (i:Nat)),(6,.rptr [.int .i64 X.a,.int .i64 X.b,.bool X.sq.n1,Ao X.sq.l1,.bool X.sq.n2,Ao X.sq.l2]),(7,.int .i64 (k:Nat))]) (fun _=>Ac.emp)
    (fun k=>k≤i∧∀q,q<k→Bz X (H9 es q)=false) (fun k=>i-k) 0 ⟨by simp,by simp⟩ rfl (by simp) ?_)
   rintro k ⟨k1,k2⟩;(repeat refine AW.seq_k fun K hK=>?_);refine AW.rg ?_;simp;try (refine hK _ rfl ?_;clear hK K)
   (repeat refine AW.seq ?_);refine AW.cs (fun hk=>?_) (fun hk=>?_) rfl<;>(try simp at hk)
   ·refine AW.skip ?_;try simp
    try (refine hK _ rfl ?_;clear hK K)
    have w2:=Aq (k+1) (by omega);have hkl:k<es.length:=by omega
    have hmem:H9 es k∈es.take i:=by rw[J9 hkl];exact List.mem_take_iff_getElem.2 ⟨k,by omega,rfl⟩
    generalize hY:H9 es k=Y at *;have hf:Bz X Y=true→Ps n es i=false:=fun hs=>by rw[hp];exact C1 (fun q=>by have:=List.any_eq_false.1 q.2.2.2.2.2.2.2 Y hmem;exact this hs)
    have hno:Bz X Y=false→∀q,q<k+1→Bz X (H9 es q)=false:=fun hs q hq=>by
     rcases Nat.lt_or_ge q k with h1|h1
     ·exact k2 q h1
     ·rw[show q=k by omega,hY];exact hs
    (repeat refine AW.seq ?_);refine AW.block ?_;by_cases e1:Y.a=X.a
    ·by_cases e2:Y.b=X.b
     ·have pe1:(Y.a=X.a)=True:=eq_true e1;have pe2:(Y.b=X.b)=True:=eq_true e2;have hs:Bz X Y=true:=by unfold Bz;simp only[BEq.beq,pe1,pe2];simp
      (repeat refine AW.seq_k fun K hK=>?_);refine AW.rd [0,1,2,3,4,5,6,7,8,9,10,11,12,13,14,15,16,17,18,19,20,21,22,23,24,25,26,27,28,29,30,31,32,33,34,35,36,37] Dm ?_;simp[hkl,hY,Cq,pe1,pe2];try (refine hK _ rfl ?_;clear hK K)
      refine AW.yes ?_ rfl;(repeat refine AW.seq_k fun K hK=>?_);refine AW.rg ?_;simp;try (refine hK _ rfl ?_;clear hK K)
      exact AW.ret (Ah rfl _ (.same _) ⟨by unfold C6;rw[Cv hi (hf hs)];rfl,rfl⟩)
     ·by_cases e3:Y.a=X.b
      ·by_cases e4:Y.b=X.a
       ·have pe1:(Y.a=X.a)=True:=eq_true e1;have pe2:(Y.b=X.b)=False:=eq_false e2;have pe3:(Y.a=X.b)=True:=eq_true e3;have pe4:(Y.b=X.a)=True:=eq_true e4;have hs:Bz X Y=true:=by unfold Bz;simp only[BEq.beq,pe1,pe2,pe3,pe4];simp
        (repeat refine AW.seq_k fun K hK=>?_);refine AW.rd [0,1,2,3,4,5,6,7,8,9,10,11,12,13,14,15,16,17,18,19,20,21,22,23,24,25,26,27,28,29,30,31,32,33,34,35,36,37] Dm ?_;simp[hkl,hY,Cq,pe1,pe2,pe3,pe4];try (refine hK _ rfl ?_;clear hK K)
        refine AW.yes ?_ rfl;(repeat refine AW.seq_k fun K hK=>?_);refine AW.rg ?_;simp;try (refine hK _ rfl ?_;clear hK K)
        exact AW.ret (Ah rfl _ (.same _) ⟨by unfold C6;rw[Cv hi (hf hs)];rfl,rfl⟩)
       ·have pe1:(Y.a=X.a)=True:=eq_true e1;have pe2:(Y.b=X.b)=False:=eq_false e2;have pe3:(Y.a=X.b)=True:=eq_true e3;have pe4:(Y.b=X.a)=False:=eq_false e4;have hs:Bz X Y=false:=by unfold Bz;simp only[BEq.beq,pe1,pe2,pe3,pe4];simp
        (repeat refine AW.seq_k fun K hK=>?_);refine AW.rd [0,1,2,3,4,5,6,7,8,9,10,11,12,13,14,15,16,17,18,19,20,21,22,23,24,25,26,27,28,29,30,31,32,33,34,35,36,37] Dm ?_;simp[hkl,hY,Cq,pe1,pe2,pe3,pe4];try (refine hK _ rfl ?_;clear hK K)
        refine AW.no ?_ rfl;refine AW.skip ?_;try simp
        try (refine hK _ rfl ?_;clear hK K)
        (repeat refine AW.seq_k fun K hK=>?_);refine AW.rg ?_;simp[-Int.natCast_add,w2];try (refine hK _ rfl ?_;clear hK K)
        exact⟨⟨by omega,hno hs⟩,by omega⟩
      ·have pe1:(Y.a=X.a)=True:=eq_true e1;have pe2:(Y.b=X.b)=False:=eq_false e2;have pe3:(Y.a=X.b)=False:=eq_false e3;have hs:Bz X Y=false:=by unfold Bz;simp only[BEq.beq,pe1,pe2,pe3];simp
       (repeat refine AW.seq_k fun K hK=>?_);refine AW.rd [0,1,2,3,4,5,6,7,8,9,10,11,12,13,14,15,16,17,18,19,20,21,22,23,24,25,26,27,28,29,30,31,32,33,34,35,36,37] Dm ?_;simp[hkl,hY,Cq,pe1,pe2,pe3];try (refine hK _ rfl ?_;clear hK K)
       refine AW.no ?_ rfl;refine AW.skip ?_;try simp
       try (refine hK _ rfl ?_;clear hK K)
       (repeat refine AW.seq_k fun K hK=>?_);refine AW.rg ?_;simp[-Int.natCast_add,w2];try (refine hK _ rfl ?_;clear hK K)
       exact⟨⟨by omega,hno hs⟩,by omega⟩
    ·by_cases e3:Y.a=X.b
     ·by_cases e4:Y.b=X.a
      ·have pe1:(Y.a=X.a)=False:=eq_false e1;have pe3:(Y.a=X.b)=True:=eq_true e3;have pe4:(Y.b=X.a)=True:=eq_true e4;have hs:Bz X Y=true:=by unfold Bz;simp only[BEq.beq,pe1,pe3,pe4];simp
       (repeat refine AW.seq_k fun K hK=>?_);refine AW.rd [0,1,2,3,4,5,6,7,8,9,10,11,12,13,14,15,16,17,18,19,20,21,22,23,24,25,26,27,28,29,30,31,32,33,34,35,36,37] Dm ?_;simp[hkl,hY,Cq,pe1,pe3,pe4];try (refine hK _ rfl ?_;clear hK K)
       refine AW.yes ?_ rfl;(repeat refine AW.seq_k fun K hK=>?_);refine AW.rg ?_;simp;try (refine hK _ rfl ?_;clear hK K)
       exact AW.ret (Ah rfl _ (.same _) ⟨by unfold C6;rw[Cv hi (hf hs)];rfl,rfl⟩)
      ·have pe1:(Y.a=X.a)=False:=eq_false e1;have pe3:(Y.a=X.b)=True:=eq_true e3;have pe4:(Y.b=X.a)=False:=eq_false e4;have hs:Bz X Y=false:=by unfold Bz;simp only[BEq.beq,pe1,pe3,pe4];simp
       (repeat refine AW.seq_k fun K hK=>?_);refine AW.rd [0,1,2,3,4,5,6,7,8,9,10,11,12,13,14,15,16,17,18,19,20,21,22,23,24,25,26,27,28,29,30,31,32,33,34,35,36,37] Dm ?_;simp[hkl,hY,Cq,pe1,pe3,pe4];try (refine hK _ rfl ?_;clear hK K)
       refine AW.no ?_ rfl;refine AW.skip ?_;try simp
       try (refine hK _ rfl ?_;clear hK K)
       (repeat refine AW.seq_k fun K hK=>?_);refine AW.rg ?_;simp[-Int.natCast_add,w2];try (refine hK _ rfl ?_;clear hK K)
       exact⟨⟨by omega,hno hs⟩,by omega⟩
     ·have pe1:(Y.a=X.a)=False:=eq_false e1;have pe3:(Y.a=X.b)=False:=eq_false e3;have hs:Bz X Y=false:=by unfold Bz;simp only[BEq.beq,pe1,pe3];simp
      (repeat refine AW.seq_k fun K hK=>?_);refine AW.rd [0,1,2,3,4,5,6,7,8,9,10,11,12,13,14,15,16,17,18,19,20,21,22,23,24,25,26,27,28,29,30,31,32,33,34,35,36,37] Dm ?_;simp[hkl,hY,Cq,pe1,pe3];try (refine hK _ rfl ?_;clear hK K)
      refine AW.no ?_ rfl;refine AW.skip ?_;try simp
      try (refine hK _ rfl ?_;clear hK K)
      (repeat refine AW.seq_k fun K hK=>?_);refine AW.rg ?_;simp[-Int.natCast_add,w2];try (refine hK _ rfl ?_;clear hK K)
      exact⟨⟨by omega,hno hs⟩,by omega⟩
   ·refine AW.exit ?_;try simp
    have hki:k=i:=by omega
    have hany:(es.take i).any (Bz X)=false:=by
     rw[List.any_eq_false];intro y hy;obtain⟨q,hq,rfl⟩:=List.mem_take_iff_getElem.1 hy;have:=k2 q (by omega);rw[J9 (by omega)]at this;rw[this];simp
    (repeat refine AW.seq_k fun K hK=>?_);refine AW.rg ?_;simp[-Int.natCast_add,w1];try (refine hK _ rfl ?_;clear hK K)
    exact⟨⟨by omega,by intro q hq;rcases Nat.lt_or_ge q i with h1 | h1;exact g3 q h1;rw[show q=i by omega,hp];exact Vf ⟨by omega,by omega,by omega,by omega,d5,d6,by omega,hany⟩⟩,by omega⟩
  ·refine AW.exit ?_;try simp
   have:i=es.length:=by omega
   unfold Di;rw[←this,g2];simp;omega
 ·rintro _ h;(repeat refine AW.seq_k fun K hK=>?_);refine AW.rg ?_;simp;try (refine hK _ rfl ?_;clear hK K)
  exact AW.ret (Ah rfl _ (.same _) ⟨by unfold C6;rw[h];rfl,rfl⟩)
end Go.Av
end
section
namespace Go.Av
open Go.Proofs Go.Lam
def U2 (pre:List RE) (c:Nat):Bool:=pre.any fun y=>(y.a.toNat*12+y.b.toNat==c) || (y.b.toNat*12+y.a.toNat==c)
def Js (pre:List RE):List AV:=(List.range 144).map fun c=>.bool (U2 pre c)
@[simp] theorem Qn (pre:List RE):(Js pre).length=144:=by simp[Js]
theorem Ry (pre:List RE) {c:Nat} (hc:c<144):(Js pre)[c]?=some (.bool (U2 pre c)):=by simp[Js,hc]
theorem Qi6 (pre:List RE):(Js pre).all AV.one=true:=by simp[Js,AV.one]
def RE.inB (x:RE):Prop:=0≤x.a∧x.a<12∧0≤x.b∧x.b<12
theorem G8 (pre:List RE) (x:RE) (hx:x.inB):((Js pre).set (x.a.toNat*12+x.b.toNat) (.bool true)).set (x.b.toNat*12+x.a.toNat) (.bool true)=Js (pre++[x]):=by
 obtain⟨h1,h2,h3,h4⟩:=hx;refine List.ext_getElem? fun c=>?_;by_cases hc:c<144
 ·rw[Ry _ hc,List.getElem?_set,List.length_set,Qn];by_cases e1:x.b.toNat*12+x.a.toNat=c
  ·rw[if_pos e1,if_pos (by omega)];simp[U2,e1]
  ·rw[if_neg e1,List.getElem?_set,Qn];by_cases e2:x.a.toNat*12+x.b.toNat=c
   ·rw[if_pos e2,if_pos (by omega)];simp[U2,e2]
   ·rw[if_neg e2,Ry _ hc];simp[U2,e1,e2]
 ·rw[List.getElem?_eq_none (by simp;omega),List.getElem?_eq_none (by simp;omega)]
theorem Qfi {pre:List RE} {x:RE} (hp:∀y∈pre,y.inB) (hx:x.inB):U2 pre (x.a.toNat*12+x.b.toNat)=pre.any (Bz x):=by
 unfold U2;rw[Bool.eq_iff_iff,List.any_eq_true,List.any_eq_true];obtain⟨h1,h2,h3,h4⟩:=hx;refine exists_congr fun y=>and_congr_right fun hy=>?_;obtain⟨q1,q2,q3,q4⟩:=hp y hy;unfold Bz;simp only[Bool.or_eq_true,beq_iff_eq,Bool.and_eq_true];omega
theorem Vx {cs:List AV} {j:Nat} (v:Bool) (h:j<cs.length) (hl:cs.length=144):Cd 144 1 (.agg cs) (.bool v) j=.agg (cs.set j (.bool v)):=by
 unfold Cd;rw[if_neg (by omega)];show AV.agg (cs.take j++[.bool v]++cs.drop (j+1))=_
 rw[List.set_eq_take_append_cons_drop,if_pos h];simp
theorem Qgo (bu:Nat) (pre:List RE):∀c y,Ac.emp.set bu ⟨73,144,[.agg (Js pre)]⟩ c=some y→∀v∈y.l,v.cells.all AV.one=true:=by
 intro c y hy v hv;simp only[A9,Az]at hy;split at hy
 ·cases hy;simp only[List.mem_singleton]at hv;subst hv;exact Qi6 pre
 ·cases hy
theorem Qgf {m':Ac} {bu b:Nat} {x:Fb} (X:RE) (h:m' b=none):B2 ((Ac.emp.set bu x).set b ⟨46,6,[X.av]⟩) m' (.ptr b 6 0 0) (.rptr [.int .i64 X.a,.int .i64 X.b,.bool X.sq.n1,Ao X.sq.l1,.bool X.sq.n2,Ao X.sq.l2]) :=
 .ptr b 6 0 0 ⟨46,6,[X.av]⟩ X.av (Ac.set_same _ _ _) h rfl rfl
set_option maxRecDepth 8000 in
theorem Rr (n:Int) (es:List RE) (hb:W5 es):Ak Tryz.prog 18 [.int .i64 n,Bc es] Ac.emp fun v m=>v=C6 n es∧m=Ac.emp:=by
 refine Ad Tryz.func18 rfl rfl 84 rfl (Nat.le_of_ble_eq_true rfl) ?_;unfold Bc;(repeat refine AW.seq_k fun K hK=>?_);refine AW.rg ?_;simp[Al];try (refine hK _ rfl ?_;clear hK K)
 by_cases c1:n<1
 ·have hc:Di n es=false:=by unfold Di;simp;omega
  (repeat refine AW.seq_k fun K hK=>?_);refine AW.rg ?_;simp[c1];try (refine hK _ rfl ?_;clear hK K)
  refine AW.yes ?_ rfl;(repeat refine AW.seq_k fun K hK=>?_);refine AW.rg ?_;simp;try (refine hK _ rfl ?_;clear hK K)
  exact AW.ret (Ah rfl _ (.same _) ⟨by unfold C6;rw[hc];rfl,rfl⟩)
 by_cases c2:12<n
 ·have hc:Di n es=false:=by unfold Di;simp;omega
  (repeat refine AW.seq_k fun K hK=>?_);refine AW.rg ?_;simp[c1,c2];try (refine hK _ rfl ?_;clear hK K)
  refine AW.yes ?_ rfl;(repeat refine AW.seq_k fun K hK=>?_);refine AW.rg ?_;simp;try (refine hK _ rfl ?_;clear hK K)
  exact AW.ret (Ah rfl _ (.same _) ⟨by unfold C6;rw[hc];rfl,rfl⟩)
 by_cases c3:(40:Int)<(es.length:Int)
 ·have hc:Di n es=false:=by unfold Di;simp;omega
  (repeat refine AW.seq_k fun K hK=>?_);refine AW.rg ?_;simp[c1,c2,c3];try (refine hK _ rfl ?_;clear hK K)
  refine AW.yes ?_ rfl;(repeat refine AW.seq_k fun K hK=>?_);refine AW.rg ?_;simp;try (refine hK _ rfl ?_;clear hK K)
  exact AW.ret (Ah rfl _ (.same _) ⟨by unfold C6;rw[hc];rfl,rfl⟩)
 (repeat refine AW.seq_k fun K hK=>?_);refine AW.rg ?_;simp[c1,c2,c3];try (refine hK _ rfl ?_;clear hK K)
 refine AW.no ?_ rfl;refine AW.skip ?_;try simp
 try (refine hK _ rfl ?_;clear hK K)
 (repeat refine AW.seq_k fun K hK=>?_);refine AW.rg ?_;simp;try (refine hK _ rfl ?_;clear hK K)
 refine Ae.intro fun bu hbu=>?_;refine hK _ rfl ?_;clear hK K;refine AW.seq_ex (ι:=Unit) (fun _=>[]) (fun _=>Ac.emp.set bu ⟨73,144,[.agg (Js es)]⟩) (fun _=>Di n es=true) ?_ ?_
 ·(repeat refine AW.seq_k fun K hK=>?_);refine AW.rg ?_;simp;try (refine hK _ rfl ?_;clear hK K)
  refine AW.block (AW.loopS (ι:=Nat) (fun i=>[(0,.int .i64 n),(1,.sl 6 (Dt es)),(5,.ptr bu 144 0 0),(19,.sl 6 (Dt es)),(20,.int .i64 (es.length:Nat)),(21,.int .i64 (i:Nat))]) (fun i=>Ac.emp.set bu ⟨73,144,[.agg (Js (es.take i))]⟩)
   (fun i=>i≤es.length∧(List.range i).all (Ps n es)=true) (fun i=>es.length-i) 0 ⟨by simp,by simp⟩ (by rfl) (by simp) ?_)
  rintro i ⟨g1,g2⟩;(repeat refine AW.seq_k fun K hK=>?_);refine AW.rg ?_;simp;try (refine hK _ rfl ?_;clear hK K)
  (repeat refine AW.seq ?_);refine AW.cs (fun hi=>?_) (fun hi=>?_) rfl<;>(try simp at hi)
  ·refine AW.skip ?_;try simp
   try (refine hK _ rfl ?_;clear hK K)
   have w1:=Aq (i+1) (by omega);have g3:∀x,x<i→Ps n es x=true:=by simpa using g2
   have hx:=hb.at hi;have hv:=Gf (H9 es i).sq hx;have hs:=Oo (H9 es i).sq hx;have hp:Ps n es i=okE n (es.take i) (H9 es i):=rfl;have htk:es.take (i+1)=es.take i++[H9 es i]:=by rw[J9 hi,List.take_add_one,List.getElem?_eq_getElem hi];rfl
   have hpre:∀y∈es.take i,y.inB:=by
    intro y hy;obtain⟨q,hq,rfl⟩:=List.mem_take_iff_getElem.1 hy;have h1:=g3 q (by omega);unfold Ps okE at h1;rw[J9 (by omega)]at h1;simp only[Bool.and_eq_true,decide_eq_true_eq]at h1;exact⟨by omega,by omega,by omega,by omega⟩
   generalize hX:H9 es i=X at *;(repeat refine AW.seq ?_);refine AW.block ?_;(repeat refine AW.seq_k fun K hK=>?_);refine AW.rg ?_;simp[hi,hX,Cq];try (refine hK _ rfl ?_;clear hK K)
   refine Ae.intro fun b6 hb6=>?_;simp only[Am,Az,and_true]at hb6;have hb6':=hb6.1;have hb6'':=hb6.2;refine hK _ rfl ?_;clear hK K;refine AW.turn [(0,.int .i64 n),(1,.sl 6 (Dt es)),(5,.ptr bu 144 0 0),(7,.rptr [.int .i64 X.a,.int .i64 X.b,.bool X.sq.n1,Ao X.sq.l1,.bool X.sq.n2,Ao X.sq.l2]),(19,.sl 6 (Dt es)),(20,.int .i64 (es.length:Nat)),(21,.int .i64 (i:Nat))] (Ac.emp.set bu ⟨73,144,[.agg (Js (es.take i))]⟩) (Bm.drop (by simp[hb6',hb6'']) (Qgo bu (es.take i))) ?_ ?_
   ·simp;exact Qgf X (by simp[hb6'])
   by_cases d1:X.a<0
   ·have hf:Ps n es i=false:=by rw[hp];exact C1 (by rintro⟨q1,q2,q3,q4,q5,_⟩;omega)
    (repeat refine AW.seq_k fun K hK=>?_);refine AW.rdL [bu] [0,1,2,3,4,5,6,7,8,9,10,11,12,13,14,15,16,17,18,19,20,21,22,23,24,25,26,27,28,29,30,31,32,33,34,35] Dm (by simp) ?_;simp[d1];try (refine hK _ rfl ?_;clear hK K)
    refine AW.yes ?_ rfl;(repeat refine AW.seq_k fun K hK=>?_);refine AW.rg ?_;simp;try (refine hK _ rfl ?_;clear hK K)
    exact AW.ret (Ah rfl _ (.same _) ⟨by unfold C6;rw[Cv hi hf];rfl,rfl⟩)
   by_cases d2:n≤X.a
   ·have hf:Ps n es i=false:=by rw[hp];exact C1 (by rintro⟨q1,q2,q3,q4,q5,_⟩;omega)
    (repeat refine AW.seq_k fun K hK=>?_);refine AW.rdL [bu] [0,1,2,3,4,5,6,7,8,9,10,11,12,13,14,15,16,17,18,19,20,21,22,23,24,25,26,27,28,29,30,31,32,33,34,35] Dm (by simp) ?_;simp[d1,d2];try (refine hK _ rfl ?_;clear hK K)
    refine AW.yes ?_ rfl;(repeat refine AW.seq_k fun K hK=>?_);refine AW.rg ?_;simp;try (refine hK _ rfl ?_;clear hK K)
    exact AW.ret (Ah rfl _ (.same _) ⟨by unfold C6;rw[Cv hi hf];rfl,rfl⟩)
   by_cases d3:X.b<0
   ·have hf:Ps n es i=false:=by rw[hp];exact C1 (by rintro⟨q1,q2,q3,q4,q5,_⟩;omega)
    (repeat refine AW.seq_k fun K hK=>?_);refine AW.rdL [bu] [0,1,2,3,4,5,6,7,8,9,10,11,12,13,14,15,16,17,18,19,20,21,22,23,24,25,26,27,28,29,30,31,32,33,34,35] Dm (by simp) ?_;simp[d1,d2,d3];try (refine hK _ rfl ?_;clear hK K)
    refine AW.yes ?_ rfl;(repeat refine AW.seq_k fun K hK=>?_);refine AW.rg ?_;simp;try (refine hK _ rfl ?_;clear hK K)
    exact AW.ret (Ah rfl _ (.same _) ⟨by unfold C6;rw[Cv hi hf];rfl,rfl⟩)
   by_cases d4:n≤X.b
   ·have hf:Ps n es i=false:=by rw[hp];exact C1 (by rintro⟨q1,q2,q3,q4,q5,_⟩;omega)
    (repeat refine AW.seq_k fun K hK=>?_);refine AW.rdL [bu] [0,1,2,3,4,5,6,7,8,9,10,11,12,13,14,15,16,17,18,19,20,21,22,23,24,25,26,27,28,29,30,31,32,33,34,35] Dm (by simp) ?_;simp[d1,d2,d3,d4];try (refine hK _ rfl ?_;clear hK K)
    refine AW.yes ?_ rfl;(repeat refine AW.seq_k fun K hK=>?_);refine AW.rg ?_;simp;try (refine hK _ rfl ?_;clear hK K)
    exact AW.ret (Ah rfl _ (.same _) ⟨by unfold C6;rw[Cv hi hf];rfl,rfl⟩)
   by_cases d5:X.a=X.b
   ·have hf:Ps n es i=false:=by rw[hp];exact C1 (by rintro⟨q1,q2,q3,q4,q5,_⟩;omega)
    (repeat refine AW.seq_k fun K hK=>?_);refine AW.rdL [bu] [0,1,2,3,4,5,6,7,8,9,10,11,12,13,14,15,16,17,18,19,20,21,22,23,24,25,26,27,28,29,30,31,32,33,34,35] Dm (by simp) ?_;simp[d1,d2,d3,d4,d5];try (refine hK _ rfl ?_;clear hK K)
    refine AW.yes ?_ rfl;(repeat refine AW.seq_k fun K hK=>?_);refine AW.rg ?_;simp;try (refine hK _ rfl ?_;clear hK K)
    exact AW.ret (Ah rfl _ (.same _) ⟨by unfold C6;rw[Cv hi hf];rfl,rfl⟩)
   have hin:X.inB:=⟨by omega,by omega,by omega,by omega⟩;have hug:=Ry (es.take i) (c:=X.a.toNat*12+X.b.toNat) (by obtain⟨q1,q2,q3,q4⟩:=hin;omega);have hus:=Qfi (pre:=es.take i) (x:=X) hpre hin;have l1:X.a<12:=by omega
   have l2:X.b<12:=by omega
   have l3:0≤X.a:=by omega
   have l4:0≤X.b:=by omega
   by_cases d0:(es.take i).any (Bz X)=true
   ·have hf:Ps n es i=false:=by rw[hp];exact C1 (fun q=>by have:=q.2.2.2.2.2.2.2;rw[d0]at this;cases this)
    rw[hus,d0]at hug;(repeat refine AW.seq_k fun K hK=>?_);refine AW.rdL [bu] [0,1,2,3,4,5,6,7,8,9,10,11,12,13,14,15,16,17,18,19,20,21,22,23,24,25,26,27,28,29,30,31,32,33,34,35] Dm (by simp) ?_;simp[d1,d2,d3,d4,d5,l1,l2,l3,l4,hug];try (refine hK _ rfl ?_;clear hK K)
    refine AW.yes ?_ rfl;(repeat refine AW.seq_k fun K hK=>?_);refine AW.rg ?_;simp;try (refine hK _ rfl ?_;clear hK K)
    exact AW.ret (Ah rfl _ (.same _) ⟨by unfold C6;rw[Cv hi hf];rfl,rfl⟩)
   replace d0:(es.take i).any (Bz X)=false:=by simpa using d0
   rw[hus,d0]at hug;(repeat refine AW.seq_k fun K hK=>?_);refine AW.rdL [bu] [0,1,2,3,4,5,6,7,8,9,10,11,12,13,14,15,16,17,18,19,20,21,22,23,24,25,26,27,28,29,30,31,32,33,34,35] Dm (by simp) ?_;simp[d1,d2,d3,d4,d5,l1,l2,l3,l4,hug];try (refine hK _ rfl ?_;clear hK K)
   refine AW.no ?_ rfl;refine AW.skip ?_;try simp
   try (refine hK _ rfl ?_;clear hK K)
   by_cases d6:X.sq.ok=false
   ·have hf:Ps n es i=false:=by rw[hp];exact C1 (fun q=>by rw[d6]at q;simp at q)
    (repeat refine AW.seq_k fun K hK=>?_);refine AW.rg ?_;simp;try (refine hK _ rfl ?_;clear hK K)
    refine Aa.val hv ?_;simp[d6];try (refine hK _ rfl ?_;clear hK K)
    refine AW.yes ?_ rfl;(repeat refine AW.seq_k fun K hK=>?_);refine AW.rg ?_;simp;try (refine hK _ rfl ?_;clear hK K)
    exact AW.ret (Ah rfl _ (.same _) ⟨by unfold C6;rw[Cv hi hf];rfl,rfl⟩)
   replace d6:X.sq.ok=true:=by simpa using d6
   by_cases d7:D9 X.sq≤0
   ·have hf:Ps n es i=false:=by rw[hp];exact C1 (fun q=>by have:=q.2.2.2.2.2.2.1;omega)
    (repeat refine AW.seq_k fun K hK=>?_);refine AW.rg ?_;simp;try (refine hK _ rfl ?_;clear hK K)
    refine Aa.val hv ?_;simp[d6];refine Aa.val hs ?_;simp[d7];try (refine hK _ rfl ?_;clear hK K)
    refine AW.yes ?_ rfl;(repeat refine AW.seq_k fun K hK=>?_);refine AW.rg ?_;simp;try (refine hK _ rfl ?_;clear hK K)
    exact AW.ret (Ah rfl _ (.same _) ⟨by unfold C6;rw[Cv hi hf];rfl,rfl⟩)
   (repeat refine AW.seq_k fun K hK=>?_);refine AW.rg ?_;simp;try (refine hK _ rfl ?_;clear hK K)
   refine Aa.val hv ?_;simp[d6];refine Aa.val hs ?_;simp[d7];try (refine hK _ rfl ?_;clear hK K)
   refine AW.no ?_ rfl;refine AW.skip ?_;try simp
   try (refine hK _ rfl ?_;clear hK K)
   have st1:=Vx (cs:=Js (es.take i)) (j:=X.a.toNat*12+X.b.toNat) true (by simp;obtain⟨q1,q2,q3,q4⟩:=hin;omega) (by simp);have st2:=Vx (cs:=(Js (es.take i)).set (X.a.toNat*12+X.b.toNat) (.bool true)) (j:=X.b.toNat*12+X.a.toNat) true (by simp;obtain⟨q1,q2,q3,q4⟩:=hin;omega) (by simp);have pj1:X.a.toNat*12+X.b.toNat<144:=by omega
   have pj2:X.b.toNat*12+X.a.toNat<144:=by omega
   (repeat refine AW.seq_k fun K hK=>?_);refine AW.rdT [] [7,71,73,75,77] [] [] [0,1,2,3,4,5,6,7,8,9,11,10,12,13] Dm (by simp[l1,l2,l3,l4,st1,st2,G8 _ _ hin,pj1,pj2]) (by simp[l1,l2,l3,l4,st1,st2,G8 _ _ hin,pj1,pj2]) (by simp[l1,l2,l3,l4,st1,st2,G8 _ _ hin,pj1,pj2]) (by simp[l1,l2,l3,l4,st1,st2,G8 _ _ hin,pj1,pj2]) (by simp[l1,l2,l3,l4,st1,st2,G8 _ _ hin,pj1,pj2]) ?_;simp[l1,l2,l3,l4,st1,st2,G8 _ _ hin,pj1,pj2];try (refine hK _ rfl ?_;clear hK K)
   refine⟨by omega,by omega,?_⟩;(repeat refine AW.seq_k fun K hK=>?_);refine AW.rg ?_;simp[-Int.natCast_add,w1];try (refine hK _ rfl ?_;clear hK K)
   exact⟨i+1,⟨by omega,by intro q hq;rcases Nat.lt_or_ge q i with h1 | h1;exact g3 q h1;rw[show q=i by omega,hp];exact Vf ⟨by omega,by omega,by omega,by omega,d5,d6,by omega,d0⟩⟩,by omega,by rw[htk],rfl⟩
  ·refine AW.exit ?_;try simp
   have:i=es.length:=by omega
   refine⟨?_,?_⟩
   ·unfold Di;rw[←this,g2];simp;omega
   ·rw[List.take_of_length_le (by omega)]
 ·rintro _ h;(repeat refine AW.seq_k fun K hK=>?_);refine AW.rg ?_;simp;try (refine hK _ rfl ?_;clear hK K)
  exact AW.ret (Ah rfl _ (.same _) ⟨by unfold C6;rw[h];rfl,rfl⟩)
end Go.Av
end
section
namespace Go.Av
open Go.Proofs Go.Lam
theorem Fi {n:Int} {es:List RE} (h:Di n es=true):(1≤n∧n≤12∧es.length≤40)∧∀i,i<es.length→okE n (es.take i) (H9 es i)=true:=by
 unfold Di at h;simp only[Bool.and_eq_true,decide_eq_true_eq,List.all_eq_true,List.mem_range]at h;exact⟨⟨h.1.1.1,h.1.1.2,h.1.2⟩,h.2⟩
theorem R3 {n:Int} {pre:List RE} {x:RE} (h:okE n pre x=true):0≤x.a∧x.a<n∧0≤x.b∧x.b<n∧x.a≠x.b∧x.sq.ok=true∧0<D9 x.sq∧pre.any (Bz x)=false:=by
 unfold okE at h;simp only[Bool.and_eq_true,decide_eq_true_eq,Bool.not_eq_true',beq_eq_false_iff_ne]at h;exact⟨h.1.1.1.1.1.1.1,h.1.1.1.1.1.1.2,h.1.1.1.1.1.2,h.1.1.1.1.2,h.1.1.1.2,h.1.1.2,h.1.2,h.2⟩
theorem Nl {n:Int} {es:List RE} (h:Di n es=true):Nj n.toNat es:=by
 obtain⟨⟨h1,h2,h3⟩,h4⟩:=Fi h;intro i hi;obtain⟨q1,q2,q3,q4,q5,_⟩:=R3 (h4 i hi);unfold Ag Ec;simp only;omega
def Ip (n:Int) (es:List RE):List Nat:=if Di n es=true then Ch n.toNat (Ag es) [] (List.range es.length) else []
theorem Nj.at {n:Nat} {es:List RE} (h:Nj n es) {s:List Nat} (hs:∀i∈s,i<es.length):∀i∈s,Ec n (Ag es i):=fun i hi=>(h i (hs i hi)).2.2
theorem Qkk {n:Nat} {E:Nat→Ed} {i k:Nat} (h:k∈Ch n E [] (List.range i)):k<i:=by
 rcases O8 h with h1|h1
 ·simp at h1
 ·simpa using h1
theorem Qjv (n:Nat) (E:Nat→Ed) (i:Nat):(Ch n E [] (List.range i)).length≤i:=by
 have:=Hh (n:=n) (E:=E) (List.range i) [];simpa using this
def W7 (n:Int) (es:List RE):AV:=.int .i64 (if Di n es=true then (if n=1 then 0 else 2*n-3-((Ip n es).length:Int)) else 0)
theorem Zn {n:Int} {es:List RE} (h:Di n es=true):(Ip n es).length≤40:=by
 obtain⟨⟨h1,h2,h3⟩,_⟩:=Fi h;unfold Ip;rw[if_pos h];have:=Qjv n.toNat (Ag es) es.length;omega
end Go.Av
end
section
namespace Go.Av
open Go.Proofs Go.Lam
theorem Qby (l:List Nat) (e:Nat) (hl:l.length<2^40):Ak Tryz.prog 89 [.sl 1 (A0 l),.int .i64 (e:Nat)] Ac.emp fun v m=>(∃t:Int,v=.int .i64 t∧(0≤t↔e∈l))∧m=Ac.emp:=by
 refine Ad Tryz.func89 rfl rfl 19 rfl (Nat.le_of_ble_eq_true rfl) ?_;(repeat refine AW.seq_k fun K hK=>?_);refine AW.rg ?_;simp[Al];try (refine hK _ rfl ?_;clear hK K)
 refine AW.seq_ex (ι:=Unit) (fun _=>[]) (fun _=>Ac.emp) (fun _=>e ∉ l) ?_ ?_
 ·(repeat refine AW.seq_k fun K hK=>?_);refine AW.rg ?_;simp;try (refine hK _ rfl ?_;clear hK K)
  refine AW.block (AW.loopS (ι:=Nat) (fun i=>[(0,.sl 1 (A0 l)),(1,.int .i64 (e:Nat)),(7,.int .i64 (l.length:Nat)),(8,.int .i64 (i:Nat))]) (fun i=>Ac.emp)
   (fun i=>i≤l.length∧∀k,(h:k<l.length)→k<i→l[k]≠e) (fun i=>l.length-i) 0 ⟨by simp,by omega⟩ rfl (by simp) ?_)
  rintro i ⟨g1,g2⟩;(repeat refine AW.seq_k fun K hK=>?_);refine AW.rg ?_;simp;try (refine hK _ rfl ?_;clear hK K)
  (repeat refine AW.seq ?_);refine AW.cs (fun hi=>?_) (fun hi=>?_) rfl<;>(try simp at hi)
  ·refine AW.skip ?_;try simp
   try (refine hK _ rfl ?_;clear hK K)
   have w1:=Aq (i+1) (by omega);(repeat refine AW.seq ?_);refine AW.block ?_;(repeat refine AW.seq_k fun K hK=>?_);refine AW.rg ?_;simp;try (refine hK _ rfl ?_;clear hK K)
   (repeat refine AW.seq_k fun K hK=>?_);refine AW.rg ?_;simp[hi];try (refine hK _ rfl ?_;clear hK K)
   (repeat refine AW.seq ?_);refine AW.cs (fun he=>?_) (fun he=>?_) rfl<;>(try simp at he)
   ·(repeat refine AW.seq_k fun K hK=>?_);refine AW.rg ?_;simp;try (refine hK _ rfl ?_;clear hK K)
    exact AW.ret (Ah rfl _ (.same _) ⟨⟨i,rfl,⟨fun _=>(by rw[he];exact List.getElem_mem hi),fun _=>(by omega)⟩⟩,rfl⟩)
   ·refine AW.skip ?_;try simp
    try (refine hK _ rfl ?_;clear hK K)
    (repeat refine AW.seq_k fun K hK=>?_);refine AW.rg ?_;simp[-Int.natCast_add,w1];try (refine hK _ rfl ?_;clear hK K)
    refine⟨⟨by omega,fun k h hk=>?_⟩,by omega⟩;rcases Nat.lt_or_ge k i with h1 | h1
    ·exact g2 k h h1
    ·have:k=i:=by omega
     subst this;exact fun h=>he h.symm
  ·refine AW.exit ?_;try simp
   intro hm;obtain⟨k,hk,rfl⟩:=List.mem_iff_getElem.1 hm;exact g2 k hk (by omega) rfl
 ·rintro _ h;(repeat refine AW.seq_k fun K hK=>?_);refine AW.rg ?_;simp;try (refine hK _ rfl ?_;clear hK K)
  exact AW.ret (Ah rfl _ (.same _) ⟨⟨-1,rfl,⟨fun h=>(by omega),fun h'=>absurd h' h⟩⟩,rfl⟩)
theorem We (l:List Nat) (e:Nat) (hl:l.length<2^40):Ak Tryz.prog 50 [.sl 1 (A0 l),.int .i64 (e:Nat)] Ac.emp fun v m=>v=.bool (decide (e∈l))∧m=Ac.emp:=by
 have hc:=Qby l e hl;refine Ad Tryz.func50 rfl rfl 9 rfl (Nat.le_of_ble_eq_true rfl) ?_;(repeat refine AW.seq_k fun K hK=>?_);refine AW.rg ?_;simp[Al];try (refine hK _ rfl ?_;clear hK K)
 (repeat refine AW.seq_k fun K hK=>?_);refine AW.rg ?_;simp;try (refine hK _ rfl ?_;clear hK K)
 refine Aa.pure hc ?_;rintro _ ⟨t,rfl,ht⟩;simp;try (refine hK _ rfl ?_;clear hK K)
 exact AW.ret (Ah rfl _ (.same _) ⟨by show AV.bool (decide (0≤t))=_;rw[decide_eq_decide.2 ht],rfl⟩)
theorem Y3 (b:Nat) (l:List Nat):∀c y,Ac.emp.set b ⟨3,1,A0 l⟩ c=some y→∀v∈y.l,v.cells.all AV.one=true:=by
 intro c y hy v hv;simp only[A9,Az]at hy;split at hy
 ·cases hy;exact C7 _ v hv
 ·cases hy
theorem Qdb (l:List Nat) (hl:l.length<2^40) (h0:l≠[]):Ak Tryz.prog 52 [.sl 1 (A0 l)] Ac.emp fun v m=>∃b,v=.osl b 1 0 l.length∧m=Ac.emp.set b ⟨3,1,A0 l⟩:=by
 have hi:A0 l≠[]:=by intro h;have:=Md l;rw[h]at this;exact h0 (List.eq_nil_of_length_eq_zero this.symm)
 refine Ad Tryz.func52 rfl rfl 8 rfl (Nat.le_of_ble_eq_true rfl) ?_;(repeat refine AW.seq_k fun K hK=>?_);refine AW.rg ?_;simp[Al];try (refine hK _ rfl ?_;clear hK K)
 (repeat refine AW.seq_k fun K hK=>?_);refine AW.rg ?_;simp[Nh,hi];try (refine hK _ rfl ?_;clear hK K)
 refine AW.no ?_ rfl;refine AW.skip ?_;try simp
 try (refine hK _ rfl ?_;clear hK K)
 (repeat refine AW.seq_k fun K hK=>?_);refine AW.rg ?_;simp;try (refine hK _ rfl ?_;clear hK K)
 refine Ae.intro fun b5 _=>⟨by omega,by unfold maxLen;omega,Ae.intro fun b7 _=>?_⟩;refine hK _ rfl ?_;clear hK K;exact AW.ret (Cf rfl (Y3 b7 l) ⟨b7,rfl,rfl⟩)
theorem Qk (b:Nat) (l:List Nat) (k:Nat) (hk:k<l.length) (hl:l.length<2^40):Ak Tryz.prog 51 [.osl b 1 0 l.length,.int .i64 (k:Nat),.int .i64 ((k+1:Nat):Int)] (Ac.emp.set b ⟨3,1,A0 l⟩) fun v m=>v=.osl b 1 0 (l.length-1)∧m=Ac.emp.set b ⟨3,1,A0 (l.eraseIdx k)⟩:=by
 have hkn:¬(k:Int)=((k+1:Nat):Int):=by omega
 refine Ad Tryz.func51 rfl rfl 33 rfl (Nat.le_of_ble_eq_true rfl) ?_;(repeat refine AW.seq_k fun K hK=>?_);refine AW.rg ?_;simp[-Int.natCast_add,Al];try (refine hK _ rfl ?_;clear hK K)
 have w0:((l.length:Int)).toNat=l.length:=by simp
 have c0:(0:Int)≤(l.length:Int):=by omega
 have c1:((k+1:Nat):Int)≤(l.length:Int):=by omega
 have c2:(k:Int)≤((k+1:Nat):Int):=by omega
 have c3:¬l.length=k:=by omega
 (repeat refine AW.seq_k fun K hK=>?_);refine AW.rg ?_;simp[-Int.natCast_add,c0,c1,c2,c3];try (refine hK _ rfl ?_;clear hK K)
 (repeat refine AW.seq_k fun K hK=>?_);refine AW.rg ?_;simp[-Int.natCast_add,hkn];try (refine hK _ rfl ?_;clear hK K)
 refine AW.no ?_ rfl;refine AW.skip ?_;try simp[-Int.natCast_add]
 try (refine hK _ rfl ?_;clear hK K)
 (repeat refine AW.seq_k fun K hK=>?_);refine AW.rg ?_;simp[-Int.natCast_add];try (refine hK _ rfl ?_;clear hK K)
 have key:(A0 l).take k++(A0 l).drop (k+1)++(A0 l).drop (l.length-1)=A0 (l.eraseIdx k++l.drop (l.length-1)):=by
  rw[List.eraseIdx_eq_take_drop_succ];simp[A0,List.map_take,List.map_drop]
 have hel:(l.eraseIdx k).length=l.length-1:=by rw[List.length_eraseIdx,if_pos hk]
 have hdl:(l.drop (l.length-1)).length=1:=by simp;omega
 have key2:(A0 (l.eraseIdx k++l.drop (l.length-1))).take (l.length-1)=A0 (l.eraseIdx k):=by
  unfold A0;rw[←List.map_take,List.take_append_of_le_length (by omega),List.take_of_length_le (by omega)]
 refine AW.seq_has [(0,.osl b 1 0 (l.length-1)),(7,.int .i64 (l.length:Nat))] (Ac.emp.set b ⟨3,1,A0 (l.eraseIdx k++l.drop (l.length-1))⟩) ?_ ?_
 ·refine AW.rdLR [26] [] [0,1,2,3,4,5,6,7] Dm (by simp[-Int.natCast_add]) ?_;by_cases hlast:k+1=l.length
  ·have hne:¬l=[]:=by rintro rfl;simp at hk
   simp[c0,c1,c2,hlast,Yw,hne];refine⟨by omega,by omega,by unfold maxLen;omega,by omega,?_,by omega⟩;have hd:(A0 l).drop (k+1)=[]:=List.drop_of_length_le (by simp;omega);rw[hd,List.append_nil,show l.length-1=k by omega]at key;rw[List.take_append_drop]at key;rw[show l.length-1=k by omega,←key]
  ·have c5:¬l.length=k+1:=by omega
   simp[-Int.natCast_add,c0,c1,c2,c5,Yw];have ht:List.take (l.length-(k+1)) (List.drop (k+1) (A0 l))=List.drop (k+1) (A0 l):=List.take_of_length_le (by simp);refine⟨by omega,by omega,fun x hx=>?_,by omega,by unfold maxLen;omega,by omega,?_,by omega⟩
   ·have hm:x∈A0 l:=List.mem_of_mem_drop (List.mem_of_mem_take hx);unfold A0 at hm;obtain⟨y,_,rfl⟩:=List.mem_map.1 hm;exact⟨rfl,by simp[AV.cells,AV.one]⟩
   ·rw[ht,show k+(l.length-(k+1))=l.length-1 by omega,←List.append_assoc,key]
 (repeat refine AW.seq_k fun K hK=>?_);refine AW.rgY ?_;simp[Qig,isY,Qqs];refine⟨b,0,⟨rfl,rfl⟩,_,⟨rfl,rfl⟩,rfl,.i64,.i64,l.length-1,⟨rfl,rfl⟩,l.length,⟨rfl,rfl⟩,by omega,by simp[hel,hdl];omega,b,_,_,⟨rfl,rfl,rfl⟩,_,⟨rfl,rfl⟩,by omega,by simp[hel,hdl];omega,?_⟩;refine hK _ rfl ?_;clear hK K;(repeat refine AW.seq_k fun K hK=>?_);refine AW.rg ?_;simp;try (refine hK _ rfl ?_;clear hK K)
 refine AW.shrink (b:=b) (e:=3) (z:=1) (by simp only[A9,if_true];rfl) (l.length-1) ?_;simp;rw[List.take_append_of_le_length (by simp[hel,hdl]),List.take_take,Nat.min_self,key2];exact AW.ret (Cf rfl (Y3 b _) ⟨rfl,rfl⟩)
end Go.Av
end
section
namespace Go.Av
open Go.Proofs Go.Lam
def hdO (o:Option Nat) (l:List Nat):AV:=match o with
 |none=>.nil
 |some b=>.osl b 1 0 l.length
def Hx (bs:List (Option Nat)) (cl:List (List Nat)):List AV:=List.zipWith hdO bs cl
def E2 (fl:List Nat):Nat→Nat:=fun v=>fl.getD v 0
def Dw (cl:List (List Nat)):Nat→List Nat:=fun v=>cl.getD v []
def C8 (es:List RE) (bf bc n:Nat):Fb:=⟨105,3,[.agg [.sl 6 (Dt es),.osl bf 1 0 n,.osl bc 1 0 n]]⟩
structure Dv (M:Ac) (n bg bf bc:Nat) (es:List RE) (fl:List Nat) (bs:List (Option Nat)) (cl:List (List Nat)):Prop where
 g:M bg=some (C8 es bf bc n)
 f:M bf=some ⟨3,1,A0 fl⟩
 c:M bc=some ⟨25,1,Hx bs cl⟩
 fll:fl.length=n
 bsl:bs.length=n
 cll:cl.length=n
 row:∀(i b:Nat),bs[i]?=some (some b)→M b=some ⟨3,1,A0 (Dw cl i)⟩
 nil:∀(i:Nat),bs[i]?=some none→Dw cl i=[]
 nd:bg≠bf∧bg≠bc∧bf≠bc
 ndr:∀(i b:Nat),bs[i]?=some (some b)→b≠bg∧b≠bf∧b≠bc
 inj:∀(i j b:Nat),bs[i]?=some (some b)→bs[j]?=some (some b)→i=j
def Bh (bg bf bc:Nat) (bs:List (Option Nat)):List Nat:=bg::bf::bc::bs.filterMap id
def F1 (M:Ac) (l:List Nat):Prop:=∀k,M k≠none→k∈l
theorem Bl {bg bf bc k:Nat} {bs:List (Option Nat)}:k∈Bh bg bf bc bs↔k=bg∨k=bf∨k=bc∨∃i:Nat,bs[i]?=some (some k):=by
 unfold Bh;simp only[List.mem_cons,List.mem_filterMap,id_eq,exists_eq_right];refine or_congr_right (or_congr_right (or_congr_right ?_));exact List.mem_iff_getElem?
section
variable {M:Ac} {n bg bf bc:Nat} {es:List RE} {fl:List Nat} {bs:List (Option Nat)} {cl:List (List Nat)}
theorem Hl (h:Dv M n bg bf bc es fl bs cl):(Hx bs cl).length=n:=by simp[Hx,h.bsl,h.cll]
theorem Me (h:Dv M n bg bf bc es fl bs cl) {i:Nat} (hi:i<n):∃o,bs[i]?=some o∧(Hx bs cl)[i]?=some (hdO o (Dw cl i)):=by
 have h1:i<bs.length:=by rw[h.bsl];exact hi
 have h2:i<cl.length:=by rw[h.cll];exact hi
 refine⟨bs[i],List.getElem?_eq_getElem h1,?_⟩;unfold Hx;rw[List.getElem?_zipWith,List.getElem?_eq_getElem h1,List.getElem?_eq_getElem h2];simp[Dw,h2]
theorem Z8 {i x:Nat} (hi:i<fl.length):E2 (fl.set i x)=Fv (E2 fl) i x:=by
 funext v
 unfold E2 Fv;rw[List.getD_eq_getElem?_getD,List.getElem?_set];by_cases h:i=v
 ·subst h;simp[hi]
 ·rw[if_neg h,if_neg (Ne.symm h),←List.getD_eq_getElem?_getD]
theorem Qj {i:Nat} {x:List Nat} (hi:i<cl.length):Dw (cl.set i x)=Fv (Dw cl) i x:=by
 funext v
 unfold Dw Fv;rw[List.getD_eq_getElem?_getD,List.getElem?_set];by_cases h:i=v
 ·subst h;simp[hi]
 ·rw[if_neg h,if_neg (Ne.symm h),←List.getD_eq_getElem?_getD]
theorem Dv.setF (h:Dv M n bg bf bc es fl bs cl) (i x:Nat):Dv (M.set bf ⟨3,1,A0 (fl.set i x)⟩) n bg bf bc es (fl.set i x) bs cl where
 g:=by rw[Ac.set_other _ _ h.nd.1];exact h.g
 f:=Ac.set_same _ _ _
 c:=by rw[Ac.set_other _ _ (Ne.symm h.nd.2.2)];exact h.c
 fll:=by rw[List.length_set,h.fll]
 bsl:=h.bsl
 cll:=h.cll
 row:=fun i b hb=>by rw[Ac.set_other _ _ (h.ndr i b hb).2.1];exact h.row i b hb
 nil:=h.nil
 nd:=h.nd
 ndr:=h.ndr
 inj:=h.inj
theorem Dv.setC (h:Dv M n bg bf bc es fl bs cl) {i b':Nat} {l':List Nat} (hi:i<n) (hf:b'≠bg∧b'≠bf∧b'≠bc) (hr:∀j:Nat,j≠i→bs[j]?≠some (some b')) {M':Ac} (h1:M' bg=M bg) (h2:M' bf=M bf)
  (h3:M' bc=some ⟨25,1,(Hx bs cl).set i (.osl b' 1 0 l'.length)⟩) (h4:M' b'=some ⟨3,1,A0 l'⟩) (h5:∀(j b:Nat),j≠i→bs[j]?=some (some b)→M' b=M b):Dv M' n bg bf bc es fl (bs.set i (some b')) (cl.set i l') where
 g:=by rw[h1];exact h.g
 f:=by rw[h2];exact h.f
 c:=by
  rw[h3]
  congr 2
  refine List.ext_getElem? fun k=>?_;unfold Hx;rw[List.getElem?_set,List.length_zipWith,List.getElem?_zipWith,List.getElem?_zipWith,List.getElem?_set,List.getElem?_set,h.bsl,h.cll];by_cases hk:i=k
  ·subst hk;simp[hi,hdO]
  ·simp[hk]
 fll:=h.fll
 bsl:=by rw[List.length_set,h.bsl]
 cll:=by rw[List.length_set,h.cll]
 row:=fun j b hb=>by
  rw[Qj (by rw[h.cll];exact hi)];unfold Fv;rw[List.getElem?_set]at hb;by_cases hj:i=j
  ·subst hj;rw[if_pos rfl,if_pos (by rw[h.bsl];exact hi)]at hb;cases hb;rw[if_pos rfl,h4]
  ·rw[if_neg hj]at hb;rw[if_neg (Ne.symm hj),h5 j b (Ne.symm hj) hb,h.row j b hb]
 nil:=fun j hb=>by
  rw[Qj (by rw[h.cll];exact hi)];unfold Fv;rw[List.getElem?_set]at hb;by_cases hj:i=j
  ·subst hj;rw[if_pos rfl,if_pos (by rw[h.bsl];exact hi)]at hb;cases hb
  ·rw[if_neg hj]at hb;rw[if_neg (Ne.symm hj)];exact h.nil j hb
 nd:=h.nd
 ndr:=fun j b hb=>by
  rw[List.getElem?_set]at hb;by_cases hj:i=j
  ·subst hj;rw[if_pos rfl,if_pos (by rw[h.bsl];exact hi)]at hb;cases hb;exact hf
  ·rw[if_neg hj]at hb;exact h.ndr j b hb
 inj:=fun j k b hj hk=>by
  rw[List.getElem?_set]at hj hk;by_cases e1:i=j<;>by_cases e2:i=k
  ·omega
  ·subst e1;rw[if_pos rfl,if_pos (by rw[h.bsl];exact hi)]at hj;rw[if_neg e2]at hk;cases hj;exact absurd hk (hr k (Ne.symm e2))
  ·subst e2;rw[if_pos rfl,if_pos (by rw[h.bsl];exact hi)]at hk;rw[if_neg e1]at hj;cases hk;exact absurd hj (hr j (Ne.symm e1))
  ·rw[if_neg e1]at hj;rw[if_neg e2]at hk;exact h.inj j k b hj hk
theorem Dv.congr (h:Dv M n bg bf bc es fl bs cl) {M':Ac} (hm:∀k∈Bh bg bf bc bs,M' k=M k):Dv M' n bg bf bc es fl bs cl where
 g:=by rw[hm bg (Bl.2 (.inl rfl))];exact h.g
 f:=by rw[hm bf (Bl.2 (.inr (.inl rfl)))];exact h.f
 c:=by rw[hm bc (Bl.2 (.inr (.inr (.inl rfl))))];exact h.c
 fll:=h.fll
 bsl:=h.bsl
 cll:=h.cll
 row:=fun i b hb=>by rw[hm b (Bl.2 (.inr (.inr (.inr ⟨i,hb⟩))))];exact h.row i b hb
 nil:=h.nil
 nd:=h.nd
 ndr:=h.ndr
 inj:=h.inj
end
theorem Qf6 (bg:Nat) (es:List RE) (bf bc n:Nat):∀c y,Ac.emp.set bg (C8 es bf bc n) c=some y→∀v∈y.l,v.cells.all AV.one=true:=by
 intro c y hy v hv;simp only[A9,Az]at hy;split at hy
 ·cases hy;simp only[C8,List.mem_singleton]at hv;subst hv;rfl
 ·cases hy
theorem Wu (bg bf bc n:Nat) (es:List RE) (e j:Nat) (he:e<es.length) (hes:Nj 12 es) (hj:j=(Ag es e).1∨j=(Ag es e).2) :
  Ak Tryz.prog 125 [.ptr bg 3 0 0,.int .i64 (e:Nat),.int .i64 (j:Nat)] (Ac.emp.set bg (C8 es bf bc n)) fun v m=>∃x',(v=.int .i64 (G4 (Ag es) e j:Nat)∧x'=C8 es bf bc n)∧m=Ac.emp.set bg x':=by
 obtain⟨e1,e2,e3⟩:=hes e he;have hlt:=e3.1;have hlt2:=e3.2.1;have ho:(G4 (Ag es) e j:Int)=((Ag es e).1:Int)+((Ag es e).2:Int)-(j:Int):=by unfold G4;omega
 refine Ad Tryz.func125 rfl rfl 26 rfl (Nat.le_of_ble_eq_true rfl) ?_;(repeat refine AW.seq_k fun K hK=>?_);refine AW.rg ?_;simp[Al];try (refine hK _ rfl ?_;clear hK K)
 unfold C8;(repeat refine AW.seq_k fun K hK=>?_);refine AW.rdL [bg] [0,1,2,3,4,5,6,7,8,9,10,11,12,13,14,15,16,17,18,19] Dm (by simp) ?_;have w1:IntKind.i64.wrap ((H9 es e).a+(H9 es e).b)=(H9 es e).a+(H9 es e).b:=Pk (by omega);have w2:IntKind.i64.wrap ((H9 es e).a+(H9 es e).b-(j:Int))=(H9 es e).a+(H9 es e).b-(j:Int):=Pk (by omega);simp[he,Cq,w1,w2];try (refine hK _ rfl ?_;clear hK K)
 exact AW.ret (Cf rfl (Qf6 bg es bf bc n) ⟨C8 es bf bc n,⟨by rw[ho,←e1,←e2];rfl,rfl⟩,rfl⟩)
end Go.Av
end
section
namespace Go.Av
open Go.Proofs Go.Lam
theorem Qk1 (n:Nat):Hx (List.replicate n none) (List.replicate n [])=List.replicate n .nil:=by
 simp[Hx,hdO,List.zipWith_replicate]
theorem Um (n i:Nat):Dw (List.replicate n []) i=[]:=by
 unfold Dw;rw[List.getD_eq_getElem?_getD,List.getElem?_replicate];split<;>rfl
theorem Qdr {M:Ac} {n bg bf bc:Nat} {es:List RE} (h1:M bg=some (C8 es bf bc n)) (h2:M bf=some ⟨3,1,A0 (List.replicate n 0)⟩) (h3:M bc=some ⟨25,1,List.replicate n .nil⟩) (hd:bg≠bf∧bg≠bc∧bf≠bc) :
  Dv M n bg bf bc es (List.replicate n 0) (List.replicate n none) (List.replicate n []) where
 g:=h1
 f:=h2
 c:=by rw[Qk1];exact h3
 fll:=List.length_replicate
 bsl:=List.length_replicate
 cll:=List.length_replicate
 row:=fun i b hb=>by rw[List.getElem?_replicate]at hb;split at hb<;>simp at hb
 nil:=fun i _=>Um n i
 nd:=hd
 ndr:=fun i b hb=>by rw[List.getElem?_replicate]at hb;split at hb<;>simp at hb
 inj:=fun i j b hb _=>by rw[List.getElem?_replicate]at hb;split at hb<;>simp at hb
theorem F1.set {M:Ac} {l:List Nat} (h:F1 M l) {b:Nat} (x:Fb) (hb:b∈l):F1 (M.set b x) l:=fun k hk=>by
 by_cases e:k=b
 ·rw[e];exact hb
 ·rw[Ac.set_other _ _ e]at hk;exact h k hk
theorem Ks (bs:List (Option Nat)) (cl:List (List Nat)):∀v∈Hx bs cl,v.cells.all AV.one=true:=by
 intro v hv;unfold Hx at hv;obtain⟨i,hi⟩:=List.getElem?_of_mem hv;rw[List.getElem?_zipWith]at hi;split at hi
 ·rename_i o l _ _
  cases hi;cases o<;>rfl
 ·cases hi
theorem I1 {M:Ac} {n bg bf bc:Nat} {es:List RE} {fl:List Nat} {bs:List (Option Nat)} {cl:List (List Nat)} (h:Dv M n bg bf bc es fl bs cl) (ho:F1 M (Bh bg bf bc bs)):∀c y,M c=some y→∀v∈y.l,v.cells.all AV.one=true:=by
 intro c y hy v hv;rcases Bl.1 (ho c (by rw[hy];simp))with rfl | rfl | rfl | ⟨i,hi⟩
 ·rw[h.g]at hy;cases hy;simp only[C8,List.mem_singleton]at hv;subst hv;rfl
 ·rw[h.f]at hy;cases hy;exact C7 _ v hv
 ·rw[h.c]at hy;cases hy;exact Ks _ _ v hv
 ·rw[h.row i c hi]at hy;cases hy;exact C7 _ v hv
theorem Dv.dom {M:Ac} {n bg bf bc:Nat} {es:List RE} {fl:List Nat} {bs:List (Option Nat)} {cl:List (List Nat)} (h:Dv M n bg bf bc es fl bs cl) {k:Nat} (hk:k∈Bh bg bf bc bs):M k≠none:=by
 rcases Bl.1 hk with rfl|rfl|rfl|⟨i,hi⟩
 ·rw[h.g];simp
 ·rw[h.f];simp
 ·rw[h.c];simp
 ·rw[h.row i k hi];simp
theorem Qrm {M:Ac} {bg bf bc:Nat} {bs:List (Option Nat)} (h:∀k,M k≠none→k=bg∨k=bf∨k=bc):F1 M (Bh bg bf bc bs):=fun k hk=>by
 rw[Bl];rcases h k hk with h | h | h
 ·exact .inl h
 ·exact .inr (.inl h)
 ·exact .inr (.inr (.inl h))
theorem Qfj (n:Nat) (es:List RE) (hn:n≤12):Ak Tryz.prog 81 [.int .i64 (n:Nat),Bc es] Ac.emp fun v m=>∃bg bf bc,v=.ptr bg 3 0 0∧Dv m n bg bf bc es (List.replicate n 2) (List.replicate n none) (List.replicate n [])∧F1 m (Bh bg bf bc (List.replicate n none)):=by
 refine Ad Tryz.func81 rfl rfl 26 rfl (Nat.le_of_ble_eq_true rfl) ?_;unfold Bc;(repeat refine AW.seq_k fun K hK=>?_);refine AW.rg ?_;simp[Al];try (refine hK _ rfl ?_;clear hK K)
 refine AW.seq_ex (ι:=Ac × Nat × Nat × Nat) (fun z=>[(0,.int .i64 (n:Nat)),(5,.ptr z.2.1 3 0 0)]) (fun z=>z.1) (fun z=>Dv z.1 n z.2.1 z.2.2.1 z.2.2.2 es (List.replicate n 0) (List.replicate n none) (List.replicate n [])∧F1 z.1 (Bh z.2.1 z.2.2.1 z.2.2.2 (List.replicate n none))) ?_ ?_
 ·refine AW.rd2 2 4 [0,1,3,2,4,5,6,7] [0,1,3,4,2,5,6,7] Dm ?_ ?_
  ·simp;refine⟨by omega,Ae.intro fun bf h1=>⟨by omega,Ae.intro fun bc h2=>Ae.intro fun bg h3=>?_⟩⟩;simp only[Am,Az,and_true]at h2 h3;exact⟨bf,bc,Qdr (by simp[C8]) (by simp[A9,h2,h3,A0]) (by simp[A9,h2,h3]) ⟨h3.2.1,h3.1.1,h2.2⟩,Qrm (fun k hk=>by
    simp only[A9,Az]at hk;split at hk
    ·exact .inl (by assumption)
    ·split at hk
     ·exact .inr (.inr (by assumption))
     ·split at hk
      ·exact .inr (.inl (by assumption))
      ·exact absurd rfl hk)⟩
  ·simp;refine⟨by omega,Ae.intro fun bc h1=>⟨by omega,Ae.intro fun bf h2=>Ae.intro fun bg h3=>?_⟩⟩;simp only[Am,Az,and_true]at h2 h3;exact⟨bf,bc,Qdr (by simp[C8]) (by simp[A9,h2,h3,A0]) (by simp[A9,h2,h3]) ⟨h3.1.1,h3.2.1,h2.1⟩,Qrm (fun k hk=>by
    simp only[A9,Az]at hk;split at hk
    ·exact .inl (by assumption)
    ·split at hk
     ·exact .inr (.inl (by assumption))
     ·split at hk
      ·exact .inr (.inr (by assumption))
      ·exact absurd rfl hk)⟩
 rintro⟨M,bg,bf,bc⟩ ⟨hg,ho⟩;simp only at hg ho ⊢;refine AW.seq_ex (ι:=Ac) (fun _=>[(5,.ptr bg 3 0 0)]) (fun M=>M) (fun M=>Dv M n bg bf bc es (List.replicate n 2) (List.replicate n none) (List.replicate n [])∧F1 M (Bh bg bf bc (List.replicate n none))) ?_ ?_
 ·(repeat refine AW.seq_k fun K hK=>?_);refine AW.rg ?_;simp;try (refine hK _ rfl ?_;clear hK K)
  refine AW.block (AW.loopS (ι:=Ac × Nat) (fun z=>[(5,.ptr bg 3 0 0),(14,.int .i64 (n:Nat)),(15,.int .i64 (z.2:Nat))]) (fun z=>z.1)
   (fun z=>z.2≤n∧Dv z.1 n bg bf bc es (List.replicate z.2 2++List.replicate (n-z.2) 0) (List.replicate n none) (List.replicate n [])∧F1 z.1 (Bh bg bf bc (List.replicate n none))) (fun z=>n-z.2) (M,0) ⟨by simp,by simpa using hg,ho⟩ rfl (by simp) ?_)
  rintro⟨M,i⟩ ⟨g1,g2,g3⟩;simp only at g1 g2 g3;(repeat refine AW.seq_k fun K hK=>?_);refine AW.rg ?_;simp;try (refine hK _ rfl ?_;clear hK K)
  (repeat refine AW.seq ?_);refine AW.cs (fun hi=>?_) (fun hi=>?_) rfl<;>(try simp at hi)
  ·refine AW.skip ?_;try simp
   try (refine hK _ rfl ?_;clear hK K)
   have w1:=Aq (i+1) (by omega);have m1:=g2.g;have m2:=g2.f;have hfl:=g2.fll;have g4:=g2.setF i 2;rw[List.set_append_right _ _ (by simp),List.length_replicate,Nat.sub_self,show n-i=(n-(i+1))+1 by omega,List.replicate_succ,List.set_cons_zero]at g4;unfold C8 at m1;(repeat refine AW.seq ?_);refine AW.block ?_;(repeat refine AW.seq_k fun K hK=>?_);refine AW.rg ?_;simp;try (refine hK _ rfl ?_;clear hK K)
   (repeat refine AW.seq_k fun K hK=>?_);refine AW.rg ?_;simp[m1,m2,hi,hfl];try (refine hK _ rfl ?_;clear hK K)
   (repeat refine AW.seq_k fun K hK=>?_);refine AW.rg ?_;simp[-Int.natCast_add,w1];try (refine hK _ rfl ?_;clear hK K)
   have e:List.replicate i 2++2::List.replicate (n-(i+1)) 0=List.replicate (i+1) 2++List.replicate (n-(i+1)) 0:=by rw[List.replicate_succ',List.append_assoc];rfl
   rw[e]at g4;refine⟨_,i+1,⟨by omega,g4,g3.set _ (Bl.2 (.inr (.inl rfl)))⟩,by omega,?_,rfl⟩;rw[←e]
   congr 2
   show(A0 (List.replicate i 2++List.replicate (n-i) 0)).set i (.int .i64 ((2:Nat):Int))=_
   rw[Kv,List.set_append_right _ _ (by simp),List.length_replicate,Nat.sub_self,show n-i=(n-(i+1))+1 by omega,List.replicate_succ,List.set_cons_zero]
  ·refine AW.exit ?_;try simp
   rw[show i=n by omega,Nat.sub_self,List.replicate_zero,List.append_nil]at g2;exact⟨g2,g3⟩
 rintro M ⟨hg,ho⟩;(repeat refine AW.seq_k fun K hK=>?_);refine AW.rg ?_;simp;try (refine hK _ rfl ?_;clear hK K)
 exact AW.ret (Cf rfl (I1 hg ho) ⟨bg,bf,bc,rfl,hg,ho⟩)
end Go.Av
end
section
namespace Go.Av
open Go.Proofs Go.Lam
def bools (l:List Bool):List AV:=l.map .bool
@[simp] theorem Qqd (l:List Bool):(bools l).length=l.length:=by simp[bools]
@[simp] theorem Qzt {l:List Bool} {i:Nat} (h:i<(bools l).length):(bools l)[i]=.bool (l[i]'(by simpa using h)):=by simp[bools]
theorem Gj (l:List Bool) (i:Nat) (x:Bool):(bools l).set i (.bool x)=bools (l.set i x):=by unfold bools;rw[List.map_set]
theorem N3 (l:List Bool):∀v∈bools l,v.cells.all AV.one=true:=by
 intro v hv;obtain⟨x,_,rfl⟩:=List.mem_map.1 hv;rfl
def Ga (sn:List Bool):Nat→Bool:=fun v=>sn.getD v false
theorem Lc {sn:List Bool} {i:Nat} {x:Bool} (hi:i<sn.length):Ga (sn.set i x)=Fv (Ga sn) i x:=by
 funext v
 unfold Ga Fv;rw[List.getD_eq_getElem?_getD,List.getElem?_set];by_cases h:i=v
 ·subst h;simp[hi]
 ·rw[if_neg h,if_neg (Ne.symm h),←List.getD_eq_getElem?_getD]
theorem Uh {sn:List Bool} {i:Nat} (hi:i<sn.length):Ga sn i=sn[i]:=by unfold Ga;rw[List.getD_eq_getElem?_getD,List.getElem?_eq_getElem hi];rfl
theorem F7 {fl:List Nat} {i:Nat} (hi:i<fl.length):fl[i]=E2 fl i:=by unfold E2;rw[List.getD_eq_getElem?_getD,List.getElem?_eq_getElem hi];rfl
def Gu (sn:List Bool):Nat:=sn.countP fun b=>!b
theorem Ws {sn:List Bool} {i:Nat} (hi:i<sn.length) (h:sn[i]=false):Gu (sn.set i true)+1=Gu sn:=by
 unfold Gu;rw[List.countP_set hi];have hp:0<sn.countP fun b=>!b:=List.countP_pos_iff.2 ⟨sn[i],List.getElem_mem hi,by rw[h];rfl⟩;simp[h];omega
def Qwp (bg bx c3 n:Nat):AV:=.fn 195 [.rptr [.ptr bg 3 0 0],.rptr [.osl bx 1 0 n],.ptr c3 1 0 0]
structure J7 (M:Ac) (n bg bf bc bx c3:Nat) (es:List RE) (fl:List Nat) (bs:List (Option Nat)) (cl:List (List Nat)) (sn:List Bool):Prop where
 game:Dv M n bg bf bc es fl bs cl
 seen:M bx=some ⟨4,1,bools sn⟩
 snl:sn.length=n
 cell:M c3=some ⟨100,1,[Qwp bg bx c3 n]⟩
 off:∀k∈Bh bg bf bc bs,k≠bx∧k≠c3
 xc:bx≠c3
 only:F1 M (bx::c3::Bh bg bf bc bs)
section
variable {M:Ac} {n bg bf bc bx c3:Nat} {es:List RE} {fl:List Nat} {bs:List (Option Nat)} {cl:List (List Nat)} {sn:List Bool}
theorem J7.look (h:J7 M n bg bf bc bx c3 es fl bs cl sn) (i:Nat):J7 (M.set bx ⟨4,1,bools (sn.set i true)⟩) n bg bf bc bx c3 es fl bs cl (sn.set i true) where
 game:=h.game.congr fun k hk=>Ac.set_other _ _ (h.off k hk).1
 seen:=Ac.set_same _ _ _
 snl:=by rw[List.length_set,h.snl]
 cell:=by rw[Ac.set_other _ _ (Ne.symm h.xc)];exact h.cell
 off:=h.off
 xc:=h.xc
 only:=h.only.set _ (by simp)
theorem J7.setF (h:J7 M n bg bf bc bx c3 es fl bs cl sn) (i x:Nat):J7 (M.set bf ⟨3,1,A0 (fl.set i x)⟩) n bg bf bc bx c3 es (fl.set i x) bs cl sn where
 game:=h.game.setF i x
 seen:=by rw[Ac.set_other _ _ (Ne.symm (h.off bf (Bl.2 (.inr (.inl rfl)))).1)];exact h.seen
 snl:=h.snl
 cell:=by rw[Ac.set_other _ _ (Ne.symm (h.off bf (Bl.2 (.inr (.inl rfl)))).2)];exact h.cell
 off:=h.off
 xc:=h.xc
 only:=h.only.set _ (by simp[Bh])
theorem Qm4 {i b' k:Nat} (hi:i<bs.length) (hk:k∈Bh bg bf bc (bs.set i (some b'))):k=b'∨k∈Bh bg bf bc bs:=by
 rcases Bl.1 hk with h|h|h|⟨j,hj⟩
 ·exact .inr (Bl.2 (.inl h))
 ·exact .inr (Bl.2 (.inr (.inl h)))
 ·exact .inr (Bl.2 (.inr (.inr (.inl h))))
 ·rw[List.getElem?_set]at hj;by_cases e:i=j
  ·rw[if_pos e,if_pos hi]at hj;cases hj;exact .inl rfl
  ·rw[if_neg e]at hj;exact .inr (Bl.2 (.inr (.inr (.inr ⟨j,hj⟩))))
theorem J7.dom (h:J7 M n bg bf bc bx c3 es fl bs cl sn) {k:Nat} (hk:k∈bx::c3::Bh bg bf bc bs):M k≠none:=by
 simp only[List.mem_cons]at hk;rcases hk with rfl | rfl | hk
 ·rw[h.seen];simp
 ·rw[h.cell];simp
 ·rcases Bl.1 hk with rfl|rfl|rfl|⟨i,hi⟩
  ·rw[h.game.g];simp
  ·rw[h.game.f];simp
  ·rw[h.game.c];simp
  ·rw[h.game.row i k hi];simp
theorem J7.ones (h:J7 M n bg bf bc bx c3 es fl bs cl sn):∀c y,M c=some y→∀v∈y.l,v.cells.all AV.one=true:=by
 intro c y hy v hv;have hc:=h.only c (by rw[hy];simp);simp only[List.mem_cons]at hc;rcases hc with rfl | rfl | hc
 ·rw[h.seen]at hy;cases hy;exact N3 _ v hv
 ·rw[h.cell]at hy;cases hy;simp only[List.mem_singleton]at hv;subst hv;rfl
 ·rcases Bl.1 hc with rfl|rfl|rfl|⟨i,hi⟩
  ·rw[h.game.g]at hy;cases hy;simp only[C8,List.mem_singleton]at hv;subst hv;rfl
  ·rw[h.game.f]at hy;cases hy;exact C7 _ v hv
  ·rw[h.game.c]at hy;cases hy;exact Ks _ _ v hv
  ·rw[h.game.row i c hi]at hy;cases hy;exact C7 _ v hv
theorem J7.setC (h:J7 M n bg bf bc bx c3 es fl bs cl sn) {i b':Nat} {l':List Nat} (hi:i<n) (hf:b' ∉ bx::c3::Bh bg bf bc bs∨bs[i]?=some (some b')) {M':Ac}
  (h3:M' bc=some ⟨25,1,(Hx bs cl).set i (.osl b' 1 0 l'.length)⟩) (h4:M' b'=some ⟨3,1,A0 l'⟩) (h5:∀k∈bx::c3::Bh bg bf bc bs,k≠b'→k≠bc→bs[i]?≠some (some k)→M' k=M k)
  (h6:∀k,M' k≠none→k=b'∨k∈bx::c3::Bh bg bf bc bs∧(bs[i]?=some (some k)→k=b')):J7 M' n bg bf bc bx c3 es fl (bs.set i (some b')) (cl.set i l') sn:=by
 have hib:i<bs.length:=by rw[h.game.bsl];exact hi
 have hb':b'≠bg∧b'≠bf∧b'≠bc∧b'≠bx∧b'≠c3:=by
  rcases hf with hf|hf
  ·simp only[Bh,List.mem_cons,not_or]at hf;exact⟨hf.2.2.1,hf.2.2.2.1,hf.2.2.2.2.1,hf.1,hf.2.1⟩
  ·have h1:=h.game.ndr i b' hf;have h2:=h.off b' (Bl.2 (.inr (.inr (.inr ⟨i,hf⟩))));exact⟨h1.1,h1.2.1,h1.2.2,h2.1,h2.2⟩
 have hn1:bs[i]?≠some (some bg):=fun e=>(h.game.ndr i bg e).1 rfl;have hn2:bs[i]?≠some (some bf):=fun e=>(h.game.ndr i bf e).2.1 rfl;have hn3:bs[i]?≠some (some bx):=fun e=>(h.off bx (Bl.2 (.inr (.inr (.inr ⟨i,e⟩))))).1 rfl;have hn4:bs[i]?≠some (some c3):=fun e=>(h.off c3 (Bl.2 (.inr (.inr (.inr ⟨i,e⟩))))).2 rfl;have hbc:=h.off bc (Bl.2 (.inr (.inr (.inl rfl))));have hrow:∀j,j≠i→bs[j]?≠some (some b'):=fun j hj e=>by
  rcases hf with hf|hf
  ·exact hf (by simp only[List.mem_cons];exact .inr (.inr (Bl.2 (.inr (.inr (.inr ⟨j,e⟩))))))
  ·exact hj (h.game.inj j i b' e hf)
 refine⟨h.game.setC hi ⟨hb'.1,hb'.2.1,hb'.2.2.1⟩ hrow ?_ ?_ h3 h4 ?_,?_,h.snl,?_,?_,h.xc,?_⟩
 ·exact h5 bg (by simp[Bh]) (Ne.symm hb'.1) h.game.nd.2.1 hn1
 ·exact h5 bf (by simp[Bh]) (Ne.symm hb'.2.1) h.game.nd.2.2 hn2
 ·intro j b hj hb;have hm:b∈Bh bg bf bc bs:=Bl.2 (.inr (.inr (.inr ⟨j,hb⟩)));exact h5 b (by simp only[List.mem_cons];exact .inr (.inr hm)) (fun e=>hrow j hj (e ▸ hb)) (h.game.ndr j b hb).2.2 (fun e=>hj (h.game.inj j i b hb e))
 ·rw[h5 bx (by simp) (Ne.symm hb'.2.2.2.1) (Ne.symm hbc.1) hn3];exact h.seen
 ·rw[h5 c3 (by simp) (Ne.symm hb'.2.2.2.2) (Ne.symm hbc.2) hn4];exact h.cell
 ·intro k hk;rcases Qm4 hib hk with rfl | hk
  ·exact⟨hb'.2.2.2.1,hb'.2.2.2.2⟩
  ·exact h.off k hk
 ·intro k hk;simp only[List.mem_cons];rcases h6 k hk with rfl | ⟨hk,hk2⟩
  ·exact .inr (.inr (Bl.2 (.inr (.inr (.inr ⟨i,by rw[List.getElem?_set,if_pos rfl,if_pos hib]⟩)))))
  ·simp only[List.mem_cons]at hk;rcases hk with hk | hk | hk
   ·exact .inl hk
   ·exact .inr (.inl hk)
   ·refine .inr (.inr (Bl.2 ?_));rcases Bl.1 hk with hk | hk | hk | ⟨j,hj⟩
    ·exact .inl hk
    ·exact .inr (.inl hk)
    ·exact .inr (.inr (.inl hk))
    ·by_cases hij:i=j
     ·subst hij;rw[hk2 hj];exact .inr (.inr (.inr ⟨i,by rw[List.getElem?_set,if_pos rfl,if_pos hib]⟩))
     ·exact .inr (.inr (.inr ⟨j,by rw[List.getElem?_set,if_neg hij];exact hj⟩))
end
end Go.Av
end
section
namespace Go.Av
open Go.Proofs Go.Lam
structure VSt where
 M:Ac
 fl:List Nat
 bs:List (Option Nat)
 cl:List (List Nat)
 sn:List Bool
def Q1p (n bg bf bc bx c3:Nat) (es:List RE) (A:List Nat) (fl:List Nat) (bs:List (Option Nat)) (cl:List (List Nat)) (sn:List Bool) (j:Nat) (v:AV) (M':Ac):Prop :=
 ∃ok:Bool,v=.bool ok∧∃(fl':List Nat) (bs':List (Option Nat)) (cl':List (List Nat)) (sn':List Bool),J7 M' n bg bf bc bx c3 es fl' bs' cl' sn' ∧
  (ok=false→fl'=fl∧bs'=bs∧cl'=cl∧L9 n (Ag es) (E2 fl) (Dw cl) (Ga sn) (Ga sn')∧∀e∈Dw cl j,Ga sn' (G4 (Ag es) e j)=true) ∧
  (ok=true→Got n (Ag es) A (Ga sn) j (E2 fl) (Dw cl) (E2 fl') (Dw cl')∧∀v,Ga sn v=true→Ga sn' v=true)
theorem set_self {m:Ac} {b:Nat} {x:Fb} (h:m b=some x):m.set b x=m:=by
 funext k
 by_cases e:k=b
 ·subst e;rw[Ac.set_same,h]
 ·rw[Ac.set_other _ _ e]
theorem Yl {n:Nat} {E:Nat→Ed} {fr:Nat→Nat} {cv:Nat→List Nat} {s t:List Bool} (h:L9 n E fr cv (Ga s) (Ga t)) (hs:s.length=n) (ht:t.length=n):Gu t≤Gu s:=by
 have key:∀{s t:List Bool},s.length=t.length→(∀i,Ga s i=true→Ga t i=true)→Gu t≤Gu s:=by
  intro s
  induction s with
  |nil=>intro t hl _;cases t with
   |nil=>exact Nat.le_refl _
   |cons b t=>simp at hl
  |cons a s ih=>intro t hl hi;cases t with
   |nil=>simp at hl
   |cons b t =>
    have h1:=ih (t:=t) (by simpa using hl) (fun i hi'=>by have:=hi (i+1);simp[Ga]at this;simpa[Ga]using this (by simpa[Ga]using hi'));have h2:=hi 0;simp[Ga]at h2;unfold Gu at *;rw[List.countP_cons,List.countP_cons];cases a<;>cases b<;>simp_all
    omega
 exact key (by rw[hs,ht]) h.sub
theorem Kz {l:List Nat} {i e:Nat} (hi:i<l.length) (he:l[i]=e):l.take (i+1)=l.take i++[e]:=by
 rw[List.take_add_one,List.getElem?_eq_getElem hi,he];rfl
theorem Qgb (n bg bf bc bx c3:Nat) (es:List RE) (A:List Nat) (hn:n≤12) (hes:Nj n es) (hA:∀e∈A,e<es.length) :
  ∀(fuel:Nat) (M:Ac) (fl:List Nat) (bs:List (Option Nat)) (cl:List (List Nat)) (sn:List Bool) (j:Nat),Gu sn≤fuel→J7 M n bg bf bc bx c3 es fl bs cl sn→Inv n (Ag es) A (E2 fl) (Dw cl)→j<n→Ga sn j=true →
   Ak Tryz.prog 195 [.int .i64 (j:Nat),.rptr [.ptr bg 3 0 0],.rptr [.osl bx 1 0 n],.ptr c3 1 0 0] M (Q1p n bg bf bc bx c3 es A fl bs cl sn j):=by
 have hes12:Nj 12 es:=fun i hi=>⟨(hes i hi).1,(hes i hi).2.1,by have:=(hes i hi).2.2;exact⟨by have:=this.1;omega,by have:=this.2.1;omega,this.2.2⟩⟩;intro fuel
 induction fuel using Nat.strongRecOn with
 |ind fuel IH =>
 intro M fl bs cl sn j hu hV hI hj hjs;refine Ad Tryz.func195 rfl rfl 99 rfl (Nat.le_of_ble_eq_true rfl) ?_;(repeat refine AW.seq_k fun K hK=>?_);refine AW.rg ?_;simp[Al];try (refine hK _ rfl ?_;clear hK K)
 have m1:=hV.game.g;have m3:=hV.game.c;have hhl:=Hl hV.game;obtain⟨o,ho,hget⟩:=Me hV.game hj;unfold C8 at m1;have hjh:j<(Hx bs cl).length:=by rw[hhl];exact hj
 have hgel:(Hx bs cl)[j]=hdO o (Dw cl j):=by rw[List.getElem?_eq_getElem hjh]at hget;exact Option.some.inj hget
 cases o with
 |none =>
  have hc0:=hV.game.nil j ho;simp only[hdO]at hgel;have hone:=hV.ones;refine AW.seq_ex (ι:=Unit) (fun _=>[]) (fun _=>M) (fun _=>True) ?_ ?_
  ·(repeat refine AW.seq_k fun K hK=>?_);refine AW.rg ?_;simp[m1,m3,hj,hhl,hgel];try (refine hK _ rfl ?_;clear hK K)
   refine AW.block (AW.loopS (ι:=Unit) (fun _=>[(16,.int .i64 0),(17,.int .i64 0)]) (fun _=>M) (fun _=>True) (fun _=>0) () trivial rfl (by simp) ?_);intro _ _;(repeat refine AW.seq_k fun K hK=>?_);refine AW.rg ?_;simp;try (refine hK _ rfl ?_;clear hK K)
   (repeat refine AW.seq ?_);refine AW.no ?_ rfl;refine AW.exit ?_;try simp
  ·rintro _ _;(repeat refine AW.seq_k fun K hK=>?_);refine AW.rg ?_;simp;try (refine hK _ rfl ?_;clear hK K)
   exact AW.ret (Cf rfl hone ⟨false,rfl,fl,bs,cl,sn,hV,fun _=>⟨rfl,rfl,rfl,L9.refl _,fun e he=>by rw[hc0]at he;cases he⟩,fun h=>by cases h⟩)
 |some b =>
  simp only[hdO]at hgel;have hrow:=hV.game.row j b ho;have hlen2:(Dw cl j).length≤2:=by have:=hI.two j hj;omega
  refine AW.seq_ex (ι:=Ac × List Bool) (fun _=>[]) (fun z=>z.1) (fun z=>J7 z.1 n bg bf bc bx c3 es fl bs cl z.2∧L9 n (Ag es) (E2 fl) (Dw cl) (Ga sn) (Ga z.2)∧∀e∈Dw cl j,Ga z.2 (G4 (Ag es) e j)=true) ?_ ?_
  ·(repeat refine AW.seq_k fun K hK=>?_);refine AW.rg ?_;simp[m1,m3,hj,hhl,hgel];try (refine hK _ rfl ?_;clear hK K)
   refine AW.block (AW.loopS (ι:=Ac × List Bool × Nat) (fun z=>[(0,.int .i64 (j:Nat)),(1,.rptr [.ptr bg 3 0 0]),(2,.rptr [.osl bx 1 0 n]),(3,.ptr c3 1 0 0),(15,.osl b 1 0 (Dw cl j).length),(16,.int .i64 ((Dw cl j).length:Nat)),(17,.int .i64 (z.2.2:Nat))]) (fun z=>z.1)
    (fun z=>z.2.2≤(Dw cl j).length∧J7 z.1 n bg bf bc bx c3 es fl bs cl z.2.1∧L9 n (Ag es) (E2 fl) (Dw cl) (Ga sn) (Ga z.2.1)∧∀e∈(Dw cl j).take z.2.2,Ga z.2.1 (G4 (Ag es) e j)=true)
    (fun z=>(Dw cl j).length-z.2.2) (M,sn,0) ⟨by simp,hV,L9.refl _,by simp⟩ rfl (by simp) ?_)
   rintro⟨M1,s1,i⟩ ⟨g1,g2,g3,g4⟩;simp only at g1 g2 g3 g4;(repeat refine AW.seq_k fun K hK=>?_);refine AW.rg ?_;simp;try (refine hK _ rfl ?_;clear hK K)
   (repeat refine AW.seq ?_);refine AW.cs (fun hi=>?_) (fun hi=>?_) rfl<;>(try simp at hi)
   ·refine AW.skip ?_;try simp
    try (refine hK _ rfl ?_;clear hK K)
    have w1:=Aq (i+1) (by omega);have r1:=g2.game.row j b ho;have r2:=g2.seen;have hsl:=g2.snl;obtain⟨e,he⟩:∃e,(Dw cl j)[i]=e:=⟨_,rfl⟩;have heM:e∈Dw cl j:=he ▸ List.getElem_mem hi;have hei:(Dw cl j)[i]?=some e:=by rw[List.getElem?_eq_getElem hi,he]
    have hel:e<es.length:=hA e (hI.mem hj heM);have hend:=hI.ends j hj e heM;obtain⟨hn1,hn2⟩:=hI.oth_lt hj heM;have htk:=Kz hi he;(repeat refine AW.seq ?_);refine AW.block ?_;(repeat refine AW.seq_k fun K hK=>?_);refine AW.rg ?_;simp[r1,hi,he];try (refine hK _ rfl ?_;clear hK K)
    (repeat refine AW.seq_k fun K hK=>?_);refine AW.rg ?_;simp;try (refine hK _ rfl ?_;clear hK K)
    refine Aa.grant bg (C8 es bf bc n) g2.game.g (fun h=>h) (Wu bg bf bc n es e j hel hes12 (by rcases hend with h | h;exact .inl h.symm;exact .inr h.symm)) ?_;rintro _ _ ⟨rfl,rfl⟩;rw[set_self g2.game.g];simp;try (refine hK _ rfl ?_;clear hK K)
    obtain⟨n1,hn⟩:∃n1,G4 (Ag es) e j=n1:=⟨_,rfl⟩;rw[hn]at hn1 hn2;simp only[hn];have hs1:n1<s1.length:=by rw[hsl];exact hn1
    cases hseen:s1[n1]with
    |true =>
     (repeat refine AW.seq_k fun K hK=>?_);refine AW.rg ?_;simp[r2,hn1,hsl,hseen];try (refine hK _ rfl ?_;clear hK K)
     refine AW.yes ?_ rfl;refine AW.exit ?_;try simp
     (repeat refine AW.seq_k fun K hK=>?_);refine AW.rg ?_;simp[-Int.natCast_add,w1];try (refine hK _ rfl ?_;clear hK K)
     refine⟨M1,s1,i+1,⟨by omega,g2,g3,fun x hx=>?_⟩,by omega,rfl,rfl⟩;rw[htk]at hx;rcases List.mem_append.1 hx with hx | hx
     ·exact g4 x hx
     ·simp only[List.mem_singleton]at hx;subst hx;rw[hn,Uh hs1,hseen]
    |false =>
     have hS1:Ga s1 n1=false:=by rw[Uh hs1,hseen]
     have hS:Ga sn n1=false:=by
      cases hc:Ga sn n1 with
      |false=>rfl
      |true=>rw[g3.sub n1 hc]at hS1;cases hS1
     (repeat refine AW.seq_k fun K hK=>?_);refine AW.rg ?_;simp[r2,hn1,hsl,hseen];try (refine hK _ rfl ?_;clear hK K)
     refine AW.no ?_ rfl;refine AW.skip ?_;try simp
     try (refine hK _ rfl ?_;clear hK K)
     (repeat refine AW.seq_k fun K hK=>?_);refine AW.rg ?_;simp[r2,hn1,hsl];try (refine hK _ rfl ?_;clear hK K)
     rw[Gj];have V2:=g2.look n1;have hsn2:Ga (s1.set n1 true)=Fv (Ga s1) n1 true:=Lc hs1;have hu2:=Ws hs1 hseen;generalize M1.set bx ⟨4,1,bools (s1.set n1 true)⟩=M2 at V2 ⊢;refine AW.seq_ex (ι:=VSt) (fun z=>[(0,.int .i64 (j:Nat)),(1,.rptr [.ptr bg 3 0 0]),(2,.rptr [.osl bx 1 0 n]),(3,.ptr c3 1 0 0),(15,.osl b 1 0 (Dw cl j).length),(6,.int .i64 (i:Nat)),(7,.int .i64 (e:Nat)),(8,.int .i64 (n1:Nat))]) (fun z=>z.M)
      (fun z=>J7 z.M n bg bf bc bx c3 es z.fl z.bs z.cl z.sn∧Inv n (Ag es) A (E2 z.fl) (Dw z.cl)∧Dw z.cl j=Dw cl j∧0<E2 z.fl n1 ∧
       Got n (Ag es) A (Ga sn) j (E2 fl) (Dw cl) (Fv (Fv (E2 z.fl) n1 (E2 z.fl n1-1)) j (E2 z.fl j+1)) (Fv (Fv (Dw z.cl) n1 (Dw z.cl n1++[e])) j ((Dw z.cl j).eraseIdx i))∧∀v,Ga sn v=true→Ga z.sn v=true) ?_ ?_
     ·have q1:=V2.game.g;have q2:=V2.game.f;have q3:=V2.cell;have q4:=V2.game.fll;have hf1:n1<fl.length:=by rw[q4];exact hn1
      unfold C8 at q1;unfold Qwp at q3;have hsub2:∀v,Ga sn v=true→Ga (s1.set n1 true) v=true:=fun v hv=>by
       rw[hsn2];unfold Fv;split;rfl;exact g3.sub v hv
      by_cases hz:fl[n1]=0
      ·have ih:=IH (Gu (s1.set n1 true)) (by have h1:=hu2;have h2:=Yl g3 hV.snl g2.snl;omega) _ fl bs cl (s1.set n1 true) n1 (Nat.le_refl _) V2 hI hn1 (by rw[hsn2,Ew]);(repeat refine AW.seq_k fun K hK=>?_);refine AW.rg ?_;simp[q1,q2,q3,hn1,q4,hz];try (refine hK _ rfl ?_;clear hK K)
       refine⟨195,_,⟨rfl,rfl⟩,?_⟩;refine Aa.whole (fun _ h=>h) ih ?_;rintro _ g ⟨ok,rfl,fl',bs',cl',sn',hV',hF,hT⟩;cases ok with
       |false =>
        obtain⟨rfl,rfl,rfl,hL,hsh⟩:=hF rfl;simp;try (refine hK _ rfl ?_;clear hK K)
        refine AW.yes ?_ rfl;refine AW.exit ?_;try simp
        (repeat refine AW.seq_k fun K hK=>?_);refine AW.rg ?_;simp[-Int.natCast_add,w1];try (refine hK _ rfl ?_;clear hK K)
        refine⟨g,sn',i+1,⟨by omega,hV',?_,fun x hx=>?_⟩,by omega,rfl,rfl⟩
        ·rw[hsn2]at hL;exact g3.step (by rw[←F7 hf1];exact hz) hL hsh
        ·rw[htk]at hx;have hm:∀v,Ga s1 v=true→Ga sn' v=true:=fun v hv=>hL.sub v (by rw[hsn2];unfold Fv;split;rfl;exact hv);rcases List.mem_append.1 hx with hx | hx
         ·exact hm _ (g4 x hx)
         ·simp only[List.mem_singleton]at hx;subst hx;rw[hn];exact hL.sub n1 (by rw[hsn2,Ew])
       |true =>
        obtain⟨hG,hsub3⟩:=hT rfl;simp;try (refine hK _ rfl ?_;clear hK K)
        refine AW.no ?_ rfl;refine AW.skip ?_;rw[hsn2]at hG;have hGt:=Got.through (fun v hv=>g3.sub v hv) hj hjs hei (by rw[hn];exact hS1) (by rw[hn];exact hn2) (by rw[hn];exact hG);rw[hn]at hGt;have hjT:Fv (Ga s1) n1 true j=true:=by rw[Bu _ _ (Ne.symm hn2)];exact g3.sub j hjs
        refine⟨⟨g,fl',bs',cl',sn'⟩,⟨hV',hG.inv,hG.cover j hj hjT (Ne.symm hn2),by rw[hG.plus];omega,hGt,fun v hv=>hsub3 v (hsub2 v hv)⟩,rfl,rfl,by simp⟩
      ·have hpos:0<E2 fl n1:=by rw[←F7 hf1];omega
       (repeat refine AW.seq_k fun K hK=>?_);refine AW.rg ?_;simp[q1,q2,q3,hn1,q4,hz];try (refine hK _ rfl ?_;clear hK K)
       refine AW.no ?_ rfl;refine AW.skip ?_;have hGd:=Got.direct (S:=Ga sn) hI hj hei (by rw[hn];exact hS) (by rw[hn];exact hpos);rw[hn]at hGd;refine⟨⟨_,fl,bs,cl,s1.set n1 true⟩,⟨V2,hI,rfl,hpos,hGd,hsub2⟩,rfl,rfl,by simp⟩
     ·rintro⟨M3,fl3,bs3,cl3,s3⟩ ⟨hV3,hI3,hcj,hp3,hG3,hsub3⟩;simp only at hV3 hI3 hcj hp3 hG3 hsub3 ⊢;have q1:=hV3.game.g;have q2:=hV3.game.f;have q4:=hV3.game.fll;have hf1:n1<fl3.length:=by rw[q4];exact hn1
      have hx2:E2 fl3 n1≤2:=by have:=hI3.two n1 hn1;omega
      have hx1:=F7 hf1;have w2:IntKind.i64.wrap (((E2 fl3 n1:Nat):Int)-1)=((E2 fl3 n1-1:Nat):Int):=by
       rw[show((E2 fl3 n1:Nat):Int)-1=((E2 fl3 n1-1:Nat):Int) by omega];exact wi (by omega)
      unfold C8 at q1;(repeat refine AW.seq_k fun K hK=>?_);refine AW.rg ?_;simp[q1,q2,hn1,q4,hx1,w2];try (refine hK _ rfl ?_;clear hK K)
      rw[Kv];have V4:=hV3.setF n1 (E2 fl3 n1-1);generalize M3.set bf ⟨3,1,A0 (fl3.set n1 (E2 fl3 n1-1))⟩=M4 at V4 ⊢;refine AW.seq_ex (ι:=Ac × Nat) (fun _=>[(0,.int .i64 (j:Nat)),(1,.rptr [.ptr bg 3 0 0]),(2,.rptr [.osl bx 1 0 n]),(3,.ptr c3 1 0 0),(6,.int .i64 (i:Nat)),(7,.int .i64 (e:Nat)),(8,.int .i64 (n1:Nat))]) (fun z=>z.1) (fun z=>J7 z.1 n bg bf bc bx c3 es (fl3.set n1 (E2 fl3 n1-1)) (bs3.set n1 (some z.2)) (cl3.set n1 (Dw cl3 n1++[e])) s3) ?_ ?_
      ·have q5:=V4.game.g;have q6:=V4.game.c;have hhl4:=Hl V4.game;obtain⟨o4,ho4,hget4⟩:=Me V4.game hn1;have hjh4:n1<(Hx bs3 cl3).length:=by rw[hhl4];exact hn1
       have hgel4:(Hx bs3 cl3)[n1]=hdO o4 (Dw cl3 n1):=by rw[List.getElem?_eq_getElem hjh4]at hget4;exact Option.some.inj hget4
       have nd:=V4.game.nd;have hbcn:bc≠bg:=Ne.symm nd.2.1;unfold C8 at q5;have hl3:(Dw cl3 n1).length≤2:=by have:=hI3.two n1 hn1;omega
       cases o4 with
       |none =>
        have hc0:=V4.game.nil n1 ho4;simp only[hdO]at hgel4;(repeat refine AW.seq_k fun K hK=>?_);refine AW.rdLR [69] [bg,bc] [0,1,2,3,4,5,6,7,8,9,10,11,12,13,14,15,16] Dm (by simp[q5,q6]) ?_;simp[q5,q6,hn1,hhl4,hgel4];refine⟨by unfold maxLen;omega,fun b6 h6 _=>?_⟩;have hfresh:b6 ∉ bx::c3::Bh bg bf bc bs3:=fun hm=>V4.dom hm h6;have e1:¬bc=b6:=fun h=>hfresh (by rw[←h];simp[Bh]);simp[e1,hn1,hhl4];refine⟨b6,V4.setC hn1 (.inl hfresh) (by rw[Ac.set_same,hc0];rfl) (by rw[Ac.set_other _ _ (Ne.symm e1),Ac.set_same,hc0];rfl) (fun k _ hk1 hk2 _=>by rw[Ac.set_other _ _ hk2,Ac.set_other _ _ hk1]) (fun k hk=>?_)⟩
        by_cases k1:k=b6
        ·exact .inl k1
        ·refine .inr ⟨?_,fun h=>by rw[ho4]at h;cases h⟩;by_cases k2:k=bc
         ·rw[k2];simp[Bh]
         ·rw[Ac.set_other _ _ k2,Ac.set_other _ _ k1]at hk;exact V4.only k hk
       |some b4 =>
        simp only[hdO]at hgel4;have q7:=V4.game.row n1 b4 ho4;have hnd4:=V4.game.ndr n1 b4 ho4;(repeat refine AW.seq_k fun K hK=>?_);refine AW.rdLR [69] [bg,bc] [0,1,2,3,4,5,6,7,8,9,10,11,12,13,14,15,16] Dm (by simp[q5,q6]) ?_;simp[q5,q6,q7,hn1,hhl4,hgel4,hnd4];refine⟨by omega,by unfold maxLen;omega,fun b6 h6 _=>?_⟩;have hf6:b6 ∉ bx::c3::Bh bg bf bc bs3∨bs3[n1]?=some (some b6):=by
         by_cases e:b6=b4
         ·exact .inr (by rw[e];exact ho4)
         ·exact .inl fun hm=>V4.dom hm (by rwa [Ac.del_other _ e]at h6)
        have e1:¬bc=b6:=by
         intro h;rcases hf6 with hf6 | hf6
         ·exact hf6 (by rw[←h];simp[Bh])
         ·exact(V4.game.ndr n1 b6 hf6).2.2 h.symm
        have e2:¬bc=b4:=Ne.symm hnd4.2.2;simp[e1,e2,hn1,hhl4];refine⟨b6,V4.setC hn1 hf6 (by rw[Ac.set_same];simp) (by rw[Ac.set_other _ _ (Ne.symm e1),Ac.set_same,E1]) (fun k _ hk1 hk2 hk3=>?_) (fun k hk=>?_)⟩
        ·have:k≠b4:=fun h=>hk3 (by rw[h];exact ho4);rw[Ac.set_other _ _ hk2,Ac.set_other _ _ hk1,Ac.del_other _ this]
        ·by_cases k1:k=b6
         ·exact .inl k1
         ·by_cases k2:k=bc
          ·exact .inr ⟨by rw[k2];simp[Bh],fun h=>absurd k2 (V4.game.ndr n1 k h).2.2⟩
          ·rw[Ac.set_other _ _ k2,Ac.set_other _ _ k1]at hk;by_cases k3:k=b4
           ·rw[k3,Ac.del_same]at hk;exact absurd rfl hk
           ·rw[Ac.del_other _ k3]at hk;exact .inr ⟨V4.only k hk,fun h=>by rw[ho4]at h;cases h;exact absurd rfl k3⟩
      ·rintro⟨M5,b5⟩ V5;simp only at V5 ⊢;have hcv5:Dw (cl3.set n1 (Dw cl3 n1++[e]))=Fv (Dw cl3) n1 (Dw cl3 n1++[e]):=Qj (by rw[hV3.game.cll];exact hn1);have hcj5:Dw (cl3.set n1 (Dw cl3 n1++[e])) j=Dw cl j:=by rw[hcv5,Bu _ _ (Ne.symm hn2),hcj]
       have hfr5:E2 (fl3.set n1 (E2 fl3 n1-1))=Fv (E2 fl3) n1 (E2 fl3 n1-1):=Z8 hf1;have hfj5:E2 (fl3.set n1 (E2 fl3 n1-1)) j=E2 fl3 j:=by rw[hfr5,Bu _ _ (Ne.symm hn2)]
       have hfl5:(fl3.set n1 (E2 fl3 n1-1)).length=n:=V5.game.fll;have hcl5:(cl3.set n1 (Dw cl3 n1++[e])).length=n:=V5.game.cll;have hfj2:E2 fl3 j≤2:=by have:=hI3.two j hj;omega
       have hdone:∀(M:Ac) (bs':List (Option Nat)),J7 M n bg bf bc bx c3 es ((fl3.set n1 (E2 fl3 n1-1)).set j (E2 fl3 j+1)) bs' ((cl3.set n1 (Dw cl3 n1++[e])).set j ((Dw cl j).eraseIdx i)) s3 →
         Q1p n bg bf bc bx c3 es A fl bs cl sn j (.bool true) M:=fun M bs' hV=>⟨true,rfl,_,bs',_,s3,hV,(fun h=>by cases h),fun _=>⟨by
        rw[Z8 (by rw[hfl5];exact hj),Qj (by rw[hcl5];exact hj),hfr5,hcv5];rw[hcj]at hG3;exact hG3,hsub3⟩⟩
       generalize fl3.set n1 (E2 fl3 n1-1)=fl5 at *;generalize cl3.set n1 (Dw cl3 n1++[e])=cl5 at *;generalize bs3.set n1 (some b5)=bs5 at *;obtain⟨o5,ho5,hget5⟩:=Me V5.game hj;cases o5 with
       |none =>
        have:=V5.game.nil j ho5;rw[hcj5]at this;rw[this]at hi;simp at hi
       |some bj =>
        simp only[hdO]at hget5;have q5:=V5.game.g;have q6:=V5.game.c;have q7:=V5.game.row j bj ho5;have hnd5:=V5.game.ndr j bj ho5;have hhl5:=Hl V5.game;have hjh5:j<(Hx bs5 cl5).length:=by rw[hhl5];exact hj
        rw[hcj5]at hget5 q7;have hgel5:(Hx bs5 cl5)[j]=.osl bj 1 0 (Dw cl j).length:=by rw[List.getElem?_eq_getElem hjh5]at hget5;exact Option.some.inj hget5
        have nd:=V5.game.nd;have hbcn:bc≠bg:=Ne.symm nd.2.1;unfold C8 at q5;(repeat refine AW.seq_k fun K hK=>?_);refine AW.rdL [bg,bc] [0,1,2,3,4,5,6,7,8,9,10,11,12,13,14,15,16,17] Dm (by simp[q5,q6]) ?_;simp[-Int.natCast_add,q5,q6,hj,hhl5,hgel5,w1];refine Aa.grant (R:=fun v x'=>v=.osl bj 1 0 ((Dw cl j).length-1)∧x'=⟨3,1,A0 ((Dw cl j).eraseIdx i)⟩) bj ⟨3,1,A0 (Dw cl j)⟩ q7 (fun h=>by rcases h with h | h;exact hnd5.1 h;exact hnd5.2.2 h)
         ((Qk bj (Dw cl j) i hi (by omega)).mono fun v m hm=>⟨_,⟨hm.1,rfl⟩,hm.2⟩) ?_
        rintro _ _ ⟨rfl,rfl⟩;have e2:¬bc=bj:=Ne.symm hnd5.2.2;simp[-Int.natCast_add,q6,e2,hj,hhl5];try (refine hK _ rfl ?_;clear hK K)
        have hle:((Dw cl j).eraseIdx i).length=(Dw cl j).length-1:=by rw[List.length_eraseIdx,if_pos hi]
        have V6:=V5.setC (l':=(Dw cl j).eraseIdx i) (M':=(M5.set bj ⟨3,1,A0 ((Dw cl j).eraseIdx i)⟩).set bc ⟨25,1,(Hx bs5 cl5).set j (.osl bj 1 0 ((Dw cl j).length-1))⟩) hj (.inr ho5) (by rw[Ac.set_same,hle]) (by rw[Ac.set_other _ _ (Ne.symm e2),Ac.set_same])
         (fun k _ hk1 hk2 _=>by rw[Ac.set_other _ _ hk2,Ac.set_other _ _ hk1]) (fun k hk=>by
          by_cases k1:k=bj
          ·exact .inl k1
          ·refine .inr ⟨?_,fun h=>by rw[ho5]at h;cases h;exact absurd rfl k1⟩;by_cases k2:k=bc
           ·rw[k2];simp[Bh]
           ·rw[Ac.set_other _ _ k2,Ac.set_other _ _ k1]at hk;exact V5.only k hk)
        generalize(M5.set bj ⟨3,1,A0 ((Dw cl j).eraseIdx i)⟩).set bc ⟨25,1,(Hx bs5 cl5).set j (.osl bj 1 0 ((Dw cl j).length-1))⟩=M6 at V6 ⊢;have p1:=V6.game.g;have p2:=V6.game.f;unfold C8 at p1;have hjf:j<fl5.length:=by rw[hfl5];exact hj
        have hxj:fl5[j]=E2 fl3 j:=by rw[F7 hjf,hfj5]
        have w3:=Aq (E2 fl3 j+1) (by omega);(repeat refine AW.seq_k fun K hK=>?_);refine AW.rg ?_;simp[-Int.natCast_add,p1,p2,hj,hfl5,hxj,w3];try (refine hK _ rfl ?_;clear hK K)
        rw[Kv];have V7:=V6.setF j (E2 fl3 j+1);generalize M6.set bf ⟨3,1,A0 (fl5.set j (E2 fl3 j+1))⟩=M7 at V7 ⊢;(repeat refine AW.seq_k fun K hK=>?_);refine AW.rg ?_;simp[-Int.natCast_add];try (refine hK _ rfl ?_;clear hK K)
        exact AW.ret (Cf rfl V7.ones (hdone _ _ V7))
   ·refine AW.exit ?_;try simp
    have hil:i=(Dw cl j).length:=by omega
    exact⟨s1,g2,g3,fun e he=>g4 e (by rw[hil,List.take_length];exact he)⟩
  ·rintro⟨M1,s1⟩ ⟨g1,g2,g3⟩;simp only at g1 g2 g3;(repeat refine AW.seq_k fun K hK=>?_);refine AW.rg ?_;simp;try (refine hK _ rfl ?_;clear hK K)
   exact AW.ret (Cf rfl g1.ones ⟨false,rfl,fl,bs,cl,s1,g1,fun _=>⟨rfl,rfl,rfl,g2,g3⟩,fun h=>by cases h⟩)
end Go.Av
end
section
namespace Go.Av
open Go.Proofs Go.Lam
def Q3f (n bg bf bc:Nat) (es:List RE) (A:List Nat) (fl:List Nat) (bs:List (Option Nat)) (cl:List (List Nat)) (to keep:Nat) (v:AV) (M':Ac):Prop :=
 ∃ok:Bool,v=.bool ok∧∃(fl':List Nat) (bs':List (Option Nat)) (cl':List (List Nat)),Dv M' n bg bf bc es fl' bs' cl'∧F1 M' (Bh bg bf bc bs') ∧
  (ok=false→fl'=fl∧bs'=bs∧cl'=cl∧∃X:Nat→Bool,X to=true∧X keep=true∧(∀v,v<n→X v=true→v≠to→v≠keep→E2 fl v=0)∧(∀v,v<n→X v=true→(v=to∨v≠keep)→∀e∈Dw cl v,X (G4 (Ag es) e v)=true)) ∧
  (ok=true→Got n (Ag es) A (fun v=>v==to || v==keep) to (E2 fl) (Dw cl) (E2 fl') (Dw cl'))
theorem Vt (n bg bf bc:Nat) (es:List RE) (A:List Nat) (hn:n≤12) (hes:Nj n es) (hA:∀e∈A,e<es.length) (M:Ac) (fl:List Nat) (bs:List (Option Nat)) (cl:List (List Nat)) (to keep:Nat)
  (hG:Dv M n bg bf bc es fl bs cl) (ho:F1 M (Bh bg bf bc bs)) (hI:Inv n (Ag es) A (E2 fl) (Dw cl)) (ht:to<n) (hk:keep<n) :
  Ak Tryz.prog 162 [.ptr bg 3 0 0,.int .i64 (to:Nat),.int .i64 (keep:Nat)] M (Q3f n bg bf bc es A fl bs cl to keep):=by
 have q1:=hG.g;have q4:=hG.fll;have hone:=I1 hG ho;refine Ad Tryz.func162 rfl rfl 25 rfl (Nat.le_of_ble_eq_true rfl) ?_;(repeat refine AW.seq_k fun K hK=>?_);refine AW.rgR [3] ?_;simp[Al];try (refine hK _ rfl ?_;clear hK K)
 unfold C8 at q1;(repeat refine AW.seq_k fun K hK=>?_);refine AW.rg ?_;simp[q1];try (refine hK _ rfl ?_;clear hK K)
 refine⟨by omega,Ae.intro fun bx hx=>Ae.intro fun c2 h2=>?_⟩;simp only[Am]at h2;refine hK _ rfl ?_;clear hK K;have hrep:List.replicate n (AV.bool false)=bools (List.replicate n false):=by simp[bools]
 rw[hrep];have ones1:∀c y,M.set bx ⟨4,1,bools (List.replicate n false)⟩ c=some y→∀v∈y.l,v.cells.all AV.one=true:=by
  intro c y hy v hv;by_cases e:c=bx
  ·rw[e,Ac.set_same]at hy;cases hy;exact N3 _ v hv
  ·rw[Ac.set_other _ _ e]at hy;exact hone c y hy v hv
 have hc2:M.set bx ⟨4,1,bools (List.replicate n false)⟩ c2=none:=by rw[Ac.set_other _ _ h2.1.1];exact h2.2
 refine AW.turn [(1,.int .i64 (to:Nat)),(2,.int .i64 (keep:Nat)),(3,.rptr [.ptr bg 3 0 0]),(6,.bool false),(7,.rptr [.osl bx 1 0 n])] (M.set bx ⟨4,1,bools (List.replicate n false)⟩) (Bm.drop hc2 ones1)
  (by simp;exact .ptr c2 1 0 0 ⟨137,1,[.osl bx 1 0 n]⟩ (.osl bx 1 0 n) (Ac.set_same _ _ _) hc2 rfl rfl) ?_
 have hl0:(bools (List.replicate n false)).length=n:=by simp
 (repeat refine AW.seq_k fun K hK=>?_);refine AW.rdT [] [7] [] [] [0,1,2,3,4,5,6,7] Dm (by simp[ht,hk,hl0]) (by simp[ht,hk,hl0]) (by simp[ht,hk,hl0]) (by simp[ht,hk,hl0]) (by simp[ht,hk,hl0]) ?_;simp[ht,hk,hl0];try (refine hK _ rfl ?_;clear hK K)
 rw[Gj,Gj];have hsl:(((List.replicate n false).set to true).set keep true).length=n:=by simp
 have hS:Ga (((List.replicate n false).set to true).set keep true)=fun v=>v==to || v==keep:=by
  rw[Lc (by simp;exact hk),Lc (by simp;exact ht)]
  funext v
  unfold Fv;have h0:Ga (List.replicate n false) v=false:=by unfold Ga;rw[List.getD_eq_getElem?_getD,List.getElem?_replicate];split<;>rfl
  by_cases e1:v=keep<;>by_cases e2:v=to<;>simp[e1,e2,h0]
 generalize((List.replicate n false).set to true).set keep true=sn at hsl hS ⊢;(repeat refine AW.seq_k fun K hK=>?_);refine AW.rg ?_;simp;try (refine hK _ rfl ?_;clear hK K)
 refine⟨rfl,by simp[AV.cells,AV.one],Ae.intro fun c3 h3=>?_⟩;simp only[Am]at h3;refine hK _ rfl ?_;clear hK K;(repeat refine AW.seq_k fun K hK=>?_);refine AW.rg ?_;simp;try (refine hK _ rfl ?_;clear hK K)
 have hnx:∀k∈Bh bg bf bc bs,k≠bx∧k≠c3:=fun k hk=>⟨fun e=>hG.dom hk (by rw[e];exact hx),fun e=>hG.dom hk (by rw[e];exact h3.2)⟩;have hV:J7 ((M.set bx ⟨4,1,bools sn⟩).set c3 ⟨100,1,[.fn 195 [.rptr [.ptr bg 3 0 0],.rptr [.osl bx 1 0 n],.ptr c3 1 0 0]]⟩) n bg bf bc bx c3 es fl bs cl sn :=
  {game:=hG.congr fun k hk=>by rw[Ac.set_other _ _ (hnx k hk).2,Ac.set_other _ _ (hnx k hk).1]
   seen:=by rw[Ac.set_other _ _ h3.1.2,Ac.set_same]
   snl:=hsl
   cell:=Ac.set_same _ _ _
   off:=hnx
   xc:=h3.1.2
   only:=fun k hk=>by
    simp only[List.mem_cons];by_cases e1:k=c3
    ·exact .inr (.inl e1)
    ·by_cases e2:k=bx
     ·exact .inl e2
     ·rw[Ac.set_other _ _ e1,Ac.set_other _ _ e2]at hk;exact .inr (.inr (ho k hk))}
 have hc3:=hV.cell;unfold Qwp at hc3;have ih:=Qgb n bg bf bc bx c3 es A hn hes hA (Gu sn) _ fl bs cl sn to (Nat.le_refl _) hV hI ht (by rw[hS];simp);generalize(M.set bx ⟨4,1,bools sn⟩).set c3 ⟨100,1,[.fn 195 [.rptr [.ptr bg 3 0 0],.rptr [.osl bx 1 0 n],.ptr c3 1 0 0]]⟩=M2 at hV hc3 ih ⊢;(repeat refine AW.seq_k fun K hK=>?_);refine AW.rg ?_;simp[hc3];try (refine hK _ rfl ?_;clear hK K)
 refine⟨195,_,⟨rfl,rfl⟩,?_⟩;refine Aa.whole (fun _ h=>h) ih ?_;rintro _ g ⟨ok,rfl,fl',bs',cl',sn',hV',hF,hT⟩;simp;try (refine hK _ rfl ?_;clear hK K)
 have hrec:Bm g (g.only (Bh bg bf bc bs')):=Bm.sub fun b x hb=>by
  by_cases hm:b∈Bh bg bf bc bs'
  ·rw[Ce hm]at hb;exact⟨hb,hV'.ones b x hb⟩
  ·rw[B7 hm]at hb;cases hb
 refine AW.ret ⟨[.bool ok],rfl,.bool ok,_,hrec,.same _,ok,rfl,fl',bs',cl',hV'.game.congr fun k hk=>Ce hk,fun k hk=>?_,fun h=>?_,fun h=>?_⟩
 ·rcases Decidable.em (k∈Bh bg bf bc bs')with hm|hm
  ·exact hm
  ·exact absurd (B7 hm) hk
 ·obtain⟨r1,r2,r3,hL,hsh⟩:=hF h;rw[hS]at hL;refine⟨r1,r2,r3,Ga sn',hL.sub to (by simp),hL.sub keep (by simp),fun v hv hx h1 h2=>hL.zero v hv (by simp[h1,h2]) hx,fun v hv hx h1=>?_⟩;by_cases e:v=to
  ·rw[e];exact hsh
  ·exact hL.shut v hv (by simp[e];exact h1.resolve_left e) hx
 ·have:=(hT h).1;rw[hS]at this;exact this
end Go.Av
end
section
namespace Go.Av
open Go.Proofs Go.Lam
structure GSt where
 M:Ac
 fl:List Nat
 bs:List (Option Nat)
 cl:List (List Nat)
structure J8 (n bg bf bc:Nat) (es:List RE) (A:List Nat) (M:Ac) (fl:List Nat) (bs:List (Option Nat)) (cl:List (List Nat)):Prop where
 mem:Dv M n bg bf bc es fl bs cl
 only:F1 M (Bh bg bf bc bs)
 inv:Inv n (Ag es) A (E2 fl) (Dw cl)
def Q3z (n bg bf bc:Nat) (es:List RE) (A:List Nat) (a b:Nat) (v:AV) (M':Ac):Prop :=
 ∃(fl':List Nat) (bs':List (Option Nat)) (cl':List (List Nat)),v=.int .i64 ((E2 fl' a+E2 fl' b:Nat):Int)∧J8 n bg bf bc es A M' fl' bs' cl'∧E2 fl' a=2 ∧
  (E2 fl' b=2∨E2 fl' b=1∧∃X,Eh n (A.map (Ag es)) X∧X a=true∧X b=true)
theorem Tl (n bg bf bc:Nat) (es:List RE) (A:List Nat) (hn:n≤12) (hes:Nj n es) (hA:∀e∈A,e<es.length) (hsp:Bk n (A.map (Ag es))) (M:Ac) (fl:List Nat) (bs:List (Option Nat)) (cl:List (List Nat)) (a b:Nat)
  (hG:J8 n bg bf bc es A M fl bs cl) (ha:a<n) (hb:b<n) (hab:a≠b) :
  Ak Tryz.prog 119 [.ptr bg 3 0 0,.int .i64 (a:Nat),.int .i64 (b:Nat)] M (Q3z n bg bf bc es A a b):=by
 refine Ad Tryz.func119 rfl rfl 50 rfl (Nat.le_of_ble_eq_true rfl) ?_;(repeat refine AW.seq_k fun K hK=>?_);refine AW.rg ?_;simp[Al];try (refine hK _ rfl ?_;clear hK K)
 refine AW.seq_ex (ι:=GSt) (fun _=>[(0,.ptr bg 3 0 0),(1,.int .i64 (a:Nat)),(2,.int .i64 (b:Nat))]) (fun z=>z.M) (fun z=>J8 n bg bf bc es A z.M z.fl z.bs z.cl∧E2 z.fl a=2) ?_ ?_
 ·refine AW.block (AW.loopS (ι:=GSt) (fun _=>[(0,.ptr bg 3 0 0),(1,.int .i64 (a:Nat)),(2,.int .i64 (b:Nat))]) (fun z=>z.M) (fun z=>J8 n bg bf bc es A z.M z.fl z.bs z.cl) (fun z=>2-E2 z.fl a) ⟨M,fl,bs,cl⟩ hG rfl (by simp) ?_);rintro⟨M,fl,bs,cl⟩ hG;simp only at hG ⊢;have q1:=hG.mem.g;have q2:=hG.mem.f;have q4:=hG.mem.fll;have hal:a<fl.length:=by rw[q4];exact ha
  have hx:=F7 hal;have h2:=hG.inv.two a ha;unfold C8 at q1;by_cases hlt:fl[a]<2
  ·have hc:=Vt n bg bf bc es A hn hes hA M fl bs cl a a hG.mem hG.only hG.inv ha ha;have hlt':((fl[a]:Nat):Int)<2:=by omega
   (repeat refine AW.seq_k fun K hK=>?_);refine AW.rg ?_;simp[q1,q2,ha,q4,hlt];try (refine hK _ rfl ?_;clear hK K)
   refine Aa.whole (fun _ h=>h) hc ?_;rintro _ g ⟨ok,rfl,fl',bs',cl',hM,ho,hF,hT⟩;cases ok with
   |true =>
    have hg:=hT rfl;simp;try (refine hK _ rfl ?_;clear hK K)
    refine AW.yes ?_ rfl;refine AW.skip ?_;try simp
    try (refine hK _ rfl ?_;clear hK K)
    (repeat refine AW.seq ?_);refine AW.block ?_;refine AW.skip ?_;try simp
    exact⟨⟨g,fl',bs',cl'⟩,⟨hM,ho,hg.inv⟩,by simp only;rw[hg.plus];omega,rfl⟩
   |false =>
    obtain⟨r1,r2,r3,X,x1,x2,hz,hsh⟩:=hF rfl;have:=hG.inv.first hsp ha (X:=X) (fun v hv hx e he=>hsh v hv hx (Decidable.em (v=a)) e he) x1 (fun v hv hx h=>hz v hv hx h h);omega
  ·(repeat refine AW.seq_k fun K hK=>?_);refine AW.rg ?_;simp[q1,q2,ha,q4,hlt];try (refine hK _ rfl ?_;clear hK K)
   (repeat refine AW.seq ?_);refine AW.no ?_ rfl;refine AW.exit ?_;try simp
   exact⟨⟨M,fl,bs,cl⟩,⟨hG,by simp only;omega⟩,rfl⟩
 rintro⟨M,fl,bs,cl⟩ ⟨hG,h2⟩;simp only at hG h2 ⊢;refine AW.seq_ex (ι:=GSt) (fun _=>[(0,.ptr bg 3 0 0),(1,.int .i64 (a:Nat)),(2,.int .i64 (b:Nat))]) (fun z=>z.M) (fun z=>J8 n bg bf bc es A z.M z.fl z.bs z.cl∧E2 z.fl a=2∧(E2 z.fl b=2∨E2 z.fl b=1∧∃X,Eh n (A.map (Ag es)) X∧X a=true∧X b=true)) ?_ ?_
 ·refine AW.block (AW.loopS (ι:=GSt) (fun _=>[(0,.ptr bg 3 0 0),(1,.int .i64 (a:Nat)),(2,.int .i64 (b:Nat))]) (fun z=>z.M) (fun z=>J8 n bg bf bc es A z.M z.fl z.bs z.cl∧E2 z.fl a=2) (fun z=>2-E2 z.fl b) ⟨M,fl,bs,cl⟩ ⟨hG,h2⟩ rfl (by simp) ?_);rintro⟨M,fl,bs,cl⟩ ⟨hG,h2⟩;simp only at hG h2 ⊢;have q1:=hG.mem.g;have q2:=hG.mem.f;have q4:=hG.mem.fll;have hbl:b<fl.length:=by rw[q4];exact hb
  have hx:=F7 hbl;have h3:=hG.inv.two b hb;have h4:=hG.inv.two a ha;unfold C8 at q1;by_cases hlt:fl[b]<2
  ·have hc:=Vt n bg bf bc es A hn hes hA M fl bs cl b a hG.mem hG.only hG.inv hb ha;(repeat refine AW.seq_k fun K hK=>?_);refine AW.rg ?_;simp[q1,q2,hb,q4,hlt];try (refine hK _ rfl ?_;clear hK K)
   refine Aa.whole (fun _ h=>h) hc ?_;rintro _ g ⟨ok,rfl,fl',bs',cl',hM,ho,hF,hT⟩;cases ok with
   |true =>
    have hg:=hT rfl;simp;try (refine hK _ rfl ?_;clear hK K)
    refine AW.yes ?_ rfl;refine AW.skip ?_;try simp
    try (refine hK _ rfl ?_;clear hK K)
    (repeat refine AW.seq ?_);refine AW.block ?_;refine AW.skip ?_;try simp
    exact⟨⟨g,fl',bs',cl'⟩,⟨⟨hM,ho,hg.inv⟩,by simp only;rw[hg.free a ha (by simp) hab];exact h2⟩,by simp only;rw[hg.plus];omega,rfl⟩
   |false =>
    obtain⟨r1,r2,r3,X,x1,x2,hz,hsh⟩:=hF rfl;subst r1;subst r2;subst r3;have hc0:Dw cl' a=[]:=List.eq_nil_of_length_eq_zero (by omega);obtain⟨k1,k2⟩:=hG.inv.second hsp ha hb hab h2 (X:=X) (fun v hv hx e he=>by
     by_cases e1:v=a
     ·subst e1;rw[hc0]at he;cases he
     ·exact hsh v hv hx (.inr e1) e he) x2 x1 (fun v hv hx h h'=>hz v hv hx h' h) (by omega)
    simp;try (refine hK _ rfl ?_;clear hK K)
    refine AW.no ?_ rfl;refine AW.exit ?_;try simp
    exact⟨⟨g,fl',bs',cl'⟩,⟨⟨hM,ho,hG.inv⟩,h2,.inr ⟨k1,X,k2,x2,x1⟩⟩,rfl⟩
  ·(repeat refine AW.seq_k fun K hK=>?_);refine AW.rg ?_;simp[q1,q2,hb,q4,hlt];try (refine hK _ rfl ?_;clear hK K)
   (repeat refine AW.seq ?_);refine AW.no ?_ rfl;refine AW.exit ?_;try simp
   exact⟨⟨M,fl,bs,cl⟩,⟨hG,h2,.inl (by simp only;omega)⟩,rfl⟩
 rintro⟨M,fl,bs,cl⟩ ⟨hG,h2,h3⟩;simp only at hG h2 h3 ⊢;have q1:=hG.mem.g;have q2:=hG.mem.f;have q4:=hG.mem.fll;have hal:a<fl.length:=by rw[q4];exact ha
 have hbl:b<fl.length:=by rw[q4];exact hb
 have hx:=F7 hal;have hy:=F7 hbl;unfold C8 at q1;have w1:IntKind.i64.wrap ((E2 fl a+E2 fl b:Nat):Int)=((E2 fl a+E2 fl b:Nat):Int):=wi (by rcases h3 with h3 | h3;omega;have:=h3.1;omega);(repeat refine AW.seq_k fun K hK=>?_);refine AW.rdL [bg,bf] [0,1,2,3,4,5,6,7,8,9,10,11,12,13,14,15] Dm (by simp[q1,q2]) ?_;simp[-Int.natCast_add,q1,q2,ha,hb,q4,hx,hy,w1];try (refine hK _ rfl ?_;clear hK K)
 exact AW.ret (Cf rfl (I1 hG.mem hG.only) ⟨fl,bs,cl,rfl,hG,h2,h3⟩)
end Go.Av
end
section
namespace Go.Lam
section
variable {n:Nat} {E:Nat→Ed} {A:List Nat} {fr:Nat→Nat} {cv:Nat→List Nat}
def Far (n:Nat) (E:Nat→Ed) (fr:Nat→Nat) (cv:Nat→List Nat) (S:Nat→Bool) (j:Nat):Prop:=∀X,X j=true→Qh7 n E cv X→∃w,w<n∧X w=true∧S w=false∧0<fr w
theorem Far.direct {S T:Nat→Bool} {j e:Nat} (hsub:∀v,S v=true→T v=true) (hj:j<n) (he:e∈cv j) (hk:G4 E e j<n) (hT:T (G4 E e j)=false) (hf:0<fr (G4 E e j)):Far n E fr cv S j:=fun X hX hs=>by
 refine⟨G4 E e j,hk,hs j hj hX e he,?_,hf⟩;cases h:S (G4 E e j)with
 |false=>rfl
 |true=>rw[hsub _ h]at hT;cases hT
theorem Far.through {S T:Nat→Bool} {j e:Nat} (hsub:∀v,S v=true→T v=true) (hj:j<n) (he:e∈cv j) (h:Far n E fr cv T (G4 E e j)):Far n E fr cv S j:=fun X hX hs=>by
 obtain⟨w,h1,h2,h3,h4⟩:=h X (hs j hj hX e he) hs;refine⟨w,h1,h2,?_,h4⟩;cases hc:S w with
 |false=>rfl
 |true=>rw[hsub _ hc]at h3;cases h3
theorem Ql9 (h:Inv n E A fr cv) {a b v:Nat} (ha:a<n) (hb:b<n) (hab:a≠b) (hv:v<n) (h3:3≤fr a+fr b) {S:Nat→Bool} (hSa:S a=true) (hSb:S b=true) (hF:Far n E fr cv S v) {X:Nat→Bool} (hX:Eh n (A.map E) X) (hXa:X a=true) (hXb:X b=true):X v=false:=by
 cases hXv:X v with
 |false=>rfl
 |true =>
  exfalso
  have e2:Xa n fr (Fw a b)≤Xa n fr X:=Qnn fun v _ hv=>by
   simp only[Fw,Bool.or_eq_true,beq_iff_eq]at hv;rcases hv with rfl | rfl<;>assumption
  rw[Qq ha hb hab]at e2;have hS:=h.shut (X:=X) (by have:=hX.2;omega);obtain⟨w,w1,w2,w3,w4⟩:=hF X hXv hS;have hwa:w≠a:=fun e=>by rw[e,hSa]at w3;cases w3
  have hwb:w≠b:=fun e=>by rw[e,hSb]at w3;cases w3
  have e3:Xa n fr (Fw a b)+Xa n fr (fun v=>v==w)≤Xa n fr X:=by
   unfold Xa;rw[←Lo];refine Zd fun v hv=>?_;by_cases h1:v=w
   ·subst h1;have:Fw a b v=false:=by simp[Fw,hwa,hwb]
    simp[this,w2]
   ·by_cases h2:Fw a b v=true
    ·have:X v=true:=by
      simp only[Fw,Bool.or_eq_true,beq_iff_eq]at h2;rcases h2 with rfl | rfl<;>assumption
     simp[h2,h1,this]
    ·simp[h1,h2]
  rw[Qq ha hb hab,U9 w1]at e3;have:=h.le X;have:=hX.2;omega
theorem Qih (h:Inv n E A fr cv) (hs:Bk n (A.map E)) {a b v e:Nat} (ha:a<n) (hb:b<n) (hab:a≠b) (hv:v<n) (heA:e∈A) (he:(E e).1=a∧(E e).2=b) (h2:fr a=2) (h1:fr b=1) (hfv:fr v=0) {T:Nat→Bool}
  (hL:L9 n E fr cv (Fv (Fv (Fv (fun _=>false) a true) b true) v true) T) (hc:∀e∈cv v,T (G4 E e v)=true):Eh n (A.map E) T∧T a=true∧T b=true∧T v=true:=by
 have hS:∀w,Fv (Fv (Fv (fun _=>false) a true) b true) v true w=true↔w=v∨w=b∨w=a:=fun w=>by
  unfold Fv;by_cases h1:w=v
  ·simp[h1]
  ·by_cases h2:w=b
   ·simp[h2]
   ·by_cases h3:w=a<;>simp[h1,h2,h3]
 have hTa:=hL.sub a ((hS a).2 (.inr (.inr rfl)));have hTb:=hL.sub b ((hS b).2 (.inr (.inl rfl)));have hTv:=hL.sub v ((hS v).2 (.inl rfl));have hca:cv a=[]:=List.eq_nil_of_length_eq_zero (by have:=h.two a ha;omega);have hcb:∀x∈cv b,x=e:=by
  have hm:e∈(List.range n).flatMap cv:=h.perm.mem_iff.2 heA;obtain⟨u,hu,hu2⟩:=List.mem_flatMap.1 hm;have hun:=List.mem_range.1 hu;have hub:u=b:=by
   rcases h.ends u hun e hu2 with h3|h3
   ·rw[he.1]at h3;rw[←h3,hca]at hu2;cases hu2
   ·rw[he.2]at h3;exact h3.symm
  subst hub;have hl:=h.two u hb;intro x hx
  match hcu:cv u,hx,hu2 with
  |[y],hx,hu2=>simp at hx hu2;rw[hx,hu2]
  |[],hx,_=>cases hx
  |y::z::t,_,_=>rw[hcu]at hl;simp at hl;omega
 have hSh:Qh7 n E cv T:=fun u hu hTu x hx=>by
  by_cases hu2:Fv (Fv (Fv (fun _=>false) a true) b true) v true u=true
  ·rcases(hS u).1 hu2 with rfl|rfl|rfl
   ·exact hc x hx
   ·rw[hcb x hx];have:G4 E e u=a:=by unfold G4;omega
    rw[this];exact hTa
   ·rw[hca]at hx;cases hx
  ·exact hL.shut u hu (by simpa using hu2) hTu x hx
 have:=h.second hs ha hb hab h2 hSh hTa hTb (fun u hu hTu hua hub=>by
  by_cases huv:u=v
  ·rw[huv];exact hfv
  ·refine hL.zero u hu ?_ hTu;cases hq:Fv (Fv (Fv (fun _=>false) a true) b true) v true u with
   |false=>rfl
   |true=>rcases(hS u).1 hq with h' | h' | h'<;>contradiction) (by omega)
 exact⟨this.2,hTa,hTb,hTv⟩
end
end Go.Lam
end
section
namespace Go.Av
open Go.Proofs Go.Lam
def Qux (bg bx c3 n:Nat):AV:=.fn 124 [.rptr [.ptr bg 3 0 0],.rptr [.osl bx 1 0 n],.ptr c3 1 0 0]
structure Xo (M:Ac) (n bg bf bc bx c3:Nat) (es:List RE) (fl:List Nat) (bs:List (Option Nat)) (cl:List (List Nat)) (sn:List Bool):Prop where
 game:Dv M n bg bf bc es fl bs cl
 seen:M bx=some ⟨4,1,bools sn⟩
 snl:sn.length=n
 cell:M c3=some ⟨100,1,[Qux bg bx c3 n]⟩
 off:∀k∈Bh bg bf bc bs,k≠bx∧k≠c3
 xc:bx≠c3
 only:F1 M (bx::c3::Bh bg bf bc bs)
section
variable {M:Ac} {n bg bf bc bx c3:Nat} {es:List RE} {fl:List Nat} {bs:List (Option Nat)} {cl:List (List Nat)} {sn:List Bool}
theorem Xo.look (h:Xo M n bg bf bc bx c3 es fl bs cl sn) (i:Nat):Xo (M.set bx ⟨4,1,bools (sn.set i true)⟩) n bg bf bc bx c3 es fl bs cl (sn.set i true) where
 game:=h.game.congr fun k hk=>Ac.set_other _ _ (h.off k hk).1
 seen:=Ac.set_same _ _ _
 snl:=by rw[List.length_set,h.snl]
 cell:=by rw[Ac.set_other _ _ (Ne.symm h.xc)];exact h.cell
 off:=h.off
 xc:=h.xc
 only:=h.only.set _ (by simp)
theorem Xo.ones (h:Xo M n bg bf bc bx c3 es fl bs cl sn):∀c y,M c=some y→∀v∈y.l,v.cells.all AV.one=true:=by
 intro c y hy v hv;have hc:=h.only c (by rw[hy];simp);simp only[List.mem_cons]at hc;rcases hc with rfl | rfl | hc
 ·rw[h.seen]at hy;cases hy;exact N3 _ v hv
 ·rw[h.cell]at hy;cases hy;simp only[List.mem_singleton]at hv;subst hv;rfl
 ·rcases Bl.1 hc with rfl|rfl|rfl|⟨i,hi⟩
  ·rw[h.game.g]at hy;cases hy;simp only[C8,List.mem_singleton]at hv;subst hv;rfl
  ·rw[h.game.f]at hy;cases hy;exact C7 _ v hv
  ·rw[h.game.c]at hy;cases hy;exact Ks _ _ v hv
  ·rw[h.game.row i c hi]at hy;cases hy;exact C7 _ v hv
end
def Q3j (n bg bf bc bx c3:Nat) (es:List RE) (fl:List Nat) (bs:List (Option Nat)) (cl:List (List Nat)) (sn:List Bool) (j:Nat) (v:AV) (M':Ac):Prop :=
 ∃ok:Bool,v=.bool ok∧∃(sn':List Bool),Xo M' n bg bf bc bx c3 es fl bs cl sn' ∧
  (ok=false→L9 n (Ag es) (E2 fl) (Dw cl) (Ga sn) (Ga sn')∧∀e∈Dw cl j,Ga sn' (G4 (Ag es) e j)=true) ∧
  (ok=true→Far n (Ag es) (E2 fl) (Dw cl) (Ga sn) j)
theorem Qfc (n bg bf bc bx c3:Nat) (es:List RE) (A:List Nat) (hn:n≤12) (hes:Nj n es) (hA:∀e∈A,e<es.length) (fl:List Nat) (bs:List (Option Nat)) (cl:List (List Nat)) (hI:Inv n (Ag es) A (E2 fl) (Dw cl)) :
  ∀(fuel:Nat) (M:Ac) (sn:List Bool) (j:Nat),Gu sn≤fuel→Xo M n bg bf bc bx c3 es fl bs cl sn→j<n →
   Ak Tryz.prog 124 [.int .i64 (j:Nat),.rptr [.ptr bg 3 0 0],.rptr [.osl bx 1 0 n],.ptr c3 1 0 0] M (Q3j n bg bf bc bx c3 es fl bs cl sn j):=by
 have hes12:Nj 12 es:=fun i hi=>⟨(hes i hi).1,(hes i hi).2.1,by have:=(hes i hi).2.2;exact⟨by have:=this.1;omega,by have:=this.2.1;omega,this.2.2⟩⟩;intro fuel
 induction fuel using Nat.strongRecOn with
 |ind fuel IH =>
 intro M sn j hu hV hj;refine Ad Tryz.func124 rfl rfl 46 rfl (Nat.le_of_ble_eq_true rfl) ?_;(repeat refine AW.seq_k fun K hK=>?_);refine AW.rg ?_;simp[Al];try (refine hK _ rfl ?_;clear hK K)
 have m1:=hV.game.g;have m3:=hV.game.c;have hhl:=Hl hV.game;obtain⟨o,ho,hget⟩:=Me hV.game hj;unfold C8 at m1;have hjh:j<(Hx bs cl).length:=by rw[hhl];exact hj
 have hgel:(Hx bs cl)[j]=hdO o (Dw cl j):=by rw[List.getElem?_eq_getElem hjh]at hget;exact Option.some.inj hget
 cases o with
 |none =>
  have hc0:=hV.game.nil j ho;simp only[hdO]at hgel;have hone:=hV.ones;refine AW.seq_ex (ι:=Unit) (fun _=>[]) (fun _=>M) (fun _=>True) ?_ ?_
  ·(repeat refine AW.seq_k fun K hK=>?_);refine AW.rg ?_;simp[m1,m3,hj,hhl,hgel];try (refine hK _ rfl ?_;clear hK K)
   refine AW.block (AW.loopS (ι:=Unit) (fun _=>[(16,.int .i64 0),(17,.int .i64 0)]) (fun _=>M) (fun _=>True) (fun _=>0) () trivial rfl (by simp) ?_);intro _ _;(repeat refine AW.seq_k fun K hK=>?_);refine AW.rg ?_;simp;try (refine hK _ rfl ?_;clear hK K)
   (repeat refine AW.seq ?_);refine AW.no ?_ rfl;refine AW.exit ?_;try simp
  ·rintro _ _;(repeat refine AW.seq_k fun K hK=>?_);refine AW.rg ?_;simp;try (refine hK _ rfl ?_;clear hK K)
   exact AW.ret (Cf rfl hone ⟨false,rfl,sn,hV,fun _=>⟨L9.refl _,fun e he=>by rw[hc0]at he;cases he⟩,fun h=>by cases h⟩)
 |some b =>
  simp only[hdO]at hgel;have hrow:=hV.game.row j b ho;have hlen2:(Dw cl j).length≤2:=by have:=hI.two j hj;omega
  refine AW.seq_ex (ι:=Ac × List Bool) (fun _=>[]) (fun z=>z.1) (fun z=>Xo z.1 n bg bf bc bx c3 es fl bs cl z.2∧L9 n (Ag es) (E2 fl) (Dw cl) (Ga sn) (Ga z.2)∧∀e∈Dw cl j,Ga z.2 (G4 (Ag es) e j)=true) ?_ ?_
  ·(repeat refine AW.seq_k fun K hK=>?_);refine AW.rg ?_;simp[m1,m3,hj,hhl,hgel];try (refine hK _ rfl ?_;clear hK K)
   refine AW.block (AW.loopS (ι:=Ac × List Bool × Nat) (fun z=>[(0,.int .i64 (j:Nat)),(1,.rptr [.ptr bg 3 0 0]),(2,.rptr [.osl bx 1 0 n]),(3,.ptr c3 1 0 0),(15,.osl b 1 0 (Dw cl j).length),(16,.int .i64 ((Dw cl j).length:Nat)),(17,.int .i64 (z.2.2:Nat))]) (fun z=>z.1)
    (fun z=>z.2.2≤(Dw cl j).length∧Xo z.1 n bg bf bc bx c3 es fl bs cl z.2.1∧L9 n (Ag es) (E2 fl) (Dw cl) (Ga sn) (Ga z.2.1)∧∀e∈(Dw cl j).take z.2.2,Ga z.2.1 (G4 (Ag es) e j)=true)
    (fun z=>(Dw cl j).length-z.2.2) (M,sn,0) ⟨by simp,hV,L9.refl _,by simp⟩ rfl (by simp) ?_)
   rintro⟨M1,s1,i⟩ ⟨g1,g2,g3,g4⟩;simp only at g1 g2 g3 g4;(repeat refine AW.seq_k fun K hK=>?_);refine AW.rg ?_;simp;try (refine hK _ rfl ?_;clear hK K)
   (repeat refine AW.seq ?_);refine AW.cs (fun hi=>?_) (fun hi=>?_) rfl<;>(try simp at hi)
   ·refine AW.skip ?_;try simp
    try (refine hK _ rfl ?_;clear hK K)
    have w1:=Aq (i+1) (by omega);have r1:=g2.game.row j b ho;have r2:=g2.seen;have hsl:=g2.snl;obtain⟨e,he⟩:∃e,(Dw cl j)[i]=e:=⟨_,rfl⟩;have heM:e∈Dw cl j:=he ▸ List.getElem_mem hi;have hel:e<es.length:=hA e (hI.mem hj heM);have hend:=hI.ends j hj e heM;obtain⟨hn1,hn2⟩:=hI.oth_lt hj heM;have htk:=Kz hi he;(repeat refine AW.seq ?_);refine AW.block ?_;(repeat refine AW.seq_k fun K hK=>?_);refine AW.rg ?_;simp[r1,hi,he];try (refine hK _ rfl ?_;clear hK K)
    (repeat refine AW.seq_k fun K hK=>?_);refine AW.rg ?_;simp;try (refine hK _ rfl ?_;clear hK K)
    refine Aa.grant bg (C8 es bf bc n) g2.game.g (fun h=>h) (Wu bg bf bc n es e j hel hes12 (by rcases hend with h | h;exact .inl h.symm;exact .inr h.symm)) ?_;rintro _ _ ⟨rfl,rfl⟩;rw[set_self g2.game.g];simp;try (refine hK _ rfl ?_;clear hK K)
    obtain⟨n1,hn⟩:∃n1,G4 (Ag es) e j=n1:=⟨_,rfl⟩;rw[hn]at hn1 hn2;simp only[hn];have hs1:n1<s1.length:=by rw[hsl];exact hn1
    cases hseen:s1[n1]with
    |true =>
     (repeat refine AW.seq_k fun K hK=>?_);refine AW.rg ?_;simp[r2,hn1,hsl,hseen];try (refine hK _ rfl ?_;clear hK K)
     refine AW.yes ?_ rfl;refine AW.exit ?_;try simp
     (repeat refine AW.seq_k fun K hK=>?_);refine AW.rg ?_;simp[-Int.natCast_add,w1];try (refine hK _ rfl ?_;clear hK K)
     refine⟨M1,s1,i+1,⟨by omega,g2,g3,fun x hx=>?_⟩,by omega,rfl,rfl⟩;rw[htk]at hx;rcases List.mem_append.1 hx with hx | hx
     ·exact g4 x hx
     ·simp only[List.mem_singleton]at hx;subst hx;rw[hn,Uh hs1,hseen]
    |false =>
     have hS1:Ga s1 n1=false:=by rw[Uh hs1,hseen]
     (repeat refine AW.seq_k fun K hK=>?_);refine AW.rg ?_;simp[r2,hn1,hsl,hseen];try (refine hK _ rfl ?_;clear hK K)
     refine AW.no ?_ rfl;refine AW.skip ?_;try simp
     try (refine hK _ rfl ?_;clear hK K)
     (repeat refine AW.seq_k fun K hK=>?_);refine AW.rg ?_;simp[r2,hn1,hsl];try (refine hK _ rfl ?_;clear hK K)
     rw[Gj];have V2:=g2.look n1;have hsn2:Ga (s1.set n1 true)=Fv (Ga s1) n1 true:=Lc hs1;have hu2:=Ws hs1 hseen;generalize M1.set bx ⟨4,1,bools (s1.set n1 true)⟩=M2 at V2 ⊢;have q1:=V2.game.g;have q2:=V2.game.f;have q3:=V2.cell;have q4:=V2.game.fll;have hf1:n1<fl.length:=by rw[q4];exact hn1
     unfold C8 at q1;unfold Qux at q3;have hsub2:∀v,Ga sn v=true→Ga (s1.set n1 true) v=true:=fun v hv=>by
      rw[hsn2];unfold Fv;split;rfl;exact g3.sub v hv
     by_cases hz:fl[n1]=0
     ·have ih:=IH (Gu (s1.set n1 true)) (by have h1:=hu2;have h2:=Yl g3 hV.snl g2.snl;omega) _ (s1.set n1 true) n1 (Nat.le_refl _) V2 hn1;(repeat refine AW.seq_k fun K hK=>?_);refine AW.rg ?_;simp[q1,q2,q3,hn1,q4,hz];try (refine hK _ rfl ?_;clear hK K)
      refine⟨124,_,⟨rfl,rfl⟩,?_⟩;refine Aa.whole (fun _ h=>h) ih ?_;rintro _ g ⟨ok,rfl,sn',hV',hF,hT⟩;cases ok with
      |false =>
       obtain⟨hL,hsh⟩:=hF rfl;simp;try (refine hK _ rfl ?_;clear hK K)
       refine AW.no ?_ rfl;refine AW.skip ?_;try simp
       try (refine hK _ rfl ?_;clear hK K)
       (repeat refine AW.seq_k fun K hK=>?_);refine AW.rg ?_;simp[-Int.natCast_add,w1];try (refine hK _ rfl ?_;clear hK K)
       refine⟨g,sn',i+1,⟨by omega,hV',?_,fun x hx=>?_⟩,by omega,rfl,rfl⟩
       ·rw[hsn2]at hL;exact g3.step (by rw[←F7 hf1];exact hz) hL hsh
       ·rw[htk]at hx;have hm:∀v,Ga s1 v=true→Ga sn' v=true:=fun v hv=>hL.sub v (by rw[hsn2];unfold Fv;split;rfl;exact hv);rcases List.mem_append.1 hx with hx | hx
        ·exact hm _ (g4 x hx)
        ·simp only[List.mem_singleton]at hx;subst hx;rw[hn];exact hL.sub n1 (by rw[hsn2,Ew])
      |true =>
       have hG:=hT rfl;simp;try (refine hK _ rfl ?_;clear hK K)
       refine AW.yes ?_ rfl;(repeat refine AW.seq_k fun K hK=>?_);refine AW.rg ?_;simp;try (refine hK _ rfl ?_;clear hK K)
       exact AW.ret (Cf rfl hV'.ones ⟨true,rfl,sn',hV',fun h=>(by cases h),fun _=>Far.through hsub2 hj heM (by rw[hn];exact hG)⟩)
     ·have hpos:0<E2 fl n1:=by rw[←F7 hf1];omega
      have hpz:0<fl[n1]:=by omega
      (repeat refine AW.seq_k fun K hK=>?_);refine AW.rg ?_;simp[q1,q2,q3,hn1,q4,hpz];try (refine hK _ rfl ?_;clear hK K)
      refine AW.yes ?_ rfl;(repeat refine AW.seq_k fun K hK=>?_);refine AW.rg ?_;simp;try (refine hK _ rfl ?_;clear hK K)
      exact AW.ret (Cf rfl V2.ones ⟨true,rfl,_,V2,fun h=>(by cases h),fun _=>Far.direct (fun v hv=>g3.sub v hv) hj heM (by rw[hn];exact hn1) (by rw[hn];exact hS1) (by rw[hn];exact hpos)⟩)
   ·refine AW.exit ?_;try simp
    have hil:i=(Dw cl j).length:=by omega
    exact⟨s1,g2,g3,fun e he=>g4 e (by rw[hil,List.take_length];exact he)⟩
  ·rintro⟨M1,s1⟩ ⟨g1,g2,g3⟩;simp only at g1 g2 g3;(repeat refine AW.seq_k fun K hK=>?_);refine AW.rg ?_;simp;try (refine hK _ rfl ?_;clear hK K)
   exact AW.ret (Cf rfl g1.ones ⟨false,rfl,s1,g1,fun _=>⟨g2,g3⟩,fun h=>by cases h⟩)
end Go.Av
end
section
namespace Go.Av
open Go.Proofs Go.Lam
def Q3n (n bg bf bc:Nat) (es:List RE) (A:List Nat) (e0 x:Nat) (v:AV) (M':Ac):Prop :=
 v=.bool (H7 n (A.map (Ag es)) (Ag es e0) x)∧∃(fl':List Nat) (bs':List (Option Nat)) (cl':List (List Nat)),J8 n bg bf bc es A M' fl' bs' cl'
theorem Qec (n bg bf bc:Nat) (es:List RE) (A:List Nat) (hn:n≤12) (hes:Nj n es) (hA:∀e∈A,e<es.length) (hsp:Bk n (A.map (Ag es))) (M:Ac) (fl:List Nat) (bs:List (Option Nat)) (cl:List (List Nat)) (e0 x:Nat)
  (hG:J8 n bg bf bc es A M fl bs cl) (he0:e0∈A) (hx:x<n) (hxa:x≠(Ag es e0).1) (hxb:x≠(Ag es e0).2) :
  Ak Tryz.prog 90 [.ptr bg 3 0 0,.int .i64 ((Ag es e0).1:Nat),.int .i64 ((Ag es e0).2:Nat),.int .i64 (x:Nat)] M (Q3n n bg bf bc es A e0 x):=by
 have hL:∀e∈A.map (Ag es),Ec n e:=fun e he=>by
  obtain⟨k,hk,rfl⟩:=List.mem_map.1 he;exact(hes k (hA k hk)).2.2
 have hok:Ec n (Ag es e0):=hL _ (List.mem_map.2 ⟨e0,he0,rfl⟩);have hT0:=Lg hL hsp (List.mem_map.2 ⟨e0,he0,rfl⟩);have hW:=Kc hL hx hok;have hins:∀X:Nat→Bool,ins X (Ag es e0)=true↔X (Ag es e0).1=true∧X (Ag es e0).2=true:=fun X=>by unfold ins;simp
 simp only[hins]at hW;generalize hw:H7 n (A.map (Ag es)) (Ag es e0) x=W at hW;obtain⟨ha,hb,hab⟩:=hok;obtain⟨a,ea⟩:∃a,(Ag es e0).1=a:=⟨_,rfl⟩;obtain⟨b,eb⟩:∃b,(Ag es e0).2=b:=⟨_,rfl⟩;rw[ea,eb]at hT0 hW;rw[ea]at ha hab hxa ⊢;rw[eb]at hb hab hxb ⊢;have hgc:=Tl n bg bf bc es A hn hes hA hsp M fl bs cl a b hG ha hb hab;refine Ad Tryz.func90 rfl rfl 43 rfl (Nat.le_of_ble_eq_true rfl) ?_;(repeat refine AW.seq_k fun K hK=>?_);refine AW.rgR [4] ?_;simp[Al];try (refine hK _ rfl ?_;clear hK K)
 (repeat refine AW.seq_k fun K hK=>?_);refine AW.rg ?_;simp;try (refine hK _ rfl ?_;clear hK K)
 refine Aa.whole (fun _ h=>h) hgc ?_;rintro _ g ⟨fl1,bs1,cl1,rfl,hG1,f1,f2⟩;have f3:E2 fl1 b=1:=by
  rcases f2 with f2|f2
  ·exact absurd hT0 (hG1.inv.four ha hb hab (by omega) _ (by simp[Fw]) (by simp[Fw]))
  ·exact f2.1
 clear f2;simp[-Int.natCast_add];try (refine hK _ rfl ?_;clear hK K)
 clear hG hgc;have q1:=hG1.mem.g;have q2:=hG1.mem.f;have q4:=hG1.mem.fll;have hone:=I1 hG1.mem hG1.only;have hxl:x<fl1.length:=by rw[q4];exact hx
 have hfx:=F7 hxl;unfold C8 at q1;have hno:∀S:Nat→Bool,S a=true→S b=true→Far n (Ag es) (E2 fl1) (Dw cl1) S x→W=false:=fun S h1 h2 h3=>by
  cases hc:W with
  |false=>rfl
  |true =>
   obtain⟨X,x1,x2,x3⟩:=hW.1 hc;rw[Ql9 hG1.inv ha hb hab hx (by omega) h1 h2 h3 x1 x2.1 x2.2]at x3;cases x3
 by_cases hz:0<fl1[x]
 ·have hWf:W=false:=hno (Fw a b) (by simp[Fw]) (by simp[Fw]) (fun X hX _=>⟨x,hx,hX,by simp[Fw,hxa,hxb],by omega⟩);(repeat refine AW.seq_k fun K hK=>?_);refine AW.rg ?_;simp[-Int.natCast_add,q1,q2,hx,q4,hz];try (refine hK _ rfl ?_;clear hK K)
  refine AW.yes ?_ rfl;(repeat refine AW.seq_k fun K hK=>?_);refine AW.rg ?_;simp[-Int.natCast_add];try (refine hK _ rfl ?_;clear hK K)
  exact AW.ret (Cf rfl hone ⟨by rw[hw,hWf];rfl,fl1,bs1,cl1,hG1⟩)
 have hz0:fl1[x]=0:=by omega
 (repeat refine AW.seq_k fun K hK=>?_);refine AW.rg ?_;simp[-Int.natCast_add,q1,q2,hx,q4,hz0];try (refine hK _ rfl ?_;clear hK K)
 refine AW.no ?_ rfl;refine AW.skip ?_;try simp[-Int.natCast_add]
 try (refine hK _ rfl ?_;clear hK K)
 (repeat refine AW.seq_k fun K hK=>?_);refine AW.rg ?_;simp[-Int.natCast_add,q1,q4];try (refine hK _ rfl ?_;clear hK K)
 refine⟨by omega,Ae.intro fun bx hbx=>Ae.intro fun c2 h2=>?_⟩;simp only[Am]at h2;refine hK _ rfl ?_;clear hK K;have hrep:List.replicate n (AV.bool false)=bools (List.replicate n false):=by simp[bools]
 rw[hrep];have ones1:∀c y,g.set bx ⟨4,1,bools (List.replicate n false)⟩ c=some y→∀v∈y.l,v.cells.all AV.one=true:=by
  intro c y hy v hv;by_cases e:c=bx
  ·rw[e,Ac.set_same]at hy;cases hy;exact N3 _ v hv
  ·rw[Ac.set_other _ _ e]at hy;exact hone c y hy v hv
 have hc2:g.set bx ⟨4,1,bools (List.replicate n false)⟩ c2=none:=by rw[Ac.set_other _ _ h2.1.1];exact h2.2
 refine AW.turn [(1,.int .i64 (a:Nat)),(2,.int .i64 (b:Nat)),(3,.int .i64 (x:Nat)),(4,.rptr [.ptr bg 3 0 0]),(8,.bool false),(9,.rptr [.osl bx 1 0 n])] (g.set bx ⟨4,1,bools (List.replicate n false)⟩) (Bm.drop hc2 ones1)
  (by simp[-Int.natCast_add];exact .ptr c2 1 0 0 ⟨137,1,[.osl bx 1 0 n]⟩ (.osl bx 1 0 n) (Ac.set_same _ _ _) hc2 rfl rfl) ?_
 have hl0:(bools (List.replicate n false)).length=n:=by simp
 (repeat refine AW.seq_k fun K hK=>?_);refine AW.rdT [] [9] [] [] [0,1,2,3,4,5,6,7,8,9,10,11] Dm (by simp[ha,hb,hx,hl0]) (by simp[ha,hb,hx,hl0]) (by simp[ha,hb,hx,hl0]) (by simp[ha,hb,hx,hl0]) (by simp[ha,hb,hx,hl0]) ?_;simp[ha,hb,hx,hl0];try (refine hK _ rfl ?_;clear hK K)
 rw[Gj,Gj,Gj];have hsl:((((List.replicate n false).set a true).set b true).set x true).length=n:=by simp
 have hS:Ga ((((List.replicate n false).set a true).set b true).set x true)=Fv (Fv (Fv (fun _=>false) a true) b true) x true:=by
  rw[Lc (by simp;exact hx),Lc (by simp;exact hb),Lc (by simp;exact ha)]
  congr 3
  funext v
  unfold Ga;rw[List.getD_eq_getElem?_getD,List.getElem?_replicate];split<;>rfl
 generalize(((List.replicate n false).set a true).set b true).set x true=sn at hsl hS ⊢;(repeat refine AW.seq_k fun K hK=>?_);refine AW.rg ?_;simp;try (refine hK _ rfl ?_;clear hK K)
 refine⟨rfl,by simp[AV.cells,AV.one],Ae.intro fun c3 h3=>?_⟩;simp only[Am]at h3;refine hK _ rfl ?_;clear hK K;(repeat refine AW.seq_k fun K hK=>?_);refine AW.rg ?_;simp;try (refine hK _ rfl ?_;clear hK K)
 have hnx:∀k∈Bh bg bf bc bs1,k≠bx∧k≠c3:=fun k hk=>⟨fun e=>hG1.mem.dom hk (by rw[e];exact hbx),fun e=>hG1.mem.dom hk (by rw[e];exact h3.2)⟩;have hV:Xo ((g.set bx ⟨4,1,bools sn⟩).set c3 ⟨100,1,[.fn 124 [.rptr [.ptr bg 3 0 0],.rptr [.osl bx 1 0 n],.ptr c3 1 0 0]]⟩) n bg bf bc bx c3 es fl1 bs1 cl1 sn :=
  {game:=hG1.mem.congr fun k hk=>by rw[Ac.set_other _ _ (hnx k hk).2,Ac.set_other _ _ (hnx k hk).1]
   seen:=by rw[Ac.set_other _ _ h3.1.2,Ac.set_same]
   snl:=hsl
   cell:=Ac.set_same _ _ _
   off:=hnx
   xc:=h3.1.2
   only:=fun k hk=>by
    simp only[List.mem_cons];by_cases e1:k=c3
    ·exact .inr (.inl e1)
    ·by_cases e2:k=bx
     ·exact .inl e2
     ·rw[Ac.set_other _ _ e1,Ac.set_other _ _ e2]at hk;exact .inr (.inr (hG1.only k hk))}
 have hc3:=hV.cell;unfold Qux at hc3;have ih:=Qfc n bg bf bc bx c3 es A hn hes hA fl1 bs1 cl1 hG1.inv (Gu sn) _ sn x (Nat.le_refl _) hV hx;generalize(g.set bx ⟨4,1,bools sn⟩).set c3 ⟨100,1,[.fn 124 [.rptr [.ptr bg 3 0 0],.rptr [.osl bx 1 0 n],.ptr c3 1 0 0]]⟩=M2 at hV hc3 ih ⊢;(repeat refine AW.seq_k fun K hK=>?_);refine AW.rg ?_;simp[hc3];try (refine hK _ rfl ?_;clear hK K)
 refine⟨124,_,⟨rfl,rfl⟩,?_⟩;refine Aa.whole (fun _ h=>h) ih ?_;rintro _ g' ⟨ok,rfl,sn',hV',hF,hT⟩;simp;try (refine hK _ rfl ?_;clear hK K)
 have hrec:Bm g' (g'.only (Bh bg bf bc bs1)):=Bm.sub fun b x hb=>by
  by_cases hm:b∈Bh bg bf bc bs1
  ·rw[Ce hm]at hb;exact⟨hb,hV'.ones b x hb⟩
  ·rw[B7 hm]at hb;cases hb
 have hres:(!ok)=W:=by
  cases ok with
  |true =>
   have:=hT rfl;rw[hS]at this;rw[hno _ ?_ ?_ this];rfl
   ·unfold Fv;simp[Ne.symm hxa,hab]
   ·unfold Fv;simp[Ne.symm hxb]
  |false =>
   obtain⟨hL',hsh⟩:=hF rfl;rw[hS]at hL';have:=Qih hG1.inv hsp ha hb hab hx he0 ⟨ea,eb⟩ f1 f3 (by rw[←hfx];exact hz0) hL' hsh;exact(hW.2 ⟨_,this.1,⟨this.2.1,this.2.2.1⟩,this.2.2.2⟩).symm
 refine AW.ret ⟨[.bool (!ok)],rfl,.bool (!ok),_,hrec,.same _,by rw[hw,hres],fl1,bs1,cl1,hV'.game.congr fun k hk=>Ce hk,fun k hk=>?_,hG1.inv⟩;rcases Decidable.em (k∈Bh bg bf bc bs1)with hm | hm
 ·exact hm
 ·exact absurd (B7 hm) hk
end Go.Av
end
section
namespace Go.Av
open Go.Proofs Go.Lam
section
variable {M:Ac} {n bg bf bc:Nat} {es:List RE} {fl:List Nat} {bs:List (Option Nat)} {cl:List (List Nat)}
theorem Yj (h:Dv M n bg bf bc es fl bs cl) (ho:F1 M (Bh bg bf bc bs)) {i b':Nat} {l':List Nat} (hi:i<n) (hf:b' ∉ Bh bg bf bc bs∨bs[i]?=some (some b')) {M':Ac}
  (h3:M' bc=some ⟨25,1,(Hx bs cl).set i (.osl b' 1 0 l'.length)⟩) (h4:M' b'=some ⟨3,1,A0 l'⟩) (h5:∀k∈Bh bg bf bc bs,k≠b'→k≠bc→bs[i]?≠some (some k)→M' k=M k)
  (h6:∀k,M' k≠none→k=b'∨k∈Bh bg bf bc bs∧(bs[i]?=some (some k)→k=b')):Dv M' n bg bf bc es fl (bs.set i (some b')) (cl.set i l')∧F1 M' (Bh bg bf bc (bs.set i (some b'))):=by
 have hib:i<bs.length:=by rw[h.bsl];exact hi
 have hb':b'≠bg∧b'≠bf∧b'≠bc:=by
  rcases hf with hf|hf
  ·simp only[Bh,List.mem_cons,not_or]at hf;exact⟨hf.1,hf.2.1,hf.2.2.1⟩
  ·exact h.ndr i b' hf
 have hrow:∀j,j≠i→bs[j]?≠some (some b'):=fun j hj e=>by
  rcases hf with hf|hf
  ·exact hf (Bl.2 (.inr (.inr (.inr ⟨j,e⟩))))
  ·exact hj (h.inj j i b' e hf)
 refine⟨h.setC hi hb' hrow ?_ ?_ h3 h4 ?_,?_⟩
 ·exact h5 bg (by simp[Bh]) (Ne.symm hb'.1) h.nd.2.1 fun e=>(h.ndr i bg e).1 rfl
 ·exact h5 bf (by simp[Bh]) (Ne.symm hb'.2.1) h.nd.2.2 fun e=>(h.ndr i bf e).2.1 rfl
 ·intro j b hj hb;exact h5 b (Bl.2 (.inr (.inr (.inr ⟨j,hb⟩)))) (fun e=>hrow j hj (e ▸ hb)) (h.ndr j b hb).2.2 (fun e=>hj (h.inj j i b hb e))
 ·intro k hk;rcases h6 k hk with rfl | ⟨hk,hk2⟩
  ·exact Bl.2 (.inr (.inr (.inr ⟨i,by rw[List.getElem?_set,if_pos rfl,if_pos hib]⟩)))
  ·refine Bl.2 ?_;rcases Bl.1 hk with hk | hk | hk | ⟨j,hj⟩
   ·exact .inl hk
   ·exact .inr (.inl hk)
   ·exact .inr (.inr (.inl hk))
   ·by_cases hij:i=j
    ·subst hij;rw[hk2 hj];exact .inr (.inr (.inr ⟨i,by rw[List.getElem?_set,if_pos rfl,if_pos hib]⟩))
    ·exact .inr (.inr (.inr ⟨j,by rw[List.getElem?_set,if_neg hij];exact hj⟩))
end
def Q2g (n bg bf bc:Nat) (es:List RE) (A:List Nat) (e:Nat) (v:AV) (M':Ac):Prop :=
 v=.bool (Oi n ((A++[e]).map (Ag es)))∧∃(fl':List Nat) (bs':List (Option Nat)) (cl':List (List Nat)),J8 n bg bf bc es (Kd n (Ag es) A e) M' fl' bs' cl'
theorem Qa7 (n bg bf bc:Nat) (es:List RE) (A:List Nat) (hn:n≤12) (hes:Nj n es) (hA:∀e∈A,e<es.length) (hsp:Bk n (A.map (Ag es))) (M:Ac) (fl:List Nat) (bs:List (Option Nat)) (cl:List (List Nat)) (e:Nat) (he:e<es.length)
  (hG:J8 n bg bf bc es A M fl bs cl) :
  Ak Tryz.prog 82 [.ptr bg 3 0 0,.int .i64 (e:Nat)] M (Q2g n bg bf bc es A e):=by
 obtain⟨e1,e2,e3⟩:=hes e he;have hLe:∀x∈(A++[e]).map (Ag es),Ec n x:=by
  simp only[List.mem_map,List.mem_append,List.mem_singleton];rintro _ ⟨k,hk | rfl,rfl⟩
  ·exact(hes k (hA k hk)).2.2
  ·exact e3
 have hmap:(A++[e]).map (Ag es)=A.map (Ag es)++[Ag es e]:=by simp
 have q1:=hG.mem.g;unfold C8 at q1;refine Ad Tryz.func82 rfl rfl 53 rfl (Nat.le_of_ble_eq_true rfl) ?_;(repeat refine AW.seq_k fun K hK=>?_);refine AW.rg ?_;simp[Al];try (refine hK _ rfl ?_;clear hK K)
 (repeat refine AW.seq_k fun K hK=>?_);refine AW.rdL [bg] [0,1,2,3,4,5,6,7,8,9,10,11,12,13,14,15,16,17] Dm (by simp[q1]) ?_;simp[q1,he,Cq,e1,e2];try (refine hK _ rfl ?_;clear hK K)
 have hgc:=Tl n bg bf bc es A hn hes hA hsp M fl bs cl (Ag es e).1 (Ag es e).2 hG e3.1 e3.2.1 e3.2.2;obtain⟨a,ha⟩:∃a,(Ag es e).1=a:=⟨_,rfl⟩;obtain⟨b,hb⟩:∃b,(Ag es e).2=b:=⟨_,rfl⟩;rw[ha,hb]at hgc;simp only[ha,hb];have hE:Ag es e=(a,b):=by rw[←ha,←hb]
 have han:a<n:=ha ▸ e3.1;have hbn:b<n:=hb ▸ e3.2.1;have hab:a≠b:=by rw[←ha,←hb];exact e3.2.2
 (repeat refine AW.seq_k fun K hK=>?_);refine AW.rg ?_;simp;try (refine hK _ rfl ?_;clear hK K)
 refine Aa.whole (fun _ h=>h) hgc ?_;rintro _ g ⟨fl',bs',cl',rfl,hG',h2,h3⟩;rcases h3 with h3 | ⟨h3,X,hX,hXa,hXb⟩
 ·have hf:Oi n ((A++[e]).map (Ag es))=true:=by
   rw[I0 hLe,hmap,Vz hsp];intro X hX;cases hi:ins X (Ag es e)with
   |false=>rfl
   |true =>
    rw[hE,ins,Bool.and_eq_true]at hi;exact absurd hX (hG'.inv.four han hbn hab (by omega) X hi.1 hi.2)
  have hadd:Kd n (Ag es) A e=A++[e]:=by unfold Kd;rw[if_pos hf]
  rw[h2,h3];simp;try (refine hK _ rfl ?_;clear hK K)
  refine AW.no ?_ rfl;refine AW.skip ?_;try simp
  try (refine hK _ rfl ?_;clear hK K)
  have p1:=hG'.mem.g;have p2:=hG'.mem.f;have p4:=hG'.mem.fll;have hal:a<fl'.length:=by rw[p4];exact han
  have hx:fl'[a]=2:=by rw[F7 hal];exact h2
  have w2:IntKind.i64.wrap 1=1:=rfl;unfold C8 at p1;(repeat refine AW.seq_k fun K hK=>?_);refine AW.rg ?_;simp[p1,p2,han,p4,hx,w2];try (refine hK _ rfl ?_;clear hK K)
  rw[show(AV.int IntKind.i64 1)=.int .i64 ((1:Nat):Int) from rfl,Kv];have V4:=hG'.mem.setF a 1;have o4':F1 (g.set bf ⟨3,1,A0 (fl'.set a 1)⟩) (Bh bg bf bc bs'):=hG'.only.set _ (by simp[Bh]);generalize g.set bf ⟨3,1,A0 (fl'.set a 1)⟩=M4 at V4 o4' ⊢;have hinv:∀(M:Ac) (bs'':List (Option Nat)),Dv M n bg bf bc es (fl'.set a 1) bs'' (cl'.set a (Dw cl' a++[e]))∧F1 M (Bh bg bf bc bs'')→Q2g n bg bf bc es A e (.bool true) M:=fun M bs'' h=>⟨by rw[hf],_,bs'',_,by
   rw[hadd];refine⟨h.1,h.2,?_⟩;rw[Z8 hal,Qj (by rw[hG'.mem.cll];exact han)];have:=hG'.inv.lay (a:=a) (e:=e) ha e3 (by omega);rw[h2]at this;exact this⟩
  have q5:=V4.g;have q6:=V4.c;have hhl4:=Hl V4;obtain⟨o4,ho4,hget4⟩:=Me V4 han;have hjh4:a<(Hx bs' cl').length:=by rw[hhl4];exact han
  have hgel4:(Hx bs' cl')[a]=hdO o4 (Dw cl' a):=by rw[List.getElem?_eq_getElem hjh4]at hget4;exact Option.some.inj hget4
  have nd:=V4.nd;have hbcn:bc≠bg:=Ne.symm nd.2.1;unfold C8 at q5;have hl3:(Dw cl' a).length≤2:=by have:=hG'.inv.two a han;omega
  refine AW.seq_ex (ι:=Ac × List (Option Nat)) (fun _=>[]) (fun z=>z.1) (fun z=>Dv z.1 n bg bf bc es (fl'.set a 1) z.2 (cl'.set a (Dw cl' a++[e]))∧F1 z.1 (Bh bg bf bc z.2)) ?_ ?_
  ·cases o4 with
   |none =>
    have hc0:=V4.nil a ho4;simp only[hdO]at hgel4;(repeat refine AW.seq_k fun K hK=>?_);refine AW.rdLR [50] [bg,bc] [0,1,2,3,4,5,6,7,8,9,10,11,12,13,14,15,16] Dm (by simp[q5,q6]) ?_;simp[q5,q6,han,hhl4,hgel4];refine⟨by unfold maxLen;omega,fun b6 h6 _=>?_⟩;have hfresh:b6 ∉ Bh bg bf bc bs':=fun hm=>V4.dom hm h6;have e1:¬bc=b6:=fun h=>hfresh (by rw[←h];simp[Bh]);simp[e1,han,hhl4];refine⟨_,Yj V4 o4' han (.inl hfresh) (by rw[Ac.set_same,hc0];rfl) (by rw[Ac.set_other _ _ (Ne.symm e1),Ac.set_same,hc0];rfl) (fun k _ hk1 hk2 _=>by rw[Ac.set_other _ _ hk2,Ac.set_other _ _ hk1]) (fun k hk=>?_)⟩
    by_cases k1:k=b6
    ·exact .inl k1
    ·refine .inr ⟨?_,fun h=>by rw[ho4]at h;cases h⟩;by_cases k2:k=bc
     ·rw[k2];simp[Bh]
     ·rw[Ac.set_other _ _ k2,Ac.set_other _ _ k1]at hk;exact o4' k hk
   |some b4 =>
    simp only[hdO]at hgel4;have q7:=V4.row a b4 ho4;have hnd4:=V4.ndr a b4 ho4;(repeat refine AW.seq_k fun K hK=>?_);refine AW.rdLR [50] [bg,bc] [0,1,2,3,4,5,6,7,8,9,10,11,12,13,14,15,16] Dm (by simp[q5,q6]) ?_;simp[q5,q6,q7,han,hhl4,hgel4,hnd4];refine⟨by omega,by unfold maxLen;omega,fun b6 h6 _=>?_⟩;have hf6:b6 ∉ Bh bg bf bc bs'∨bs'[a]?=some (some b6):=by
     by_cases e:b6=b4
     ·exact .inr (by rw[e];exact ho4)
     ·exact .inl fun hm=>V4.dom hm (by rwa [Ac.del_other _ e]at h6)
    have e1:¬bc=b6:=by
     intro h;rcases hf6 with hf6 | hf6
     ·exact hf6 (by rw[←h];simp[Bh])
     ·exact(V4.ndr a b6 hf6).2.2 h.symm
    have e2:¬bc=b4:=Ne.symm hnd4.2.2;simp[e1,e2,han,hhl4];refine⟨_,Yj V4 o4' han hf6 (by rw[Ac.set_same];simp) (by rw[Ac.set_other _ _ (Ne.symm e1),Ac.set_same,E1]) (fun k _ hk1 hk2 hk3=>?_) (fun k hk=>?_)⟩
    ·have:k≠b4:=fun h=>hk3 (by rw[h];exact ho4);rw[Ac.set_other _ _ hk2,Ac.set_other _ _ hk1,Ac.del_other _ this]
    ·by_cases k1:k=b6
     ·exact .inl k1
     ·by_cases k2:k=bc
      ·exact .inr ⟨by rw[k2];simp[Bh],fun h=>absurd k2 (V4.ndr a k h).2.2⟩
      ·rw[Ac.set_other _ _ k2,Ac.set_other _ _ k1]at hk;by_cases k3:k=b4
       ·rw[k3,Ac.del_same]at hk;exact absurd rfl hk
       ·rw[Ac.del_other _ k3]at hk;exact .inr ⟨o4' k hk,fun h=>by rw[ho4]at h;cases h;exact absurd rfl k3⟩
  ·rintro⟨M5,bs5⟩ h5;simp only at h5 ⊢;(repeat refine AW.seq_k fun K hK=>?_);refine AW.rg ?_;simp;try (refine hK _ rfl ?_;clear hK K)
   exact AW.ret (Cf rfl (I1 h5.1 h5.2) (hinv M5 bs5 h5))
 ·have hf:Oi n ((A++[e]).map (Ag es))=false:=by
   cases hc:Oi n ((A++[e]).map (Ag es))with
   |false=>rfl
   |true =>
    rw[I0 hLe,hmap,Vz hsp]at hc;have:=hc X hX;rw[hE,ins,hXa,hXb]at this;cases this
  have hadd:Kd n (Ag es) A e=A:=by unfold Kd;rw[hf,if_neg (by simp)]
  rw[h2,h3];simp;try (refine hK _ rfl ?_;clear hK K)
  refine AW.yes ?_ rfl;(repeat refine AW.seq_k fun K hK=>?_);refine AW.rg ?_;simp;try (refine hK _ rfl ?_;clear hK K)
  exact AW.ret (Cf rfl (I1 hG'.mem hG'.only) ⟨by rw[hf];rfl,fl',bs',cl',by rw[hadd];exact hG'⟩)
end Go.Av
end
section
namespace Go.Av
open Go.Proofs Go.Lam
structure PSt where
 M:Ac
 fl:List Nat
 bs:List (Option Nat)
 cl:List (List Nat)
 ov:AV
 ob:List Nat
structure Qhs (n bg bf bc:Nat) (es:List RE) (A:List Nat) (z:PSt):Prop where
 game:Dv z.M n bg bf bc es z.fl z.bs z.cl
 inv:Inv n (Ag es) A (E2 z.fl) (Dw z.cl)
 lst:Nf z.M 3 1 z.ov z.ob (A0 A)
 off:∀b∈z.ob,b ∉ Bh bg bf bc z.bs
 only:F1 z.M (z.ob++Bh bg bf bc z.bs)
theorem Qhs.ones {n bg bf bc:Nat} {es:List RE} {A:List Nat} {z:PSt} (h:Qhs n bg bf bc es A z):∀c y,z.M c=some y→∀v∈y.l,v.cells.all AV.one=true:=by
 intro c y hy v hv;rcases List.mem_append.1 (h.only c (by rw[hy];simp))with hc | hc
 ·rcases h.lst with⟨_,h2,_⟩|⟨b,h2,_,h3⟩
  ·rw[h2]at hc;cases hc
  ·rw[h2,List.mem_singleton]at hc;rw[hc,h3]at hy;cases hy;exact C7 _ v hv
 ·rcases Bl.1 hc with rfl|rfl|rfl|⟨i,hi⟩
  ·rw[h.game.g]at hy;cases hy;simp only[C8,List.mem_singleton]at hv;subst hv;rfl
  ·rw[h.game.f]at hy;cases hy;exact C7 _ v hv
  ·rw[h.game.c]at hy;cases hy;exact Ks _ _ v hv
  ·rw[h.game.row i c hi]at hy;cases hy;exact C7 _ v hv
def Qrs (n:Nat) (es:List RE) (A:List Nat) (v:AV) (M':Ac):Prop :=
 ∃(bg bf bc:Nat) (fl:List Nat) (bs:List (Option Nat)) (cl:List (List Nat)),v=.tup [.ptr bg 3 0 0,.sl 1 (A0 A)]∧J8 n bg bf bc es A M' fl bs cl
theorem Rv (n:Nat) (es:List RE) (hn:n≤12) (hes:Nj n es) (s:List Nat) (hs:∀k∈s,k<es.length) (hsl:s.length≤100) :
  Ak Tryz.prog 44 [.int .i64 (n:Nat),Bc es,.sl 1 (A0 s)] Ac.emp (Qrs n es (Ch n (Ag es) [] s)):=by
 have hst:=Qfj n es hn;refine Ad Tryz.func44 rfl rfl 31 rfl (Nat.le_of_ble_eq_true rfl) ?_;unfold Bc at hst ⊢;(repeat refine AW.seq_k fun K hK=>?_);refine AW.rg ?_;simp[Al];try (refine hK _ rfl ?_;clear hK K)
 (repeat refine AW.seq_k fun K hK=>?_);refine AW.rg ?_;simp;try (refine hK _ rfl ?_;clear hK K)
 refine Aa.news hst ?_;rintro _ g ⟨bg,bf,bc,rfl,hG,ho⟩ _;simp;have hg:Ac.back Ac.emp [] g=g:=by funext k;simp only[Ac.back,Az];cases g k<;>simp
 rw[hg];try (refine hK _ rfl ?_;clear hK K)
 (repeat refine AW.seq_k fun K hK=>?_);refine AW.rg ?_;simp;try (refine hK _ rfl ?_;clear hK K)
 refine AW.seq_ex (ι:=PSt) (fun z=>[(8,.ptr bg 3 0 0),(9,z.ov)]) (fun z=>z.M) (fun z=>Qhs n bg bf bc es (Ch n (Ag es) [] s) z) ?_ ?_
 ·(repeat refine AW.seq_k fun K hK=>?_);refine AW.rg ?_;simp;try (refine hK _ rfl ?_;clear hK K)
  have hI0:Inv n (Ag es) [] (E2 (List.replicate n 2)) (Dw (List.replicate n [])):=by
   have h1:=Inv.start n (Ag es);refine⟨fun v hv=>?_,?_,fun v hv e he=>?_,by simp⟩
   ·rw[Um];unfold E2;rw[List.getD_eq_getElem?_getD,List.getElem?_replicate,if_pos hv];rfl
   ·have:Dw (List.replicate n [])=fun _=>[]:=funext fun i=>Um n i;rw[this];exact h1.perm
   ·rw[Um]at he;cases he
  refine AW.block (AW.loopS (ι:=PSt × Nat) (fun z=>[(8,.ptr bg 3 0 0),(9,z.1.ov),(15,.sl 1 (A0 s)),(16,.int .i64 (s.length:Nat)),(17,.int .i64 (z.2:Nat))]) (fun z=>z.1.M)
   (fun z=>z.2≤s.length∧Qhs n bg bf bc es (Ch n (Ag es) [] (s.take z.2)) z.1) (fun z=>s.length-z.2) (⟨g,List.replicate n 2,List.replicate n none,List.replicate n [],.nil,[]⟩,0)
   ⟨by simp,⟨hG,hI0,.inl ⟨rfl,rfl,rfl⟩,by simp,ho⟩⟩ rfl (by simp) ?_)
  rintro⟨⟨M,fl,bs,cl,ov,ob⟩,i⟩ ⟨g1,g2⟩;simp only at g1 g2;(repeat refine AW.seq_k fun K hK=>?_);refine AW.rg ?_;simp;try (refine hK _ rfl ?_;clear hK K)
  (repeat refine AW.seq ?_);refine AW.cs (fun hi=>?_) (fun hi=>?_) rfl<;>(try simp at hi)
  ·refine AW.skip ?_;try simp
   try (refine hK _ rfl ?_;clear hK K)
   have w1:=Aq (i+1) (by omega);obtain⟨e,he⟩:∃e,s[i]=e:=⟨_,rfl⟩;have hel:e<es.length:=hs e (he ▸ List.getElem_mem hi);have htk:Ch n (Ag es) [] (s.take (i+1))=Kd n (Ag es) (Ch n (Ag es) [] (s.take i)) e:=by
    rw[Kz hi he,Xq];rfl
   have hA:∀k∈Ch n (Ag es) [] (s.take i),k<es.length:=fun k hk=>by
    rcases O8 hk with h|h
    ·cases h
    ·exact hs k (List.mem_of_mem_take h)
   have hsp:Bk n ((Ch n (Ag es) [] (s.take i)).map (Ag es)):=Hj (by simp) (hes.at fun k hk=>hs k (List.mem_of_mem_take hk)) (Bk.nil n);have hAl:(Ch n (Ag es) [] (s.take i)).length≤100:=by
    have:=Hh (n:=n) (E:=Ag es) (s.take i) [];simp at this;omega
   generalize Ch n (Ag es) [] (s.take i)=A at *;have hon:J8 n bg bf bc es A (M.only (Bh bg bf bc bs)) fl bs cl:=⟨g2.game.congr fun k hk=>Ce hk,fun k hk=>by
    rcases Decidable.em (k∈Bh bg bf bc bs)with hm|hm
    ·exact hm
    ·exact absurd (B7 hm) hk,g2.inv⟩
   have hac:=Qa7 n bg bf bc es A hn hes hA hsp _ fl bs cl e hel hon;(repeat refine AW.seq ?_);refine AW.block ?_;(repeat refine AW.seq_k fun K hK=>?_);refine AW.rg ?_;simp[hi,he];try (refine hK _ rfl ?_;clear hK K)
   (repeat refine AW.seq_k fun K hK=>?_);refine AW.rg ?_;simp;try (refine hK _ rfl ?_;clear hK K)
   refine Aa.hand (Bh bg bf bc bs) (fun _ _ h=>h) hac ?_;rintro _ g' ⟨rfl,fl',bs',cl',hG'⟩ hnew;have hobM:∀b∈ob,M b≠none:=fun b hb=>by
    rcases g2.lst with⟨_,h2,_⟩|⟨b',h2,_,h3⟩
    ·simp only at h2;rw[h2]at hb;cases hb
    ·simp only at h2 h3;rw[h2,List.mem_singleton]at hb;rw[hb,h3];simp
   have hobN:∀b∈ob,b ∉ Bh bg bf bc bs':=fun b hb hm=>by
    rcases hnew b (hG'.mem.dom hm)with h|h
    ·exact g2.off b hb h
    ·exact hobM b hb h.1
   have hM2:∀k∈Bh bg bf bc bs',M.back (Bh bg bf bc bs) g' k=g' k:=fun k hk=>by
    unfold Ac.back;cases h:g' k with
    |some x=>rfl
    |none=>exact absurd h (hG'.mem.dom hk)
   have hM2o:∀b∈ob,M.back (Bh bg bf bc bs) g' b=M b:=fun b hb=>by
    have h:g' b=none:=by
     cases h:g' b with
     |none=>rfl
     |some x=>exact absurd (hG'.only b (by rw[h];simp)) (hobN b hb)
    unfold Ac.back;rw[h];exact if_neg (g2.off b hb)
   have hM2n:∀k,M.back (Bh bg bf bc bs) g' k≠none→k∈ob++Bh bg bf bc bs':=fun k hk=>by
    unfold Ac.back at hk;cases h:g' k with
    |some x=>exact List.mem_append_right _ (hG'.only k (by rw[h];simp))
    |none =>
     rw[h]at hk;simp only at hk;by_cases hm:k∈Bh bg bf bc bs
     ·rw[if_pos hm]at hk;exact absurd rfl hk
     ·rw[if_neg hm]at hk;rcases List.mem_append.1 (g2.only k hk)with h' | h'
      ·exact List.mem_append_left _ h'
      ·exact absurd h' hm
   have gm:=hG'.mem.congr hM2;have lm:=g2.lst.keep hM2o;generalize M.back (Bh bg bf bc bs) g'=M2 at gm lm hM2o hM2n ⊢;cases hf:Oi n ((A++[e]).map (Ag es))with
   |false =>
    have hadd:Kd n (Ag es) A e=A:=by unfold Kd;rw[hf,if_neg (by simp)]
    rw[hadd]at htk hG';simp;try (refine hK _ rfl ?_;clear hK K)
    refine AW.no ?_ rfl;refine AW.skip ?_;try simp
    try (refine hK _ rfl ?_;clear hK K)
    (repeat refine AW.seq_k fun K hK=>?_);refine AW.rg ?_;simp[-Int.natCast_add,w1];try (refine hK _ rfl ?_;clear hK K)
    exact⟨⟨M2,fl',bs',cl',ov,ob⟩,i+1,⟨by omega,by rw[htk];exact⟨gm,hG'.inv,lm,hobN,hM2n⟩⟩,by omega,rfl,rfl,rfl⟩
   |true =>
    have hadd:Kd n (Ag es) A e=A++[e]:=by unfold Kd;rw[hf,if_pos rfl]
    rw[hadd]at htk hG';simp;try (refine hK _ rfl ?_;clear hK K)
    refine AW.yes ?_ rfl;rcases lm with⟨l1,l2,l3⟩ | ⟨b0,l2,l3,l4⟩
    ·simp only at l1 l2 l3;have hA0:A=[]:=by unfold A0 at l1;exact List.map_eq_nil_iff.1 l1
     subst l2;subst l3;subst hA0;(repeat refine AW.seq_k fun K hK=>?_);refine AW.rgR [26] ?_;simp;try (refine hK _ rfl ?_;clear hK K)
     refine⟨by unfold maxLen;omega,Ae.intro fun b6 h6=>?_⟩;have hb6:b6 ∉ Bh bg bf bc bs':=fun hm=>gm.dom hm h6;(repeat refine AW.seq_k fun K hK=>?_);refine AW.rg ?_;simp[-Int.natCast_add,w1];try (refine hK _ rfl ?_;clear hK K)
     refine⟨⟨M2.set b6 ⟨3,1,[.int .i64 (e:Nat)]⟩,fl',bs',cl',.osl b6 1 0 1,[b6]⟩,i+1,⟨by omega,?_⟩,by omega,rfl,rfl,rfl⟩;rw[htk];exact⟨gm.congr fun k hk=>Ac.set_other _ _ (fun h=>hb6 (h ▸ hk)),hG'.inv,.inr ⟨b6,rfl,rfl,Ac.set_same _ _ _⟩,fun b hb=>by rw[List.mem_singleton]at hb;rw[hb];exact hb6,fun k hk=>by
      by_cases h:k=b6
      ·rw[h];simp
      ·simp only at hk;rw[Ac.set_other _ _ h]at hk;have:=hM2n k hk;simp only[List.nil_append]at this;exact List.mem_append_right _ this⟩
    ·simp only at l2 l3 l4;subst l2;subst l3;(repeat refine AW.seq_k fun K hK=>?_);refine AW.rgR [26] ?_;simp[l4];try (refine hK _ rfl ?_;clear hK K)
     refine⟨by omega,by unfold maxLen;omega,Ae.intro fun b6 h6=>?_⟩;have hb0:b0 ∉ Bh bg bf bc bs':=hobN b0 (by simp);have hb6:b6 ∉ Bh bg bf bc bs':=fun hm=>by
      by_cases h:b6=b0
      ·exact hb0 (h ▸ hm)
      ·rw[Ac.del_other _ h]at h6;exact gm.dom hm h6
     (repeat refine AW.seq_k fun K hK=>?_);refine AW.rg ?_;simp[-Int.natCast_add,w1];try (refine hK _ rfl ?_;clear hK K)
     refine⟨⟨(M2.del b0).set b6 ⟨3,1,A0 A++[.int .i64 (e:Nat)]⟩,fl',bs',cl',.osl b6 1 0 (A.length+1),[b6]⟩,i+1,⟨by omega,?_⟩,by omega,rfl,rfl,rfl⟩;rw[htk];refine⟨gm.congr fun k hk=>by simp only;rw[Ac.set_other _ _ (fun h=>hb6 (by rw[←h];exact hk)),Ac.del_other _ (fun h=>hb0 (by rw[←h];exact hk))],hG'.inv,.inr ⟨b6,rfl,by simp,by simp only;rw[Ac.set_same,E1]⟩,fun b hb=>by rw[List.mem_singleton]at hb;rw[hb];exact hb6,fun k hk=>?_⟩;by_cases h:k=b6
     ·rw[h];simp
     ·simp only at hk;rw[Ac.set_other _ _ h]at hk;by_cases h':k=b0
      ·rw[h',Ac.del_same]at hk;exact absurd rfl hk
      ·rw[Ac.del_other _ h']at hk;have:=hM2n k hk;simp only[List.singleton_append,List.mem_cons]at this;exact List.mem_append_right _ (this.resolve_left h')
  ·refine AW.exit ?_;try simp
   rw[show i=s.length by omega,List.take_length]at g2;exact⟨_,g2,rfl,rfl⟩
 rintro⟨M,fl,bs,cl,ov,ob⟩ hz;simp only;(repeat refine AW.seq_k fun K hK=>?_);refine AW.rg ?_;simp;try (refine hK _ rfl ?_;clear hK K)
 have hone:=hz.ones;have hview:=hz.lst.view (M':=M.only (Bh bg bf bc bs)) (fun b hb=>B7 (hz.off b hb));refine AW.ret ⟨[.ptr bg 3 0 0,ov],rfl,.tup [.ptr bg 3 0 0,.sl 1 (A0 (Ch n (Ag es) [] s))],M.only (Bh bg bf bc bs),Bm.sub fun b x hb=>?_,B2.tupL ⟨.same _,hview,trivial⟩,bg,bf,bc,fl,bs,cl,rfl,hz.game.congr fun k hk=>Ce hk,fun k hk=>?_,hz.inv⟩
 ·by_cases hm:b∈Bh bg bf bc bs
  ·rw[Ce hm]at hb;exact⟨hb,hone b x hb⟩
  ·rw[B7 hm]at hb;cases hb
 ·rcases Decidable.em (k∈Bh bg bf bc bs)with hm|hm
  ·exact hm
  ·exact absurd (B7 hm) hk
end Go.Av
end
section
namespace Go.Av
open Go.Proofs Go.Lam
theorem S2 (n:Int) (es:List RE) (hb:W5 es):Ak Tryz.prog 13 [.int .i64 n,Bc es] Ac.emp fun v m=>v=.tup [.sl 1 (A0 (Ip n es)),C6 n es]∧m=Ac.emp:=by
 have hc:=Rr n es hb;refine Ad Tryz.func13 rfl rfl 24 rfl (Nat.le_of_ble_eq_true rfl) ?_;unfold Bc at hc ⊢;(repeat refine AW.seq_k fun K hK=>?_);refine AW.rg ?_;simp[Al];try (refine hK _ rfl ?_;clear hK K)
 (repeat refine AW.seq_k fun K hK=>?_);refine AW.rg ?_;simp;try (refine hK _ rfl ?_;clear hK K)
 refine Aa.val hc ?_;by_cases hk:Di n es=true;rotate_left
 ·have e1:C6 n es=.int .i64 1:=by unfold C6;rw[if_neg hk]
  have e2:Ip n es=[]:=by unfold Ip;rw[if_neg hk]
  simp[e1];try (refine hK _ rfl ?_;clear hK K)
  (repeat refine AW.seq_k fun K hK=>?_);refine AW.rg ?_;simp;try (refine hK _ rfl ?_;clear hK K)
  refine AW.yes ?_ rfl;(repeat refine AW.seq_k fun K hK=>?_);refine AW.rg ?_;simp;try (refine hK _ rfl ?_;clear hK K)
  exact AW.ret (Af [.sl 1 (A0 []),.int .i64 1] rfl ⟨.nilsl 1,.same _,trivial⟩ ⟨by rw[e2,e1];rfl,rfl⟩)
 have e1:C6 n es=.int .i64 0:=by unfold C6;rw[if_pos hk]
 have e2:Ip n es=Ch n.toNat (Ag es) [] (List.range es.length):=by unfold Ip;rw[if_pos hk]
 obtain⟨⟨h1,h2,h3⟩,_⟩:=Fi hk;have hok:=Nl hk;obtain⟨N,rfl⟩:=Int.eq_ofNat_of_zero_le (show 0≤n by omega);simp only[Int.toNat_natCast]at hok e2;have hall:=Yk es h3;have hpl:=Rv N es (by omega) hok (List.range es.length) (by simp) (by simp;omega);unfold Bc at hall hpl;simp[e1];try (refine hK _ rfl ?_;clear hK K)
 (repeat refine AW.seq_k fun K hK=>?_);refine AW.rg ?_;simp;try (refine hK _ rfl ?_;clear hK K)
 refine AW.no ?_ rfl;refine AW.skip ?_;try simp
 try (refine hK _ rfl ?_;clear hK K)
 (repeat refine AW.seq_k fun K hK=>?_);refine AW.rg ?_;simp;try (refine hK _ rfl ?_;clear hK K)
 refine Aa.val hall ?_;simp;refine Aa.news hpl ?_;rintro _ g ⟨bg,bf,bc,fl,bs,cl,rfl,hG⟩ _;simp;try (refine hK _ rfl ?_;clear hK K)
 (repeat refine AW.seq_k fun K hK=>?_);refine AW.rg ?_;simp;try (refine hK _ rfl ?_;clear hK K)
 exact AW.ret (Af [.sl 1 (A0 (Ch N (Ag es) [] (List.range es.length))),.int .i64 0] rfl ⟨.same _,.same _,trivial⟩ ⟨by rw[e2,e1];rfl,rfl⟩)
theorem Xf (n:Int) (es:List RE) (hb:W5 es):Ak Tryz.prog 15 [.int .i64 n,Bc es] Ac.emp fun v m=>v=.tup [W7 n es,C6 n es]∧m=Ac.emp:=by
 have hc:=S2 n es hb;refine Ad Tryz.func15 rfl rfl 27 rfl (Nat.le_of_ble_eq_true rfl) ?_;unfold Bc at hc ⊢;(repeat refine AW.seq_k fun K hK=>?_);refine AW.rg ?_;simp[Al];try (refine hK _ rfl ?_;clear hK K)
 (repeat refine AW.seq_k fun K hK=>?_);refine AW.rg ?_;simp;try (refine hK _ rfl ?_;clear hK K)
 refine Aa.val hc ?_;by_cases hk:Di n es=true;rotate_left
 ·have e1:C6 n es=.int .i64 1:=by unfold C6;rw[if_neg hk]
  have e2:W7 n es=.int .i64 0:=by unfold W7;rw[if_neg hk]
  simp[e1];try (refine hK _ rfl ?_;clear hK K)
  (repeat refine AW.seq_k fun K hK=>?_);refine AW.rg ?_;simp;try (refine hK _ rfl ?_;clear hK K)
  refine AW.yes ?_ rfl;(repeat refine AW.seq_k fun K hK=>?_);refine AW.rg ?_;simp;try (refine hK _ rfl ?_;clear hK K)
  exact AW.ret (Af [.int .i64 0,.int .i64 1] rfl ⟨.same _,.same _,trivial⟩ ⟨by rw[e2,e1];rfl,rfl⟩)
 have e1:C6 n es=.int .i64 0:=by unfold C6;rw[if_pos hk]
 have hle:=Zn hk;obtain⟨⟨h1,h2,h3⟩,_⟩:=Fi hk;have e2:W7 n es=.int .i64 (if n=1 then 0 else 2*n-3-((Ip n es).length:Int)):=by unfold W7;rw[if_pos hk]
 generalize Ip n es=O at *;simp[e1];try (refine hK _ rfl ?_;clear hK K)
 by_cases hn:n=1
 ·(repeat refine AW.seq_k fun K hK=>?_);refine AW.rg ?_;simp[hn];try (refine hK _ rfl ?_;clear hK K)
  refine AW.yes ?_ rfl;(repeat refine AW.seq_k fun K hK=>?_);refine AW.rg ?_;simp;try (refine hK _ rfl ?_;clear hK K)
  exact AW.ret (Af [.int .i64 0,.int .i64 0] rfl ⟨.same _,.same _,trivial⟩ ⟨by rw[e2,e1,if_pos hn];rfl,rfl⟩)
 rw[if_neg hn]at e2;(repeat refine AW.seq_k fun K hK=>?_);refine AW.rg ?_;simp[hn];try (refine hK _ rfl ?_;clear hK K)
 refine AW.no ?_ rfl;refine AW.skip ?_;try simp
 try (refine hK _ rfl ?_;clear hK K)
 have w1:IntKind.i64.wrap (2*n)=2*n:=Pk (by omega);have w2:IntKind.i64.wrap (2*n-3)=2*n-3:=Pk (by omega);have w3:IntKind.i64.wrap (2*n-3-(O.length:Int))=2*n-3-(O.length:Int):=Pk (by omega);(repeat refine AW.seq_k fun K hK=>?_);refine AW.rg ?_;simp[w1,w2,w3];try (refine hK _ rfl ?_;clear hK K)
 exact AW.ret (Af [.int .i64 (2*n-3-(O.length:Int)),.int .i64 0] rfl ⟨.same _,.same _,trivial⟩ ⟨by rw[e2,e1];rfl,rfl⟩)
end Go.Av
end
section
namespace Go.Av
open Go.Proofs Go.Lam
def lsR (o:Option Nat) (l:List Nat):AV:=match o with
 |none=>.nil
 |some b=>.osl b 1 0 l.length
def lsM (o:Option Nat) (l:List Nat) (m:Ac):Ac:=match o with
 |none=>m
 |some b=>m.set b ⟨3,1,A0 l⟩
theorem Qm7 {o:Option Nat} {l:List Nat} {m:Ac} (h:∀c y,m c=some y→∀v∈y.l,v.cells.all AV.one=true):∀c y,lsM o l m c=some y→∀v∈y.l,v.cells.all AV.one=true:=by
 intro c y hy;cases o with
 |none=>exact h c y hy
 |some b =>
  unfold lsM at hy;simp only[A9]at hy;split at hy
  ·cases hy;exact C7 _
  ·exact h c y hy
theorem Qkg {b:Nat} {m:Ac} (h:m b=none):m.del b=m:=by
 funext c
 unfold Ac.del;by_cases hc:c=b
 ·rw[if_pos hc,hc,h]
 ·rw[if_neg hc]
theorem Aa.look {P:Program} {av:Nat→Prop} {f:FuncId} {args:List AV} {m:Ac} {k:AV→Ac→Prop} {v:AV} (args':List AV) (hv:Eo m Ac.emp args args') (h:Ak P f args' Ac.emp fun v' m'=>v'=v∧m'=Ac.emp) (hf:v.flat=true) (hk:k v m):Aa P av f args m k :=
 .inr ⟨args',_,Dn hv,h,fun v' _ hr=>by rw[hr.1];exact⟨hf,hk⟩⟩
theorem Qn4:∀c y,Ac.emp c=some y→∀v∈y.l,v.cells.all AV.one=true:=by intro c y hy;cases hy
theorem Qns {o:Option Nat} {l:List Nat} {M M':Ac} (h0:o=none→l=[]) (h1:∀b,o=some b→M b=some ⟨3,1,A0 l⟩∧M' b=none):B2 M M' (lsR o l) (.sl 1 (A0 l)):=by
 cases o with
 |none=>rw[h0 rfl];exact .nilsl 1
 |some b =>
  obtain⟨h2,h3⟩:=h1 b rfl;exact Nf.view (ob:=[b]) (ty:=3) (.inr ⟨b,rfl,by unfold lsR;rw[Md],h2⟩) (by simpa using h3)
def ltL (e:Nat) (l:List Nat):List Nat:=l.filter fun k=>decide (k<e)
def Qn0 (n:Int) (es:List RE) (e:Nat):List Nat:=ltL e (Ip n es)
def Xt (n:Nat) (es:List RE) (B:List Nat) (e k:Nat):Bool:=Oi n ((B.eraseIdx k++[e]).map (Ag es))
def H2 (n:Nat) (es:List RE) (B:List Nat) (e i:Nat):List Nat:=((List.range i).filter (Xt n es B e)).map fun k=>B.getD k 0
def Qr4 (n:Int) (es:List RE) (e:Nat):List Nat:=H2 n.toNat es (Qn0 n es e) e (Qn0 n es e).length++[e]
def Jr (n:Int) (es:List RE) (e:Int):Int:=if Di n es=true then (if e<0∨(es.length:Int)≤e then 1 else if e.toNat∈Ip n es then 7 else 0) else 1
def Mu (n:Int) (es:List RE) (e:Int):AV:=.tup [.sl 1 (A0 (if Jr n es e=0 then Qr4 n es e.toNat else [])),.int .i64 (Jr n es e)]
theorem Qer (n:Nat) (es:List RE) (B:List Nat) (e i:Nat) (hi:i<B.length):H2 n es B e (i+1)=H2 n es B e i++(if Xt n es B e i=true then [B[i]] else []):=by
 unfold H2;rw[List.range_succ,List.filter_append,List.map_append];cases h:Xt n es B e i<;>simp[h,hi]
theorem X2 (n:Nat) (es:List RE) (B:List Nat) (e i:Nat):(H2 n es B e i).length≤i:=by
 unfold H2;have:=List.length_filter_le (Xt n es B e) (List.range i);simp at this ⊢;omega
theorem Qg5 {n:Int} {es:List RE} {k:Nat} (h:k∈Ip n es):k<es.length:=by
 unfold Ip at h;split at h
 ·exact Qkk h
 ·cases h
theorem Qkj (O:List Nat) (e i:Nat) (hi:i<O.length):ltL e (O.take (i+1))=ltL e (O.take i)++(if O[i]<e then [O[i]] else []):=by
 unfold ltL;rw[List.take_add_one,List.filter_append,List.getElem?_eq_getElem hi];by_cases h:O[i]<e<;>simp[h]
theorem Qmc (O:List Nat) (e i:Nat):(ltL e (O.take i)).length≤O.length:=by
 unfold ltL;have h1:=List.length_filter_le (fun k=>decide (k<e)) (O.take i);have h2:(O.take i).length≤O.length:=by simp;omega
 omega
theorem Qi2 {n:Int} {es:List RE} {e:Int} (h:¬Di n es=true):Jr n es e=1:=by unfold Jr;rw[if_neg h]
theorem Qj5 {n:Int} {es:List RE} {e:Int} (h:Di n es=true) (he:e<0∨(es.length:Int)≤e):Jr n es e=1:=by unfold Jr;rw[if_pos h,if_pos he]
theorem Qnt {n:Int} {es:List RE} {e:Nat} (h:Di n es=true) (he:e<es.length) (hi:e∈Ip n es):Jr n es (e:Nat)=7:=by
 unfold Jr;rw[if_pos h,if_neg (by omega),if_pos (by simpa using hi)]
theorem Qmw {n:Int} {es:List RE} {e:Nat} (h:Di n es=true) (he:e<es.length) (hi:e ∉ Ip n es):Jr n es (e:Nat)=0:=by
 unfold Jr;rw[if_pos h,if_neg (by omega),if_neg (by simpa using hi)]
theorem Qhe {n:Int} {es:List RE} {e:Int} (h:Jr n es e=1):Mu n es e=.tup [.sl 1 (A0 []),.int .i64 1]:=by unfold Mu;rw[h,if_neg (by decide)]
theorem Qph {n:Int} {es:List RE} {e:Int} (h:Jr n es e=7):Mu n es e=.tup [.sl 1 (A0 []),.int .i64 7]:=by unfold Mu;rw[h,if_neg (by decide)]
theorem Qpb {n:Int} {es:List RE} {e:Nat} (h:Jr n es (e:Nat)=0):Mu n es (e:Nat)=.tup [.sl 1 (A0 (H2 n.toNat es (Qn0 n es e) e (Qn0 n es e).length++[e])),.int .i64 0]:=by unfold Mu Qr4;rw[h,if_pos rfl];simp
end Go.Av
end
section
namespace Go.Av
open Go.Proofs Go.Lam
theorem Wb {m:Ac} {b:Nat} {x:Fb} (h:m b=some x):m.only [b]=Ac.emp.set b x:=by
 funext c
 by_cases hc:c=b
 ·subst hc;rw[Ce (by simp),h];simp
 ·rw[B7 (by simpa using hc)];simp[Ac.set,hc,Ac.emp]
theorem Qbn {m:Ac} {b:Nat} {y:Fb}:m.back [b] (Ac.emp.set b y)=m.set b y:=by
 funext c
 unfold Ac.back;by_cases hc:c=b
 ·subst hc;simp
 ·simp[Ac.set,hc,Ac.emp]
theorem Qf3 (n:Int) (es:List RE) (e:Int) (hb:W5 es):Ak Tryz.prog 20 [.int .i64 n,Bc es,.int .i64 e] Ac.emp fun v m=>v=Mu n es e∧m=Ac.emp:=by
 have hc:=S2 n es hb;refine Ad Tryz.func20 rfl rfl 90 rfl (Nat.le_of_ble_eq_true rfl) ?_;unfold Bc at hc ⊢;(repeat refine AW.seq_k fun K hK=>?_);refine AW.rg ?_;simp[Al];try (refine hK _ rfl ?_;clear hK K)
 (repeat refine AW.seq_k fun K hK=>?_);refine AW.rg ?_;simp;try (refine hK _ rfl ?_;clear hK K)
 refine Aa.val hc ?_;by_cases hk:Di n es=true;rotate_left
 ·have e1:C6 n es=.int .i64 1:=by unfold C6;rw[if_neg hk]
  simp[e1];try (refine hK _ rfl ?_;clear hK K)
  (repeat refine AW.seq_k fun K hK=>?_);refine AW.rg ?_;simp;try (refine hK _ rfl ?_;clear hK K)
  refine AW.yes ?_ rfl;(repeat refine AW.seq_k fun K hK=>?_);refine AW.rg ?_;simp;try (refine hK _ rfl ?_;clear hK K)
  exact AW.ret (Af [.sl 1 (A0 []),.int .i64 1] rfl ⟨.nilsl 1,.same _,trivial⟩ ⟨by rw[Qhe (Qi2 hk)];rfl,rfl⟩)
 have e1:C6 n es=.int .i64 0:=by unfold C6;rw[if_pos hk]
 obtain⟨⟨h1,h2,h3⟩,_⟩:=Fi hk;have hok:=Nl hk;have hle:=Zn hk;have hlt:=fun k=>Qg5 (n:=n) (es:=es) (k:=k);have hCi:=fun e=>Qnt (n:=n) (es:=es) (e:=e) hk;have hCo:=fun e=>Qmw (n:=n) (es:=es) (e:=e) hk;have hR:=fun e=>Qpb (n:=n) (es:=es) (e:=e);unfold Qn0 at hR;generalize Ip n es=O at *;obtain⟨N,rfl⟩:=Int.eq_ofNat_of_zero_le (show 0≤n by omega);simp only[Int.toNat_natCast]at hok hR;simp[e1];try (refine hK _ rfl ?_;clear hK K)
 (repeat refine AW.seq_k fun K hK=>?_);refine AW.rg ?_;simp;try (refine hK _ rfl ?_;clear hK K)
 refine AW.no ?_ rfl;refine AW.skip ?_;try simp
 try (refine hK _ rfl ?_;clear hK K)
 by_cases ho:e<0∨(es.length:Int)≤e
 ·have hz:Mu (N:Nat) es e=.tup [.sl 1 (A0 []),.int .i64 1]:=Qhe (Qj5 hk ho);rcases ho with ho | ho
  ·(repeat refine AW.seq_k fun K hK=>?_);refine AW.rg ?_;simp[ho];try (refine hK _ rfl ?_;clear hK K)
   refine AW.yes ?_ rfl;(repeat refine AW.seq_k fun K hK=>?_);refine AW.rg ?_;simp;try (refine hK _ rfl ?_;clear hK K)
   exact AW.ret (Af [.sl 1 (A0 []),.int .i64 1] rfl ⟨.nilsl 1,.same _,trivial⟩ ⟨by rw[hz];rfl,rfl⟩)
  ·have hn:¬e<0:=by omega
   (repeat refine AW.seq_k fun K hK=>?_);refine AW.rg ?_;simp[ho,hn];try (refine hK _ rfl ?_;clear hK K)
   refine AW.yes ?_ rfl;(repeat refine AW.seq_k fun K hK=>?_);refine AW.rg ?_;simp;try (refine hK _ rfl ?_;clear hK K)
   exact AW.ret (Af [.sl 1 (A0 []),.int .i64 1] rfl ⟨.nilsl 1,.same _,trivial⟩ ⟨by rw[hz];rfl,rfl⟩)
 obtain⟨E,rfl⟩:=Int.eq_ofNat_of_zero_le (show 0≤e by omega);have hE:E<es.length:=by omega
 clear ho;have hn1:¬(E:Int)<0:=by omega
 have hn2:¬es.length≤E:=by omega
 (repeat refine AW.seq_k fun K hK=>?_);refine AW.rg ?_;simp[hn1,hn2];try (refine hK _ rfl ?_;clear hK K)
 refine AW.no ?_ rfl;refine AW.skip ?_;try simp
 try (refine hK _ rfl ?_;clear hK K)
 have hct:=We O E (by omega);(repeat refine AW.seq_k fun K hK=>?_);refine AW.rg ?_;simp;try (refine hK _ rfl ?_;clear hK K)
 refine Aa.val hct ?_;by_cases hin:E∈O
 ·have hz:Mu (N:Nat) es (E:Nat)=.tup [.sl 1 (A0 []),.int .i64 7]:=Qph (hCi E hE hin);simp[hin];try (refine hK _ rfl ?_;clear hK K)
  refine AW.yes ?_ rfl;(repeat refine AW.seq_k fun K hK=>?_);refine AW.rg ?_;simp;try (refine hK _ rfl ?_;clear hK K)
  exact AW.ret (Af [.sl 1 (A0 []),.int .i64 7] rfl ⟨.nilsl 1,.same _,trivial⟩ ⟨by rw[hz];rfl,rfl⟩)
 simp[hin];try (refine hK _ rfl ?_;clear hK K)
 refine AW.no ?_ rfl;refine AW.skip ?_;try simp
 try (refine hK _ rfl ?_;clear hK K)
 have hR0:=hR E (hCo E hE hin);(repeat refine AW.seq_k fun K hK=>?_);refine AW.rg ?_;simp;try (refine hK _ rfl ?_;clear hK K)
 refine AW.seq_ex (ι:=Option Nat) (fun o=>[(0,.int .i64 (N:Nat)),(1,.sl 6 (Dt es)),(2,.int .i64 (E:Nat)),(10,lsR o (ltL E O)),(11,.nil)]) (fun o=>lsM o (ltL E O) Ac.emp)
  (fun o=>o=none→ltL E O=[]) ?_ ?_
 ·(repeat refine AW.seq_k fun K hK=>?_);refine AW.rg ?_;simp;try (refine hK _ rfl ?_;clear hK K)
  refine AW.block (AW.loopS (ι:=Option Nat × Nat) (fun z=>[(0,.int .i64 (N:Nat)),(1,.sl 6 (Dt es)),(2,.int .i64 (E:Nat)),(39,.sl 1 (A0 O)),(40,.int .i64 (O.length:Nat)),(41,.int .i64 (z.2:Nat)),(10,lsR z.1 (ltL E (O.take z.2))),(11,.nil)]) (fun z=>lsM z.1 (ltL E (O.take z.2)) Ac.emp)
   (fun z=>z.2≤O.length∧(z.1=none→ltL E (O.take z.2)=[])) (fun z=>O.length-z.2) (none,0) ⟨by simp,by simp[ltL]⟩ rfl (by simp[lsR]) ?_)
  rintro⟨o,i⟩ ⟨g1,g0⟩;simp only at g1 g0;(repeat refine AW.seq_k fun K hK=>?_);refine AW.rg ?_;simp;try (refine hK _ rfl ?_;clear hK K)
  (repeat refine AW.seq ?_);refine AW.cs (fun hi=>?_) (fun hi=>?_) rfl<;>(try simp at hi)
  ·refine AW.skip ?_;try simp
   try (refine hK _ rfl ?_;clear hK K)
   have w1:=Aq (i+1) (by omega);have hft:=Qkj O E i hi;have hfl:=Qmc O E i;generalize ltL E (O.take i)=F at *;(repeat refine AW.seq ?_);refine AW.block ?_;(repeat refine AW.seq_k fun K hK=>?_);refine AW.rg ?_;simp[hi];try (refine hK _ rfl ?_;clear hK K)
   (repeat refine AW.seq_k fun K hK=>?_);refine AW.rg ?_;simp;try (refine hK _ rfl ?_;clear hK K)
   (repeat refine AW.seq ?_);refine AW.cs (fun hx=>?_) (fun hx=>?_) rfl<;>(try simp at hx)
   ·rw[if_pos hx]at hft;cases o with
    |none =>
     have hF:=g0 rfl;subst hF;simp only[lsR,lsM];(repeat refine AW.seq_k fun K hK=>?_);refine AW.rgR [50] ?_;simp[hi];try (refine hK _ rfl ?_;clear hK K)
     refine⟨by unfold maxLen;omega,Ae.intro fun b24 _=>?_⟩;(repeat refine AW.seq_k fun K hK=>?_);refine AW.rg ?_;simp[-Int.natCast_add,w1];try (refine hK _ rfl ?_;clear hK K)
     exact⟨some b24,i+1,⟨by omega,by simp⟩,by omega,by rw[hft];rfl,by rw[hft];exact⟨rfl,rfl⟩⟩
    |some b0 =>
     simp only[lsR,lsM];(repeat refine AW.seq_k fun K hK=>?_);refine AW.rgR [50] ?_;simp[hi];try (refine hK _ rfl ?_;clear hK K)
     refine⟨by omega,by unfold maxLen;omega,Ae.intro fun b24 _=>?_⟩;(repeat refine AW.seq_k fun K hK=>?_);refine AW.rg ?_;simp[-Int.natCast_add,w1];try (refine hK _ rfl ?_;clear hK K)
     exact⟨some b24,i+1,⟨by omega,by simp⟩,by omega,by rw[hft,←E1],by rw[hft];simp[lsR]⟩
   ·rw[if_neg (Nat.not_lt.2 hx),List.append_nil]at hft;refine AW.skip ?_;try simp
    try (refine hK _ rfl ?_;clear hK K)
    (repeat refine AW.seq_k fun K hK=>?_);refine AW.rg ?_;simp[-Int.natCast_add,w1];try (refine hK _ rfl ?_;clear hK K)
    exact⟨o,i+1,⟨by omega,by rw[hft];exact g0⟩,by omega,by rw[hft],by rw[hft];exact⟨rfl,rfl⟩⟩
  ·refine AW.exit ?_;try simp
   rw[show i=O.length by omega,List.take_length]at g0 ⊢;exact⟨o,g0,rfl,rfl⟩
 rintro o ho;have hBl:(ltL E O).length≤40:=Nat.le_trans (List.length_filter_le _ _) hle;have hBm:∀k∈ltL E O,k<es.length:=fun k hk=>hlt k (List.mem_filter.1 hk).1;generalize ltL E O=B at *;clear hR hCi hCo hlt hle hin hc hct O;refine AW.toEmp [(0,.int .i64 (N:Nat)),(1,.sl 6 (Dt es)),(2,.int .i64 (E:Nat)),(10,.sl 1 (A0 B)),(11,.nil)] (by simp;exact Qns ho fun b h=>by rw[h];exact⟨Ac.set_same _ _ _,rfl⟩) ?_;refine AW.seq_ex (ι:=Option Nat) (fun o=>[(2,.int .i64 (E:Nat)),(11,lsR o (H2 N es B E B.length))]) (fun o=>lsM o (H2 N es B E B.length) Ac.emp) (fun o=>o=none→H2 N es B E B.length=[]) ?_ ?_
 ·(repeat refine AW.seq_k fun K hK=>?_);refine AW.rg ?_;simp;try (refine hK _ rfl ?_;clear hK K)
  refine AW.block (AW.loopS (ι:=Option Nat × Nat) (fun z=>[(0,.int .i64 (N:Nat)),(1,.sl 6 (Dt es)),(2,.int .i64 (E:Nat)),(10,.sl 1 (A0 B)),(11,lsR z.1 (H2 N es B E z.2)),(53,.sl 1 (A0 B)),(54,.int .i64 (B.length:Nat)),(55,.int .i64 (z.2:Nat))]) (fun z=>lsM z.1 (H2 N es B E z.2) Ac.emp)
   (fun z=>z.2≤B.length∧(z.1=none→H2 N es B E z.2=[])) (fun z=>B.length-z.2) (none,0) ⟨by simp,by simp[H2]⟩ rfl (by simp[lsR]) ?_)
  rintro⟨o,i⟩ ⟨g1,g2⟩;simp only at g1 g2;(repeat refine AW.seq_k fun K hK=>?_);refine AW.rg ?_;simp;try (refine hK _ rfl ?_;clear hK K)
  (repeat refine AW.seq ?_);refine AW.cs (fun hi=>?_) (fun hi=>?_) rfl<;>(try simp at hi)
  ·refine AW.skip ?_;try simp
   try (refine hK _ rfl ?_;clear hK K)
   have w1:=Aq (i+1) (by omega);have hsc:=Qer N es B E i hi;have hcl:=X2 N es B E i;have hB0:B≠[]:=by rintro rfl;simp at hi
   have hcn:=Qdb B (by omega) hB0;have hmem:∀k∈B.eraseIdx i++[E],k<es.length:=(fun k hk=>by
    rcases List.mem_append.1 hk with h|h
    ·exact hBm k (List.mem_of_mem_eraseIdx h)
    ·simp at h;omega)
   have hel:(B.eraseIdx i).length=B.length-1:=by rw[List.length_eraseIdx,if_pos hi]
   have hpl:=Rv N es (by omega) hok (B.eraseIdx i++[E]) hmem (by simp[hel];omega);have hfull:=Qa0 (n:=N) (E:=Ag es) (s:=B.eraseIdx i++[E]) (fun k hk=>hok.at hmem k hk);have hgl:(Ch N (Ag es) [] (B.eraseIdx i++[E])).length≤40:=by
    have:=Hh (n:=N) (E:=Ag es) (B.eraseIdx i++[E]) [];simp[hel]at this;omega
   have hde:=fun b=>Qk b B i hi (by omega);obtain⟨cb,hcb⟩:∃c,Xt N es B E i=c:=⟨_,rfl⟩;rw[hcb]at hsc;unfold Xt at hcb;generalize H2 N es B E i=L at *;(repeat refine AW.seq ?_);refine AW.block ?_;(repeat refine AW.seq_k fun K hK=>?_);refine AW.rg ?_;simp[hi];try (refine hK _ rfl ?_;clear hK K)
   obtain⟨M,hM⟩:∃M,lsM o L Ac.emp=M:=⟨_,rfl⟩;rw[hM];refine AW.seq_ex (ι:=Nat) (fun b=>[(0,.int .i64 (N:Nat)),(1,.sl 6 (Dt es)),(2,.int .i64 (E:Nat)),(10,.sl 1 (A0 B)),(11,lsR o L),(53,.sl 1 (A0 B)),(54,.int .i64 (B.length:Nat)),(55,.int .i64 (i:Nat)),(15,.int .i64 (B[i]:Nat)),(16,.osl b 1 0 (B.length-1))]) (fun b=>M.set b ⟨3,1,A0 (B.eraseIdx i)⟩) (fun b=>M b=none) ?_ ?_
   ·(repeat refine AW.seq_k fun K hK=>?_);refine AW.rg ?_;simp[w1];try (refine hK _ rfl ?_;clear hK K)
    refine Aa.news hcn ?_;rintro _ g ⟨b,rfl,rfl⟩ hnew;have hMb:M b=none:=(hnew b (by simp)).1;have e2:M.back [] (Ac.emp.set b ⟨3,1,A0 B⟩)=M.set b ⟨3,1,A0 B⟩:=by
     funext c
     unfold Ac.back;by_cases hc:c=b
     ·subst hc;simp
     ·simp[Ac.set,hc,Ac.emp]
    rw[e2];simp[-Int.natCast_add,w1];refine Aa.hand (R:=fun v m=>v=.osl b 1 0 (B.length-1)∧m=Ac.emp.set b ⟨3,1,A0 (B.eraseIdx i)⟩) [b] (fun _ _ h=>h) (by rw[Wb (Ac.set_same _ _ _)];exact hde b) ?_;rintro _ g ⟨rfl,rfl⟩ _;rw[Qbn];simp[-Int.natCast_add];exact hMb
   rintro b hMb;refine AW.seq_ex (ι:=Ac) (fun _=>[(0,.int .i64 (N:Nat)),(1,.sl 6 (Dt es)),(2,.int .i64 (E:Nat)),(10,.sl 1 (A0 B)),(11,lsR o L),(53,.sl 1 (A0 B)),(54,.int .i64 (B.length:Nat)),(55,.int .i64 (i:Nat)),(15,.int .i64 (B[i]:Nat)),(18,.sl 1 (A0 (Ch N (Ag es) [] (B.eraseIdx i++[E]))))]) (fun M3=>M3) (fun M3=>∀c y,M c=some y→M3 c=some y) ?_ ?_
   ·(repeat refine AW.seq_k fun K hK=>?_);refine AW.rgR [71] ?_;simp[hel];try (refine hK _ rfl ?_;clear hK K)
    refine⟨by omega,by unfold maxLen;omega,?_⟩;rw[Qkg hMb];refine Ae.intro fun b' hb'=>?_;rw[←E1];refine Aa.hand (R:=Qrs N es (Ch N (Ag es) [] (B.eraseIdx i++[E]))) [b'] (fun _ _ h=>h) (by
     rw[Wb (Ac.set_same _ _ _)];exact hpl.view (Dn (l':=[.int .i64 (N:Nat),Bc es,.sl 1 (A0 (B.eraseIdx i++[E]))]) ⟨.same _,.same _,Nx (by simp) (by simp[hel]),trivial⟩)) ?_
    rintro _ g ⟨bg,bf,bc,fl,bs,cl,rfl,hG⟩ hnew;simp;intro c y hy;have hcb:c≠b':=by rintro rfl;rw[hb']at hy;cases hy
    have hg:g c=none:=by
     cases h:g c with
     |none=>rfl
     |some x =>
      rcases hnew c (by rw[h];simp)with h'|h'
      ·exact absurd (by simpa using h') hcb
      ·rw[Ac.set_other _ _ hcb,hy]at h';simp at h'
    unfold Ac.back;rw[hg];simp only;rw[if_neg (by simpa using hcb),Ac.set_other _ _ hcb,hy]
   rintro M3 hM3;refine AW.turn [(0,.int .i64 (N:Nat)),(1,.sl 6 (Dt es)),(2,.int .i64 (E:Nat)),(10,.sl 1 (A0 B)),(11,lsR o L),(53,.sl 1 (A0 B)),(54,.int .i64 (B.length:Nat)),(55,.int .i64 (i:Nat)),(15,.int .i64 (B[i]:Nat)),(18,.sl 1 (A0 (Ch N (Ag es) [] (B.eraseIdx i++[E]))))] M (Bm.sub fun c y hy=>⟨hM3 c y hy,(hM ▸ Qm7 Qn4) c y hy⟩) (by simp) ?_;generalize Ch N (Ag es) [] (B.eraseIdx i++[E])=G at *;rw[show(B.eraseIdx i++[E]).length=B.length by simp[hel];omega,hcb]at hfull;subst hM;cases cb with
   |false =>
    have hne:¬G.length=B.length:=fun h=>by have:=hfull.1 h;cases this
    simp at hsc;(repeat refine AW.seq_k fun K hK=>?_);refine AW.rg ?_;simp[hne];try (refine hK _ rfl ?_;clear hK K)
    refine AW.no ?_ rfl;refine AW.skip ?_;try simp
    try (refine hK _ rfl ?_;clear hK K)
    (repeat refine AW.seq_k fun K hK=>?_);refine AW.rg ?_;simp[-Int.natCast_add,w1];try (refine hK _ rfl ?_;clear hK K)
    exact⟨o,i+1,⟨by omega,by rw[hsc];exact g2⟩,by omega,by rw[hsc],by rw[hsc];exact⟨rfl,rfl⟩⟩
   |true =>
    have hne:=hfull.2 rfl;simp at hsc;(repeat refine AW.seq_k fun K hK=>?_);refine AW.rg ?_;simp[hne];try (refine hK _ rfl ?_;clear hK K)
    refine AW.yes ?_ rfl;cases o with
    |none =>
     have hL:=g2 rfl;subst hL;simp only[lsR,lsM];(repeat refine AW.seq_k fun K hK=>?_);refine AW.rgR [83] ?_;simp;try (refine hK _ rfl ?_;clear hK K)
     refine⟨by unfold maxLen;omega,Ae.intro fun b6 _=>?_⟩;(repeat refine AW.seq_k fun K hK=>?_);refine AW.rg ?_;simp[-Int.natCast_add,w1];try (refine hK _ rfl ?_;clear hK K)
     exact⟨some b6,i+1,⟨by omega,by simp⟩,by omega,by rw[hsc];rfl,by rw[hsc];exact⟨rfl,rfl⟩⟩
    |some b0 =>
     simp only[lsR,lsM];(repeat refine AW.seq_k fun K hK=>?_);refine AW.rgR [83] ?_;simp;try (refine hK _ rfl ?_;clear hK K)
     refine⟨by omega,by unfold maxLen;omega,Ae.intro fun b6 _=>?_⟩;(repeat refine AW.seq_k fun K hK=>?_);refine AW.rg ?_;simp[-Int.natCast_add,w1];try (refine hK _ rfl ?_;clear hK K)
     exact⟨some b6,i+1,⟨by omega,by simp⟩,by omega,by rw[hsc,←E1],by rw[hsc];simp[lsR]⟩
  ·refine AW.exit ?_;try simp
   rw[show i=B.length by omega]at g2 ⊢;exact⟨o,g2,rfl,rfl⟩
 rintro o ho;have hcl:=X2 N es B E B.length;generalize H2 N es B E B.length=L at *;cases o with
 |none =>
  have hL:=ho rfl;subst hL;simp only[lsR,lsM];(repeat refine AW.seq_k fun K hK=>?_);refine AW.rgR [88] ?_;simp;try (refine hK _ rfl ?_;clear hK K)
  refine⟨by unfold maxLen;omega,Ae.intro fun b6 _=>?_⟩;refine hK _ rfl ?_;clear hK K;exact AW.ret (Af [.sl 1 (A0 ([]++[E])),.int .i64 0] rfl ⟨Nx (by simp;rfl) (by simp),.same _,trivial⟩ ⟨hR0.symm,rfl⟩)
 |some b0 =>
  simp only[lsR,lsM];(repeat refine AW.seq_k fun K hK=>?_);refine AW.rgR [88] ?_;simp;try (refine hK _ rfl ?_;clear hK K)
  refine⟨by omega,by unfold maxLen;omega,Ae.intro fun b6 _=>?_⟩;rw[←E1];refine hK _ rfl ?_;clear hK K;exact AW.ret (Af [.sl 1 (A0 (L++[E])),.int .i64 0] rfl ⟨Nx (by simp) (by simp),.same _,trivial⟩ ⟨hR0.symm,rfl⟩)
end Go.Av
end
section
namespace Go.Av
open Go.Proofs Go.Lam
structure N4 (n bg bf bc:Nat) (es:List RE) (A l:List Nat) (z:PSt):Prop where
 game:Dv z.M n bg bf bc es z.fl z.bs z.cl
 inv:Inv n (Ag es) A (E2 z.fl) (Dw z.cl)
 lst:Nf z.M 3 1 z.ov z.ob (A0 l)
 off:∀b∈z.ob,b ∉ Bh bg bf bc z.bs
 only:F1 z.M (z.ob++Bh bg bf bc z.bs)
theorem N4.ones {n bg bf bc:Nat} {es:List RE} {A l:List Nat} {z:PSt} (h:N4 n bg bf bc es A l z):∀c y,z.M c=some y→∀v∈y.l,v.cells.all AV.one=true:=by
 intro c y hy v hv;rcases List.mem_append.1 (h.only c (by rw[hy];simp))with hc | hc
 ·rcases h.lst with⟨_,h2,_⟩|⟨b,h2,_,h3⟩
  ·rw[h2]at hc;cases hc
  ·rw[h2,List.mem_singleton]at hc;rw[hc,h3]at hy;cases hy;exact C7 _ v hv
 ·rcases Bl.1 hc with rfl|rfl|rfl|⟨i,hi⟩
  ·rw[h.game.g]at hy;cases hy;simp only[C8,List.mem_singleton]at hv;subst hv;rfl
  ·rw[h.game.f]at hy;cases hy;exact C7 _ v hv
  ·rw[h.game.c]at hy;cases hy;exact Ks _ _ v hv
  ·rw[h.game.row i c hi]at hy;cases hy;exact C7 _ v hv
theorem N4.gam {n bg bf bc:Nat} {es:List RE} {A l:List Nat} {M:Ac} {fl:List Nat} {bs:List (Option Nat)} {cl:List (List Nat)} {ov:AV} {ob:List Nat} (h:N4 n bg bf bc es A l ⟨M,fl,bs,cl,ov,ob⟩):J8 n bg bf bc es A (M.only (Bh bg bf bc bs)) fl bs cl :=
 ⟨h.game.congr fun k hk=>Ce hk,fun k hk=>by
  rcases Decidable.em (k∈Bh bg bf bc bs)with hm|hm
  ·exact hm
  ·exact absurd (B7 hm) hk,h.inv⟩
theorem N4.back {n bg bf bc:Nat} {es:List RE} {A A' l:List Nat} {M g':Ac} {fl fl':List Nat} {bs bs':List (Option Nat)} {cl cl':List (List Nat)} {ov:AV} {ob:List Nat} (g2:N4 n bg bf bc es A l ⟨M,fl,bs,cl,ov,ob⟩)
  (hG':J8 n bg bf bc es A' g' fl' bs' cl') (hnew:∀b,g' b≠none→b∈Bh bg bf bc bs∨M b=none):N4 n bg bf bc es A' l ⟨M.back (Bh bg bf bc bs) g',fl',bs',cl',ov,ob⟩:=by
 have hobM:∀b∈ob,M b≠none:=fun b hb=>by
  rcases g2.lst with⟨_,h2,_⟩|⟨b',h2,_,h3⟩
  ·simp only at h2;rw[h2]at hb;cases hb
  ·simp only at h2 h3;rw[h2,List.mem_singleton]at hb;rw[hb,h3];simp
 have hobN:∀b∈ob,b ∉ Bh bg bf bc bs':=fun b hb hm=>by
  rcases hnew b (hG'.mem.dom hm)with h|h
  ·exact g2.off b hb h
  ·exact hobM b hb h
 have hM2:∀k∈Bh bg bf bc bs',M.back (Bh bg bf bc bs) g' k=g' k:=fun k hk=>by
  unfold Ac.back;cases h:g' k with
  |some x=>rfl
  |none=>exact absurd h (hG'.mem.dom hk)
 have hM2o:∀b∈ob,M.back (Bh bg bf bc bs) g' b=M b:=fun b hb=>by
  have h:g' b=none:=by
   cases h:g' b with
   |none=>rfl
   |some x=>exact absurd (hG'.only b (by rw[h];simp)) (hobN b hb)
  unfold Ac.back;rw[h];exact if_neg (g2.off b hb)
 refine⟨hG'.mem.congr hM2,hG'.inv,g2.lst.keep hM2o,hobN,fun k hk=>?_⟩;simp only at hk;unfold Ac.back at hk;cases h:g' k with
 |some x=>exact List.mem_append_right _ (hG'.only k (by rw[h];simp))
 |none =>
  rw[h]at hk;simp only at hk;by_cases hm:k∈Bh bg bf bc bs
  ·rw[if_pos hm]at hk;exact absurd rfl hk
  ·rw[if_neg hm]at hk;rcases List.mem_append.1 (g2.only k hk)with h' | h'
   ·exact List.mem_append_left _ h'
   ·exact absurd h' hm
theorem N4.push0 {n bg bf bc:Nat} {es:List RE} {A:List Nat} {M:Ac} {fl:List Nat} {bs:List (Option Nat)} {cl:List (List Nat)} {ov:AV} {b6 i:Nat} (h:N4 n bg bf bc es A [] ⟨M,fl,bs,cl,ov,[]⟩) (h6:M b6=none) :
  N4 n bg bf bc es A [i] ⟨M.set b6 ⟨3,1,A0 [i]⟩,fl,bs,cl,.osl b6 1 0 1,[b6]⟩:=by
 have hb6:b6 ∉ Bh bg bf bc bs:=fun hm=>h.game.dom hm h6;refine⟨h.game.congr fun k hk=>Ac.set_other _ _ (fun e=>hb6 (e ▸ hk)),h.inv,.inr ⟨b6,rfl,rfl,Ac.set_same _ _ _⟩,fun b hb=>by rw[List.mem_singleton]at hb;rw[hb];exact hb6,fun k hk=>?_⟩;by_cases e:k=b6
 ·rw[e];simp
 ·simp only at hk;rw[Ac.set_other _ _ e]at hk;have:=h.only k hk;simp only[List.nil_append]at this;exact List.mem_append_right _ this
theorem N4.push1 {n bg bf bc:Nat} {es:List RE} {A l:List Nat} {M:Ac} {fl:List Nat} {bs:List (Option Nat)} {cl:List (List Nat)} {ov:AV} {b0 b6 i:Nat} (h:N4 n bg bf bc es A l ⟨M,fl,bs,cl,ov,[b0]⟩) (h6:M.del b0 b6=none) :
  N4 n bg bf bc es A (l++[i]) ⟨(M.del b0).set b6 ⟨3,1,A0 l++[.int .i64 (i:Nat)]⟩,fl,bs,cl,.osl b6 1 0 (l.length+1),[b6]⟩:=by
 have hb0:b0 ∉ Bh bg bf bc bs:=h.off b0 (by simp);have hb6:b6 ∉ Bh bg bf bc bs:=fun hm=>by
  by_cases e:b6=b0
  ·exact hb0 (e ▸ hm)
  ·rw[Ac.del_other _ e]at h6;exact h.game.dom hm h6
 refine⟨h.game.congr fun k hk=>by simp only;rw[Ac.set_other _ _ (fun e=>hb6 (by rw[←e];exact hk)),Ac.del_other _ (fun e=>hb0 (by rw[←e];exact hk))],h.inv,.inr ⟨b6,rfl,by simp,by simp only;rw[Ac.set_same,E1]⟩,fun b hb=>by rw[List.mem_singleton]at hb;rw[hb];exact hb6,fun k hk=>?_⟩;by_cases e:k=b6
 ·rw[e];simp
 ·simp only at hk;rw[Ac.set_other _ _ e]at hk;by_cases e':k=b0
  ·rw[e',Ac.del_same]at hk;exact absurd rfl hk
  ·rw[Ac.del_other _ e']at hk;have:=h.only k hk;simp only[List.singleton_append,List.mem_cons]at this;exact List.mem_append_right _ (this.resolve_left e')
def Q31 (n bg bf bc:Nat) (es:List RE) (A:List Nat) (e:Nat) (v:AV) (M':Ac):Prop :=
 v=.sl 1 (A0 (H4 n (A.map (Ag es)) (Ag es e)))∧∃(fl:List Nat) (bs:List (Option Nat)) (cl:List (List Nat)),J8 n bg bf bc es A M' fl bs cl
def Qbf (n:Nat) (L:List Ed) (e:Ed) (i:Nat):List Nat:=(List.range i).filter (H7 n L e)
theorem Qie (n:Nat) (L:List Ed) (e:Ed) (i:Nat):Qbf n L e (i+1)=Qbf n L e i++if H7 n L e i=true then [i] else []:=by
 unfold Qbf;rw[List.range_succ,List.filter_append];cases h:H7 n L e i<;>simp[h]
theorem Qnm (n:Nat) (L:List Ed) (e:Ed) (i:Nat):(Qbf n L e i).length≤i:=by
 have:=List.length_filter_le (H7 n L e) (List.range i);simpa[Qbf]using this
theorem Qad (n bg bf bc:Nat) (es:List RE) (A:List Nat) (hn:n≤12) (hes:Nj n es) (hA:∀e∈A,e<es.length) (hsp:Bk n (A.map (Ag es))) (M:Ac) (fl:List Nat) (bs:List (Option Nat)) (cl:List (List Nat)) (e:Nat)
  (hG:J8 n bg bf bc es A M fl bs cl) (heA:e∈A) :
  Ak Tryz.prog 53 [.ptr bg 3 0 0,.int .i64 (e:Nat)] M (Q31 n bg bf bc es A e):=by
 have he:e<es.length:=hA e heA;obtain⟨e1,e2,e3⟩:=hes e he;have hL:∀e∈A.map (Ag es),Ec n e:=fun e he=>by
  obtain⟨k,hk,rfl⟩:=List.mem_map.1 he;exact(hes k (hA k hk)).2.2
 have hT0:=Lg hL hsp (List.mem_map.2 ⟨e,heA,rfl⟩);have hwa:H7 n (A.map (Ag es)) (Ag es e) (Ag es e).1=true:=(Kc hL e3.1 e3).2 ⟨_,hT0,by simp[ins,Fw],by simp[Fw]⟩;have hwb:H7 n (A.map (Ag es)) (Ag es e) (Ag es e).2=true:=(Kc hL e3.2.1 e3).2 ⟨_,hT0,by simp[ins,Fw],by simp[Fw]⟩;have hbd:∀(M:Ac) (fl:List Nat) (bs:List (Option Nat)) (cl:List (List Nat)) (x:Nat),J8 n bg bf bc es A M fl bs cl→x<n→x≠(Ag es e).1→x≠(Ag es e).2→_:=fun M fl bs cl x h h1 h2 h3=>Qec n bg bf bc es A hn hes hA hsp M fl bs cl e x h heA h1 h2 h3
 obtain⟨a,ha⟩:∃a,(Ag es e).1=a:=⟨_,rfl⟩;obtain⟨b,hb⟩:∃b,(Ag es e).2=b:=⟨_,rfl⟩;have q1:=hG.mem.g;have q2:=hG.mem.f;have q4:=hG.mem.fll;unfold C8 at q1;refine Ad Tryz.func53 rfl rfl 54 rfl (Nat.le_of_ble_eq_true rfl) ?_;(repeat refine AW.seq_k fun K hK=>?_);refine AW.rg ?_;simp[Al];try (refine hK _ rfl ?_;clear hK K)
 (repeat refine AW.seq_k fun K hK=>?_);refine AW.rdL [bg] [0,1,2,3,4,5,6,7,8,9,10,11,12,13,14,15,16,17] Dm (by simp[q1]) ?_;simp[q1,he,Cq,e1,e2];try (refine hK _ rfl ?_;clear hK K)
 simp only[ha,hb]at hbd hwa hwb ⊢;have han:a<n:=ha ▸ e3.1;have hbn:b<n:=hb ▸ e3.2.1;(repeat refine AW.seq_k fun K hK=>?_);refine AW.rg ?_;simp;try (refine hK _ rfl ?_;clear hK K)
 refine AW.seq_ex (ι:=PSt) (fun z=>[(7,z.ov)]) (fun z=>z.M) (fun z=>N4 n bg bf bc es A (Qbf n (A.map (Ag es)) (Ag es e) n) z) ?_ ?_
 ·(repeat refine AW.seq_k fun K hK=>?_);refine AW.rg ?_;simp[q1,q4];try (refine hK _ rfl ?_;clear hK K)
  refine AW.block (AW.loopS (ι:=PSt × Nat) (fun z=>[(0,.ptr bg 3 0 0),(5,.int .i64 (a:Nat)),(6,.int .i64 (b:Nat)),(7,z.1.ov),(29,.int .i64 (n:Nat)),(30,.int .i64 (z.2:Nat))]) (fun z=>z.1.M)
   (fun z=>z.2≤n∧N4 n bg bf bc es A (Qbf n (A.map (Ag es)) (Ag es e) z.2) z.1) (fun z=>n-z.2) (⟨M,fl,bs,cl,.nil,[]⟩,0)
   ⟨by simp,⟨hG.mem,hG.inv,.inl ⟨rfl,rfl,rfl⟩,by simp,hG.only⟩⟩ rfl (by simp) ?_)
  rintro⟨⟨M,fl,bs,cl,ov,ob⟩,i⟩ ⟨g1,g2⟩;simp only at g1 g2;(repeat refine AW.seq_k fun K hK=>?_);refine AW.rg ?_;simp;try (refine hK _ rfl ?_;clear hK K)
  (repeat refine AW.seq ?_);refine AW.cs (fun hi=>?_) (fun hi=>?_) rfl<;>(try simp at hi)
  ·refine AW.skip ?_;try simp
   try (refine hK _ rfl ?_;clear hK K)
   have w1:=Aq (i+1) (by omega);have hsc:=Qie n (A.map (Ag es)) (Ag es e) i;have hcl:=Qnm n (A.map (Ag es)) (Ag es e) i;generalize Qbf n (A.map (Ag es)) (Ag es e) i=l at *;(repeat refine AW.seq ?_);refine AW.block ?_;(repeat refine AW.seq_k fun K hK=>?_);refine AW.rg ?_;simp;try (refine hK _ rfl ?_;clear hK K)
   refine AW.seq_ex (ι:=PSt) (fun z=>[(0,.ptr bg 3 0 0),(5,.int .i64 (a:Nat)),(6,.int .i64 (b:Nat)),(7,z.ov),(8,.int .i64 (i:Nat)),(29,.int .i64 (n:Nat)),(30,.int .i64 (i:Nat)),(47,.bool (H7 n (A.map (Ag es)) (Ag es e) i))]) (fun z=>z.M) (fun z=>N4 n bg bf bc es A l z) ?_ ?_
   ·by_cases hia:i=a
    ·rw[hia,hwa];(repeat refine AW.seq_k fun K hK=>?_);refine AW.rg ?_;simp;try (refine hK _ rfl ?_;clear hK K)
     exact⟨_,g2,rfl,rfl⟩
    by_cases hib:i=b
    ·rw[hib,hwb];(repeat refine AW.seq_k fun K hK=>?_);refine AW.rg ?_;simp[hib ▸ hia];try (refine hK _ rfl ?_;clear hK K)
     exact⟨_,g2,rfl,rfl⟩
    (repeat refine AW.seq_k fun K hK=>?_);refine AW.rg ?_;simp[hia,hib];try (refine hK _ rfl ?_;clear hK K)
    refine Aa.hand (Bh bg bf bc bs) (fun _ _ h=>h) (hbd _ fl bs cl i g2.gam hi hia hib) ?_;rintro _ g' ⟨rfl,fl',bs',cl',hG'⟩ hnew;simp;exact⟨_,g2.back hG' (fun b h=>(hnew b h).imp id (·.1)),rfl,rfl⟩
   rintro⟨M,fl,bs,cl,ov,ob⟩ hz;simp only;cases hwi:H7 n (A.map (Ag es)) (Ag es e) i with
   |false =>
    rw[hwi]at hsc;simp at hsc;refine AW.no ?_ rfl;refine AW.skip ?_;try simp
    try (refine hK _ rfl ?_;clear hK K)
    (repeat refine AW.seq_k fun K hK=>?_);refine AW.rg ?_;simp[-Int.natCast_add,w1];try (refine hK _ rfl ?_;clear hK K)
    exact⟨_,i+1,⟨by omega,by rw[hsc];exact hz⟩,by omega,rfl,rfl,rfl⟩
   |true =>
    rw[hwi]at hsc;simp at hsc;refine AW.yes ?_ rfl;rcases hz.lst with⟨l1,l2,l3⟩ | ⟨b0,l2,l3,l4⟩
    ·simp only at l1 l2 l3;have hl0:l=[]:=by unfold A0 at l1;exact List.map_eq_nil_iff.1 l1
     subst l2;subst l3;subst hl0;(repeat refine AW.seq_k fun K hK=>?_);refine AW.rgR [50] ?_;simp;try (refine hK _ rfl ?_;clear hK K)
     refine⟨by unfold maxLen;omega,Ae.intro fun b6 h6=>?_⟩;(repeat refine AW.seq_k fun K hK=>?_);refine AW.rg ?_;simp[-Int.natCast_add,w1];try (refine hK _ rfl ?_;clear hK K)
     exact⟨_,i+1,⟨by omega,by rw[hsc];exact hz.push0 h6⟩,by omega,rfl,rfl,rfl⟩
    ·simp only at l2 l3 l4;subst l2;subst l3;(repeat refine AW.seq_k fun K hK=>?_);refine AW.rgR [50] ?_;simp[l4];try (refine hK _ rfl ?_;clear hK K)
     refine⟨by omega,by unfold maxLen;omega,Ae.intro fun b6 h6=>?_⟩;(repeat refine AW.seq_k fun K hK=>?_);refine AW.rg ?_;simp[-Int.natCast_add,w1];try (refine hK _ rfl ?_;clear hK K)
     have:=hz.push1 (i:=i) h6;exact⟨_,i+1,⟨by omega,by rw[hsc];exact this⟩,by omega,rfl,rfl,rfl⟩
  ·refine AW.exit ?_;try simp
   rw[show i=n by omega]at g2;exact⟨_,g2,rfl,rfl⟩
 rintro⟨M,fl,bs,cl,ov,ob⟩ hz;simp only;(repeat refine AW.seq_k fun K hK=>?_);refine AW.rg ?_;simp;try (refine hK _ rfl ?_;clear hK K)
 have hone:=hz.ones;have hview:=hz.lst.view (M':=M.only (Bh bg bf bc bs)) (fun b hb=>B7 (hz.off b hb));refine AW.ret ⟨[ov],rfl,.sl 1 (A0 (H4 n (A.map (Ag es)) (Ag es e))),M.only (Bh bg bf bc bs),Bm.sub fun b x hb=>?_,hview,rfl,fl,bs,cl,hz.game.congr fun k hk=>Ce hk,fun k hk=>?_,hz.inv⟩
 ·by_cases hm:b∈Bh bg bf bc bs
  ·rw[Ce hm]at hb;exact⟨hb,hone b x hb⟩
  ·rw[B7 hm]at hb;cases hb
 ·rcases Decidable.em (k∈Bh bg bf bc bs)with hm|hm
  ·exact hm
  ·exact absurd (B7 hm) hk
end Go.Av
end
section
namespace Go.Av
open Go.Proofs Go.Lam
def G3 (W:List (List Nat)):List AV:=W.map fun l=>.sl 1 (A0 l)
@[simp] theorem Wj (W:List (List Nat)):(G3 W).length=W.length:=by simp[G3]
@[simp] theorem Qh2 {W:List (List Nat)} {i:Nat} (h:i<(G3 W).length):(G3 W)[i]=.sl 1 (A0 (W[i]'(by simpa using h))):=by simp[G3]
theorem Ub (W:List (List Nat)):∀v∈G3 W,v.cells.all AV.one=true:=by
 intro v hv;obtain⟨x,_,rfl⟩:=List.mem_map.1 hv;rfl
def Xc (a b:Nat):Int:=if a<b then -1 else if b<a then 1 else 0
def M8:List Nat→List Nat→Int
 |[],[]=>0
 |[],_::_=>-1
 |_::_,[]=>1
 |a::l,b::m=>if a=b then M8 l m else if a<b then -1 else 1
theorem Qhy:∀(x y:List Nat),M8 x y<0↔B8 x y=true
 |[],[]=>by simp[M8,B8]
 |[],_::_=>by simp[M8,B8]
 |_::_,[]=>by simp[M8,B8]
 |a::l,b::m=>by
  unfold M8 B8;by_cases h:a=b
  ·rw[if_pos h,if_pos h];exact Qhy l m
  ·rw[if_neg h,if_neg h];by_cases h2:a<b<;>simp[h2]
theorem Wp (a:Nat):Ak Tryz.prog 136 [.int .i64 (a:Nat)] Ac.emp fun v m=>v=.bool false∧m=Ac.emp:=by
 refine Ad Tryz.func136 rfl rfl 6 rfl (Nat.le_of_ble_eq_true rfl) ?_;(repeat refine AW.seq_k fun K hK=>?_);refine AW.rg ?_;simp[Al];try (refine hK _ rfl ?_;clear hK K)
 (repeat refine AW.seq_k fun K hK=>?_);refine AW.rg ?_;simp;try (refine hK _ rfl ?_;clear hK K)
 exact AW.ret (Ah rfl _ (.same _) ⟨rfl,rfl⟩)
theorem Qiz (a b:Nat):Ak Tryz.prog 94 [.int .i64 (a:Nat),.int .i64 (b:Nat)] Ac.emp fun v m=>v=.int .i64 (Xc a b)∧m=Ac.emp:=by
 refine Ad Tryz.func94 rfl rfl 20 rfl (Nat.le_of_ble_eq_true rfl) ?_;(repeat refine AW.seq_k fun K hK=>?_);refine AW.rg ?_;simp[Al];try (refine hK _ rfl ?_;clear hK K)
 (repeat refine AW.seq_k fun K hK=>?_);refine AW.rg ?_;simp;try (refine hK _ rfl ?_;clear hK K)
 refine Aa.val (Wp a) ?_;simp;try (refine hK _ rfl ?_;clear hK K)
 (repeat refine AW.seq_k fun K hK=>?_);refine AW.rg ?_;simp;try (refine hK _ rfl ?_;clear hK K)
 refine Aa.val (Wp b) ?_;simp;try (refine hK _ rfl ?_;clear hK K)
 (repeat refine AW.seq_k fun K hK=>?_);refine AW.rg ?_;simp;try (refine hK _ rfl ?_;clear hK K)
 refine AW.no ?_ rfl;refine AW.skip ?_;try simp
 try (refine hK _ rfl ?_;clear hK K)
 (repeat refine AW.seq_k fun K hK=>?_);refine AW.rg ?_;simp;try (refine hK _ rfl ?_;clear hK K)
 refine AW.no ?_ rfl;refine AW.skip ?_;try simp
 try (refine hK _ rfl ?_;clear hK K)
 by_cases h1:a<b
 ·(repeat refine AW.seq_k fun K hK=>?_);refine AW.rg ?_;simp[h1];try (refine hK _ rfl ?_;clear hK K)
  refine AW.yes ?_ rfl;(repeat refine AW.seq_k fun K hK=>?_);refine AW.rg ?_;simp;try (refine hK _ rfl ?_;clear hK K)
  exact AW.ret (Ah rfl _ (.same _) ⟨by unfold Xc;rw[if_pos h1];rfl,rfl⟩)
 have h1':b≤a:=by omega
 (repeat refine AW.seq_k fun K hK=>?_);refine AW.rg ?_;simp[h1];try (refine hK _ rfl ?_;clear hK K)
 refine AW.no ?_ rfl;refine AW.skip ?_;try simp
 try (refine hK _ rfl ?_;clear hK K)
 by_cases h2:b<a
 ·(repeat refine AW.seq_k fun K hK=>?_);refine AW.rg ?_;simp[h2];try (refine hK _ rfl ?_;clear hK K)
  refine AW.yes ?_ rfl;(repeat refine AW.seq_k fun K hK=>?_);refine AW.rg ?_;simp;try (refine hK _ rfl ?_;clear hK K)
  exact AW.ret (Ah rfl _ (.same _) ⟨by unfold Xc;rw[if_neg h1,if_pos h2];rfl,rfl⟩)
 (repeat refine AW.seq_k fun K hK=>?_);refine AW.rg ?_;simp[h2];try (refine hK _ rfl ?_;clear hK K)
 refine AW.no ?_ rfl;refine AW.skip ?_;try simp
 try (refine hK _ rfl ?_;clear hK K)
 (repeat refine AW.seq_k fun K hK=>?_);refine AW.rg ?_;simp;try (refine hK _ rfl ?_;clear hK K)
 exact AW.ret (Ah rfl _ (.same _) ⟨by unfold Xc;rw[if_neg h1,if_neg h2];rfl,rfl⟩)
theorem Xl (x y:List Nat) (hx:x.length<2^40) (hy:y.length<2^40):Ak Tryz.prog 58 [.sl 1 (A0 x),.sl 1 (A0 y)] Ac.emp fun v m=>v=.int .i64 (M8 x y)∧m=Ac.emp:=by
 refine Ad Tryz.func58 rfl rfl 36 rfl (Nat.le_of_ble_eq_true rfl) ?_;(repeat refine AW.seq_k fun K hK=>?_);refine AW.rg ?_;simp[Al];try (refine hK _ rfl ?_;clear hK K)
 refine AW.seq_ex (ι:=Unit) (fun _=>[(0,.sl 1 (A0 x)),(1,.sl 1 (A0 y))]) (fun _=>Ac.emp) (fun _=>x.length≤y.length∧M8 x y=M8 [] (y.drop x.length)) ?_ ?_
 ·(repeat refine AW.seq_k fun K hK=>?_);refine AW.rg ?_;simp;try (refine hK _ rfl ?_;clear hK K)
  refine AW.block (AW.loopS (ι:=Nat) (fun i=>[(0,.sl 1 (A0 x)),(1,.sl 1 (A0 y)),(9,.sl 1 (A0 x)),(10,.int .i64 (x.length:Nat)),(11,.int .i64 (i:Nat))]) (fun i=>Ac.emp)
   (fun i=>i≤x.length∧i≤y.length∧M8 x y=M8 (x.drop i) (y.drop i)) (fun i=>x.length-i) 0 ⟨by simp,by simp,by simp⟩ rfl (by simp) ?_)
  rintro i ⟨g1,g2,g3⟩;(repeat refine AW.seq_k fun K hK=>?_);refine AW.rg ?_;simp;try (refine hK _ rfl ?_;clear hK K)
  (repeat refine AW.seq ?_);refine AW.cs (fun hi=>?_) (fun hi=>?_) rfl<;>(try simp at hi)
  ·refine AW.skip ?_;try simp
   try (refine hK _ rfl ?_;clear hK K)
   have w1:=Aq (i+1) (by omega);have hdx:x.drop i=x[i]::x.drop (i+1):=List.drop_eq_getElem_cons hi;rw[hdx]at g3;(repeat refine AW.seq ?_);refine AW.block ?_;(repeat refine AW.seq_k fun K hK=>?_);refine AW.rg ?_;simp[hi];try (refine hK _ rfl ?_;clear hK K)
   (repeat refine AW.seq_k fun K hK=>?_);refine AW.rg ?_;simp;try (refine hK _ rfl ?_;clear hK K)
   (repeat refine AW.seq ?_);refine AW.cs (fun hy2=>?_) (fun hy2=>?_) rfl<;>(try simp at hy2)
   ·rw[List.drop_of_length_le hy2]at g3;(repeat refine AW.seq_k fun K hK=>?_);refine AW.rg ?_;simp;try (refine hK _ rfl ?_;clear hK K)
    exact AW.ret (Ah rfl _ (.same _) ⟨by rw[g3];rfl,rfl⟩)
   ·refine AW.skip ?_;try simp
    try (refine hK _ rfl ?_;clear hK K)
    have hdy:y.drop i=y[i]::y.drop (i+1):=List.drop_eq_getElem_cons hy2;rw[hdy]at g3;have hcm:=Qiz x[i] y[i];obtain⟨a,ha⟩:∃a,x[i]=a:=⟨_,rfl⟩;obtain⟨b,hb⟩:∃b,y[i]=b:=⟨_,rfl⟩;rw[ha,hb]at g3 hcm;simp only[ha];(repeat refine AW.seq_k fun K hK=>?_);refine AW.rg ?_;simp[hy2,hb];try (refine hK _ rfl ?_;clear hK K)
    (repeat refine AW.seq_k fun K hK=>?_);refine AW.rg ?_;simp;try (refine hK _ rfl ?_;clear hK K)
    refine Aa.val hcm ?_;simp;try (refine hK _ rfl ?_;clear hK K)
    by_cases hab:a=b
    ·have hc0:Xc a b=0:=by unfold Xc;rw[if_neg (by omega),if_neg (by omega)]
     have g3':M8 x y=M8 (x.drop (i+1)) (y.drop (i+1)):=by rw[g3,M8,if_pos hab]
     (repeat refine AW.seq_k fun K hK=>?_);refine AW.rg ?_;simp[hc0];try (refine hK _ rfl ?_;clear hK K)
     refine AW.no ?_ rfl;refine AW.skip ?_;try simp
     try (refine hK _ rfl ?_;clear hK K)
     (repeat refine AW.seq_k fun K hK=>?_);refine AW.rg ?_;simp[-Int.natCast_add,w1];try (refine hK _ rfl ?_;clear hK K)
     exact⟨⟨by omega,by omega,g3'⟩,by omega⟩
    ·have hcv:Xc a b=M8 x y:=by
      rw[g3,M8,if_neg hab];unfold Xc;by_cases h1:a<b
      ·rw[if_pos h1,if_pos h1]
      ·rw[if_neg h1,if_neg h1,if_pos (by omega)]
     have hc0:¬Xc a b=0:=by
      unfold Xc;by_cases h1:a<b
      ·rw[if_pos h1];decide
      ·rw[if_neg h1,if_pos (by omega)];decide
     (repeat refine AW.seq_k fun K hK=>?_);refine AW.rg ?_;simp[hc0];try (refine hK _ rfl ?_;clear hK K)
     refine AW.yes ?_ rfl;(repeat refine AW.seq_k fun K hK=>?_);refine AW.rg ?_;simp;try (refine hK _ rfl ?_;clear hK K)
     exact AW.ret (Ah rfl _ (.same _) ⟨by rw[←hcv];rfl,rfl⟩)
  ·refine AW.exit ?_;try simp
   have:i=x.length:=by omega
   subst this;rw[List.drop_length]at g3;exact⟨g2,g3⟩
 ·rintro _ ⟨h1,h2⟩;(repeat refine AW.seq_k fun K hK=>?_);refine AW.rg ?_;simp;try (refine hK _ rfl ?_;clear hK K)
  (repeat refine AW.seq ?_);refine AW.cs (fun h3=>?_) (fun h3=>?_) rfl<;>(try simp at h3)
  ·(repeat refine AW.seq_k fun K hK=>?_);refine AW.rg ?_;simp;try (refine hK _ rfl ?_;clear hK K)
   have hd:∃c t,y.drop x.length=c::t:=⟨_,_,List.drop_eq_getElem_cons h3⟩;obtain⟨c,t,hd⟩:=hd;rw[hd]at h2;exact AW.ret (Ah rfl _ (.same _) ⟨by rw[h2];rfl,rfl⟩)
  ·refine AW.skip ?_;try simp
   try (refine hK _ rfl ?_;clear hK K)
   (repeat refine AW.seq_k fun K hK=>?_);refine AW.rg ?_;simp;try (refine hK _ rfl ?_;clear hK K)
   rw[List.drop_of_length_le h3]at h2;exact AW.ret (Ah rfl _ (.same _) ⟨by rw[h2];rfl,rfl⟩)
def Gx (W:List (List Nat)):Prop:=W.Pairwise fun x y=>B8 y x=false
theorem Ty {a b c:List Nat} (h1:B8 b a=false) (h2:B8 c b=false):B8 c a=false:=by
 cases h:B8 c a with
 |false=>rfl
 |true =>
  rcases Ic a b with e|e|e
  ·subst e;rw[h]at h2;cases h2
  ·rw[Gz h e]at h2;cases h2
  ·rw[e]at h1;cases h1
theorem Qat {a b:List Nat} (h:B8 a b=true):B8 b a=false:=by
 cases h':B8 b a with
 |false=>rfl
 |true=>have:=Gz h h';rw[Jf]at this;cases this
theorem Qez {p1 p2:List (List Nat)} {x:List Nat} (hs:Gx (p1++p2)) (h1:∀y∈p1.getLast?,B8 x y=false) (h2:∀y∈p2,B8 x y=true):Gx (p1++x::p2):=by
 unfold Gx at *;rw[List.pairwise_append]at hs ⊢;obtain⟨s1,s2,s3⟩:=hs;refine⟨s1,List.pairwise_cons.2 ⟨fun y hy=>Qat (h2 y hy),s2⟩,fun y hy z hz=>?_⟩;rcases List.mem_cons.1 hz with rfl | hz
 ·rcases List.eq_nil_or_concat p1 with rfl|⟨p,l,rfl⟩
  ·cases hy
  ·have hl:=h1 l (by simp);rw[List.concat_eq_append]at s1 hy;rcases List.mem_append.1 hy with hy | hy
   ·have:=(List.pairwise_append.1 s1).2.2 y hy l (by simp);exact Ty this hl
   ·simp at hy;subst hy;exact hl
 ·exact s3 y hy z hz
theorem Qm9 (p1:List (List Nat)) (y x:List Nat) (r:List (List Nat)):((G3 (p1++y::x::r)).set (p1.length+1) (.sl 1 (A0 y))).set p1.length (.sl 1 (A0 x))=G3 (p1++x::y::r):=by
 unfold G3;simp[List.set_append]
theorem Qea (b:Nat) (W:List (List Nat)) (hl:W.length≤12) (hw:∀x∈W,x.length<2^40):Ak Tryz.prog 126 [.osl b 1 0 W.length,.int .i64 0,.int .i64 (W.length:Nat),.fn 58 []] (Ac.emp.set b ⟨25,1,G3 W⟩) fun v m=>∃W',W'.Perm W∧Gx W'∧v=.tup []∧m=Ac.emp.set b ⟨25,1,G3 W'⟩:=by
 have hone:∀(W:List (List Nat)) c y,Ac.emp.set b ⟨25,1,G3 W⟩ c=some y→∀v∈y.l,v.cells.all AV.one=true:=by
  intro W c y hy v hv;simp only[A9,Az]at hy;split at hy
  ·cases hy;exact Ub _ v hv
  ·cases hy
 refine Ad Tryz.func126 rfl rfl 53 rfl (Nat.le_of_ble_eq_true rfl) ?_;have w0:IntKind.i64.wrap 1=1:=rfl;(repeat refine AW.seq_k fun K hK=>?_);refine AW.rg ?_;simp[Al,w0];try (refine hK _ rfl ?_;clear hK K)
 cases W with
 |nil =>
  refine AW.block (AW.loopS (ι:=Unit) (fun _=>[(2,.int .i64 0),(8,.int .i64 1)]) (fun _=>Ac.emp.set b ⟨25,1,G3 []⟩) (fun _=>True) (fun _=>0) () trivial rfl (by simp) ?_);intro _ _;(repeat refine AW.seq_k fun K hK=>?_);refine AW.rg ?_;simp;try (refine hK _ rfl ?_;clear hK K)
  (repeat refine AW.seq ?_);refine AW.no ?_ rfl;refine AW.exit ?_;try simp
  refine Vw rfl (hone []) ?_;simp[Gx,oneOrTup]
 |cons x0 t0 =>
  obtain⟨W,hW⟩:∃W,x0::t0=W:=⟨_,rfl⟩;rw[hW]at hl hw ⊢;refine AW.block (AW.loopS (ι:=List (List Nat) × List (List Nat)) (fun z=>[(0,.osl b 1 0 W.length),(1,.int .i64 0),(2,.int .i64 (W.length:Nat)),(3,.fn 58 []),(8,.int .i64 (z.1.length:Nat))]) (fun z=>Ac.emp.set b ⟨25,1,G3 (z.1++z.2)⟩)
   (fun z=>z.1≠[]∧(z.1++z.2).Perm W∧Gx z.1) (fun z=>z.2.length) ([x0],t0) ⟨by simp,by rw[←hW];exact .refl _,by simp[Gx]⟩ (by rw[←hW];rfl) (by simp) ?_)
  rintro⟨pre,post⟩ ⟨g1,g2,g3⟩;simp only at g1 g2 g3;have hlen:=g2.length_eq;rw[List.length_append]at hlen;(repeat refine AW.seq_k fun K hK=>?_);refine AW.rg ?_;simp;try (refine hK _ rfl ?_;clear hK K)
  (repeat refine AW.seq ?_);refine AW.cs (fun hi=>?_) (fun hi=>?_) rfl<;>(try simp at hi)
  ·refine AW.skip ?_;try simp
   try (refine hK _ rfl ?_;clear hK K)
   cases post with
   |nil=>simp at hlen;omega
   |cons x post =>
   simp only[List.length_cons]at hlen;have hxw:x.length<2^40:=hw x (g2.mem_iff.1 (by simp));(repeat refine AW.seq ?_);refine AW.block ?_;(repeat refine AW.seq_k fun K hK=>?_);refine AW.rg ?_;simp;try (refine hK _ rfl ?_;clear hK K)
   have w1:=Aq (pre.length+1) (by omega);refine AW.block (AW.loopS (ι:=List (List Nat) × List (List Nat)) (fun z=>[(0,.osl b 1 0 W.length),(1,.int .i64 0),(2,.int .i64 (W.length:Nat)),(3,.fn 58 []),(8,.int .i64 (pre.length:Nat)),(9,.int .i64 (z.1.length:Nat))]) (fun z=>Ac.emp.set b ⟨25,1,G3 (z.1++x::z.2++post)⟩)
    (fun z=>z.1++z.2=pre∧∀y∈z.2,B8 x y=true) (fun z=>z.1.length) (pre,[]) ⟨by simp,by simp⟩ (by simp) (by simp) ?_)
   rintro⟨p1,p2⟩ ⟨k1,k2⟩;simp only at k1 k2;have hL:(p1++x::p2++post).length=W.length:=by rw[←k1]at hlen;simp at hlen ⊢;omega
   have hfin:(∀y∈p1.getLast?,B8 x y=false)→((p1++x::p2)≠[]∧((p1++x::p2)++post).Perm W∧Gx (p1++x::p2))∧(p1++x::p2).length=pre.length+1:=fun h=>by
    refine⟨⟨by simp,?_,Qez (by rw[k1];exact g3) h k2⟩,by rw[←k1];simp;omega⟩;refine List.Perm.trans ?_ g2;rw[←k1];simp only[List.append_assoc,List.cons_append];exact List.Perm.append_left _ (List.perm_middle (l₁:=p2) (l₂:=post)).symm
   rcases List.eq_nil_or_concat p1 with rfl|⟨p,y,rfl⟩
   ·obtain⟨f1,f2⟩:=hfin (by simp);simp only[List.nil_append]at f1 f2 ⊢;generalize hLv:G3 (x::p2++post)=Lv;(repeat refine AW.seq_k fun K hK=>?_);refine AW.rdL [b] [0,1,2,3,4,5,6,7,8,9,10,11,12,13,14,15,16] Dm (by simp) ?_;simp;try (refine hK _ rfl ?_;clear hK K)
    refine AW.no ?_ rfl;refine AW.exit ?_;try simp
    (repeat refine AW.seq_k fun K hK=>?_);refine AW.rg ?_;simp[-Int.natCast_add,w1];try (refine hK _ rfl ?_;clear hK K)
    refine⟨x::p2,post,f1,by simp,by rw[←hLv],by rw[f2]⟩
   ·rw[List.concat_eq_append]at *;have hyw:y.length<2^40:=hw y (g2.mem_iff.1 (by rw[←k1];simp));have hcm:=Xl x y hxw hyw;have hcl:=Qhy x y;have e1:(p++[y])++x::p2++post=p++y::x::(p2++post):=by simp
    have hpl:(p++[y]).length=p.length+1:=by simp
    simp only[hpl]at hL ⊢;rw[e1]at hL ⊢;have hsw:=Qm9 p y x (p2++post);have hx1:∀h:p.length+1<(G3 (p++y::x::(p2++post))).length,(G3 (p++y::x::(p2++post)))[p.length+1]=.sl 1 (A0 x):=fun h=>by
     rw[Qh2];congr 2;simp[List.getElem_append]
    have hx2:∀h:p.length<(G3 (p++y::x::(p2++post))).length,(G3 (p++y::x::(p2++post)))[p.length]=.sl 1 (A0 y):=fun h=>by
     rw[Qh2];congr 2;simp[List.getElem_append]
    have hLl:(G3 (p++y::x::(p2++post))).length=W.length:=by rw[Wj,hL]
    have hpW:p.length+1<W.length:=by rw[←hL];simp
    have hpW2:p.length<W.length:=by omega
    have w2:IntKind.i64.wrap (((p.length+1:Nat):Int)-1)=(p.length:Int):=by rw[Pk (by omega)];omega
    generalize hLv:G3 (p++y::x::(p2++post))=Lv at hx1 hx2 hLl hsw ⊢;(repeat refine AW.seq_k fun K hK=>?_);refine AW.rdL [b] [0,1,2,3,4,5,6,7,8,9,10,11,12,13,14,15,16] Dm (by simp[-Int.natCast_add]) ?_;simp[-Int.natCast_add,w2,hpW,hpW2,hLl,hx1,hx2];refine⟨58,_,⟨rfl,rfl⟩,?_⟩;refine Aa.val hcm ?_;simp[-Int.natCast_add];try (refine hK _ rfl ?_;clear hK K)
    cases hbf:B8 x y with
    |false =>
     have hlt:¬M8 x y<0:=fun h=>by rw[hcl.1 h]at hbf;cases hbf
     obtain⟨f1,f2⟩:=hfin (by simp[hbf]);(repeat refine AW.seq ?_);refine AW.no ?_ (by simp[-Int.natCast_add];omega);refine AW.exit ?_;try simp[-Int.natCast_add]
     (repeat refine AW.seq_k fun K hK=>?_);refine AW.rg ?_;simp[-Int.natCast_add,w1];try (refine hK _ rfl ?_;clear hK K)
     refine⟨_,post,f1,by simp,?_,by rw[f2]⟩;rw[←hLv];simp
    |true =>
     have hlt:=hcl.2 hbf;have hk:∀z∈y::p2,B8 x z=true:=fun z hz=>by
      rcases List.mem_cons.1 hz with rfl|hz
      ·exact hbf
      ·exact k2 z hz
     refine AW.yes ?_ (by simp[-Int.natCast_add];omega);refine AW.skip ?_;try simp[-Int.natCast_add]
     try (refine hK _ rfl ?_;clear hK K)
     (repeat refine AW.seq ?_);refine AW.block ?_;(repeat refine AW.seq_k fun K hK=>?_);refine AW.rdL [b] [0,1,2,3,4,5,6,7,8,9,10,11,12,13,14,15,16,17] Dm (by simp[-Int.natCast_add]) ?_;simp[-Int.natCast_add,w2,hpW,hpW2,hLl,hx1,hx2];rw[hsw];(repeat refine AW.seq_k fun K hK=>?_);refine AW.rg ?_;simp[-Int.natCast_add,w2];try (refine hK _ rfl ?_;clear hK K)
     refine⟨p,y::p2,⟨by rw[←k1];simp,fun z hz=>?_⟩,by omega,by simp,rfl⟩;exact hk z hz
  ·refine AW.exit ?_;try simp
   have:post=[]:=List.eq_nil_of_length_eq_zero (by omega);subst this;rw[List.append_nil]at g2 ⊢;exact Vw rfl (hone pre) ⟨pre,g2,g3,rfl,rfl⟩
set_option maxRecDepth 100000 in
theorem Qe6 (x:Nat) (hx:x<256):Ak Tryz.prog 135 [.int .u64 x] Ac.emp fun v m=>(∃y:Int,v=.int .i64 y)∧m=Ac.emp:=by
 refine Ad Tryz.func135 rfl rfl 25 rfl (Nat.le_of_ble_eq_true rfl) ?_;have h1:¬((4294967296:Int)≤(x:Int)):=by omega
 have h2:¬((65536:Int)≤(x:Int)):=by omega
 have h3:¬((256:Int)≤(x:Int)):=by omega
 (repeat refine AW.seq_k fun K hK=>?_);refine AW.rg ?_;simp[Al];try (refine hK _ rfl ?_;clear hK K)
 (repeat refine AW.seq_k fun K hK=>?_);refine AW.rg ?_;simp[h1];try (refine hK _ rfl ?_;clear hK K)
 refine AW.no ?_ rfl;refine AW.skip ?_;try simp
 try (refine hK _ rfl ?_;clear hK K)
 (repeat refine AW.seq_k fun K hK=>?_);refine AW.rg ?_;simp[h2];try (refine hK _ rfl ?_;clear hK K)
 refine AW.no ?_ rfl;refine AW.skip ?_;try simp
 try (refine hK _ rfl ?_;clear hK K)
 (repeat refine AW.seq_k fun K hK=>?_);refine AW.rg ?_;simp[h3];try (refine hK _ rfl ?_;clear hK K)
 refine AW.no ?_ rfl;refine AW.skip ?_;try simp
 try (refine hK _ rfl ?_;clear hK K)
 have hm:x % 256=x:=Nat.mod_eq_of_lt hx;(repeat refine AW.seq_k fun K hK=>?_);refine AW.rg ?_;simp[hm];try (refine hK _ rfl ?_;clear hK K)
 refine Ya (by kernel_rfl) hx fun t t1 t2=>?_;simp;try (refine hK _ rfl ?_;clear hK K)
 exact AW.ret (Ah rfl _ (.same _) ⟨⟨_,rfl⟩,rfl⟩)
theorem Qiw (x:Nat) (hx:x<256):Ak Tryz.prog 93 [.int .u64 x] Ac.emp fun v m=>(∃y:Int,v=.int .i64 y)∧m=Ac.emp:=by
 refine Ad Tryz.func93 rfl rfl 8 rfl (Nat.le_of_ble_eq_true rfl) ?_;(repeat refine AW.seq_k fun K hK=>?_);refine AW.rg ?_;simp[Al];try (refine hK _ rfl ?_;clear hK K)
 (repeat refine AW.seq_k fun K hK=>?_);refine AW.no ?_ rfl;refine AW.skip ?_;try simp
 try (refine hK _ rfl ?_;clear hK K)
 (repeat refine AW.seq_k fun K hK=>?_);refine AW.rg ?_;simp;try (refine hK _ rfl ?_;clear hK K)
 refine Aa.pure (Qe6 x hx) ?_;rintro _ ⟨y,rfl⟩;simp;try (refine hK _ rfl ?_;clear hK K)
 exact AW.ret (Ah rfl _ (.same _) ⟨⟨y,rfl⟩,rfl⟩)
theorem Ql3 (b:Nat) (W:List (List Nat)) (hl:W.length≤12) (hw:∀x∈W,x.length<2^40) (y:Int):Ak Tryz.prog 92 [.osl b 1 0 W.length,.int .i64 0,.int .i64 (W.length:Nat),.int .i64 y,.fn 58 []] (Ac.emp.set b ⟨25,1,G3 W⟩) fun v m=>∃W',W'.Perm W∧Gx W'∧v=.tup []∧m=Ac.emp.set b ⟨25,1,G3 W'⟩:=by
 have hc:=Qea b W hl hw;have hone:∀(W:List (List Nat)) c y,Ac.emp.set b ⟨25,1,G3 W⟩ c=some y→∀v∈y.l,v.cells.all AV.one=true:=by
  intro W c y hy v hv;simp only[A9,Az]at hy;split at hy
  ·cases hy;exact Ub _ v hv
  ·cases hy
 refine Ad Tryz.func92 rfl rfl 148 rfl (Nat.le_of_ble_eq_true rfl) ?_;have w0:IntKind.i64.wrap (W.length:Int)=(W.length:Int):=wi (by omega);have w1:(W.length:Int)≤12:=by omega
 (repeat refine AW.seq_k fun K hK=>?_);refine AW.rg ?_;simp[Al];try (refine hK _ rfl ?_;clear hK K)
 (repeat refine AW.seq_k fun K hK=>?_);refine AW.rg ?_;simp;try (refine hK _ rfl ?_;clear hK K)
 refine AW.block (AW.loopS (ι:=Unit) (fun _=>[(0,.osl b 1 0 W.length),(1,.int .i64 0),(2,.int .i64 (W.length:Nat)),(3,.int .i64 y),(4,.fn 58 [])]) (fun _=>Ac.emp.set b ⟨25,1,G3 W⟩) (fun _=>True) (fun _=>0) () trivial rfl (by simp) ?_);intro _ _;(repeat refine AW.seq ?_);refine AW.block ?_;(repeat refine AW.seq_k fun K hK=>?_);refine AW.rg ?_;simp[w0];try (refine hK _ rfl ?_;clear hK K)
 (repeat refine AW.seq_k fun K hK=>?_);refine AW.rg ?_;simp[w1];try (refine hK _ rfl ?_;clear hK K)
 refine AW.yes ?_ rfl;(repeat refine AW.seq_k fun K hK=>?_);refine AW.rg ?_;simp;try (refine hK _ rfl ?_;clear hK K)
 refine Aa.whole (fun _ h=>h) hc ?_;rintro _ g ⟨W',p1,p2,rfl,rfl⟩;simp;try (refine hK _ rfl ?_;clear hK K)
 exact AW.ret (Cf rfl (hone W') ⟨W',p1,p2,rfl,rfl⟩)
theorem Qi4 (b:Nat) (W:List (List Nat)) (hl:W.length≤12) (hw:∀x∈W,x.length<2^40):Ak Tryz.prog 57 [.osl b 1 0 W.length,.fn 58 []] (Ac.emp.set b ⟨25,1,G3 W⟩) fun v m=>∃W',W'.Perm W∧Gx W'∧v=.tup []∧m=Ac.emp.set b ⟨25,1,G3 W'⟩:=by
 have hc:=Ql3 b W hl hw;have hone:∀(W:List (List Nat)) c y,Ac.emp.set b ⟨25,1,G3 W⟩ c=some y→∀v∈y.l,v.cells.all AV.one=true:=by
  intro W c y hy v hv;simp only[A9,Az]at hy;split at hy
  ·cases hy;exact Ub _ v hv
  ·cases hy
 have hsl:=Qiw W.length (by omega);have hmod:W.length % 18446744073709551616=W.length:=Nat.mod_eq_of_lt (by omega);refine Ad Tryz.func57 rfl rfl 14 rfl (Nat.le_of_ble_eq_true rfl) ?_;(repeat refine AW.seq_k fun K hK=>?_);refine AW.rg ?_;simp[Al];try (refine hK _ rfl ?_;clear hK K)
 (repeat refine AW.seq_k fun K hK=>?_);refine AW.rg ?_;simp[hmod];try (refine hK _ rfl ?_;clear hK K)
 refine Aa.pure hsl ?_;rintro _ ⟨y,rfl⟩;simp;refine Aa.whole (fun _ h=>h) (hc y) ?_;rintro _ g ⟨W',p1,p2,rfl,rfl⟩;simp;exact Vw rfl (hone W') ⟨W',p1,p2,rfl,rfl⟩
theorem Qa4 (x y:List Nat) (hx:x.length<2^40) (hy:y.length<2^40):Ak Tryz.prog 56 [.sl 1 (A0 x),.sl 1 (A0 y)] Ac.emp fun v m=>v=.bool (decide (x=y))∧m=Ac.emp:=by
 refine Ad Tryz.func56 rfl rfl 26 rfl (Nat.le_of_ble_eq_true rfl) ?_;(repeat refine AW.seq_k fun K hK=>?_);refine AW.rg ?_;simp[Al];try (refine hK _ rfl ?_;clear hK K)
 by_cases hl:x.length=y.length;rotate_left
 ·have hne:¬x=y:=fun h=>hl (by rw[h]);(repeat refine AW.seq_k fun K hK=>?_);refine AW.rg ?_;simp[hl];try (refine hK _ rfl ?_;clear hK K)
  refine AW.yes ?_ rfl;(repeat refine AW.seq_k fun K hK=>?_);refine AW.rg ?_;simp;try (refine hK _ rfl ?_;clear hK K)
  exact AW.ret (Ah rfl _ (.same _) ⟨by simp[hne,oneOrTup],rfl⟩)
 (repeat refine AW.seq_k fun K hK=>?_);refine AW.rg ?_;simp[hl];try (refine hK _ rfl ?_;clear hK K)
 refine AW.no ?_ rfl;refine AW.skip ?_;try simp
 try (refine hK _ rfl ?_;clear hK K)
 refine AW.seq_ex (ι:=Unit) (fun _=>[]) (fun _=>Ac.emp) (fun _=>x=y) ?_ ?_
 ·(repeat refine AW.seq_k fun K hK=>?_);refine AW.rg ?_;simp;try (refine hK _ rfl ?_;clear hK K)
  refine AW.block (AW.loopS (ι:=Nat) (fun i=>[(0,.sl 1 (A0 x)),(1,.sl 1 (A0 y)),(12,.int .i64 (x.length:Nat)),(13,.int .i64 (i:Nat))]) (fun i=>Ac.emp)
   (fun i=>i≤x.length∧x.take i=y.take i) (fun i=>x.length-i) 0 ⟨by simp,by simp⟩ rfl (by simp) ?_)
  rintro i ⟨g1,g2⟩;(repeat refine AW.seq_k fun K hK=>?_);refine AW.rg ?_;simp;try (refine hK _ rfl ?_;clear hK K)
  (repeat refine AW.seq ?_);refine AW.cs (fun hi=>?_) (fun hi=>?_) rfl<;>(try simp at hi)
  ·refine AW.skip ?_;try simp
   try (refine hK _ rfl ?_;clear hK K)
   have w1:=Aq (i+1) (by omega);have hi2:i<y.length:=by omega
   (repeat refine AW.seq ?_);refine AW.block ?_;(repeat refine AW.seq_k fun K hK=>?_);refine AW.rg ?_;simp;try (refine hK _ rfl ?_;clear hK K)
   (repeat refine AW.seq_k fun K hK=>?_);refine AW.rd [0,1,2,3,4,5,6,7,8] Dm ?_;simp[hi,hi2];try (refine hK _ rfl ?_;clear hK K)
   by_cases he:x[i]=y[i]
   ·refine AW.no ?_ (by simp[he]);refine AW.skip ?_;try simp
    try (refine hK _ rfl ?_;clear hK K)
    (repeat refine AW.seq_k fun K hK=>?_);refine AW.rg ?_;simp[-Int.natCast_add,w1];try (refine hK _ rfl ?_;clear hK K)
    refine⟨⟨by omega,?_⟩,by omega⟩;rw[Kz hi he,Kz hi2 rfl,g2]
   ·refine AW.yes ?_ (by simp[he]);(repeat refine AW.seq_k fun K hK=>?_);refine AW.rg ?_;simp;try (refine hK _ rfl ?_;clear hK K)
    have hne:¬x=y:=fun h=>he (by simp[h]);exact AW.ret (Ah rfl _ (.same _) ⟨by simp[hne,oneOrTup],rfl⟩)
  ·refine AW.exit ?_;try simp
   have:i=x.length:=by omega
   subst this;rw[List.take_length,hl,List.take_length]at g2;exact g2
 ·rintro _ h;(repeat refine AW.seq_k fun K hK=>?_);refine AW.rg ?_;simp;try (refine hK _ rfl ?_;clear hK K)
  exact AW.ret (Ah rfl _ (.same _) ⟨by simp[h,oneOrTup],rfl⟩)
theorem Qnv (x y:List Nat) (hx:x.length<2^40) (hy:y.length<2^40):Ak Tryz.prog 55 [.sl 1 (A0 x),.rptr [.sl 1 (A0 y)]] Ac.emp fun v m=>v=.bool (decide (x=y))∧m=Ac.emp:=by
 have hc:=Qa4 x y hx hy;refine Ad Tryz.func55 rfl rfl 7 rfl (Nat.le_of_ble_eq_true rfl) ?_;(repeat refine AW.seq_k fun K hK=>?_);refine AW.rg ?_;simp[Al];try (refine hK _ rfl ?_;clear hK K)
 (repeat refine AW.seq_k fun K hK=>?_);refine AW.rg ?_;simp;try (refine hK _ rfl ?_;clear hK K)
 refine Aa.val hc ?_;simp;try (refine hK _ rfl ?_;clear hK K)
 exact AW.ret (Ah rfl _ (.same _) ⟨rfl,rfl⟩)
theorem Qac (W:List (List Nat)) (y:List Nat) (hl:W.length<2^40) (hw:∀x∈W,x.length<2^40) (hy:y.length<2^40):Ak Tryz.prog 91 [.sl 1 (G3 W),.fn 55 [.rptr [.sl 1 (A0 y)]]] Ac.emp fun v m=>(∃t:Int,v=.int .i64 t∧(0≤t↔y∈W))∧m=Ac.emp:=by
 refine Ad Tryz.func91 rfl rfl 19 rfl (Nat.le_of_ble_eq_true rfl) ?_;(repeat refine AW.seq_k fun K hK=>?_);refine AW.rg ?_;simp[Al];try (refine hK _ rfl ?_;clear hK K)
 refine AW.seq_ex (ι:=Unit) (fun _=>[]) (fun _=>Ac.emp) (fun _=>y ∉ W) ?_ ?_
 ·(repeat refine AW.seq_k fun K hK=>?_);refine AW.rg ?_;simp;try (refine hK _ rfl ?_;clear hK K)
  refine AW.block (AW.loopS (ι:=Nat) (fun i=>[(0,.sl 1 (G3 W)),(1,.fn 55 [.rptr [.sl 1 (A0 y)]]),(7,.int .i64 (W.length:Nat)),(8,.int .i64 (i:Nat))]) (fun i=>Ac.emp)
   (fun i=>i≤W.length∧∀k,(h:k<W.length)→k<i→W[k]≠y) (fun i=>W.length-i) 0 ⟨by simp,by omega⟩ rfl (by simp) ?_)
  rintro i ⟨g1,g2⟩;(repeat refine AW.seq_k fun K hK=>?_);refine AW.rg ?_;simp;try (refine hK _ rfl ?_;clear hK K)
  (repeat refine AW.seq ?_);refine AW.cs (fun hi=>?_) (fun hi=>?_) rfl<;>(try simp at hi)
  ·refine AW.skip ?_;try simp
   try (refine hK _ rfl ?_;clear hK K)
   have w1:=Aq (i+1) (by omega);have hc:=Qnv W[i] y (hw _ (List.getElem_mem hi)) hy;(repeat refine AW.seq ?_);refine AW.block ?_;(repeat refine AW.seq_k fun K hK=>?_);refine AW.rg ?_;simp;try (refine hK _ rfl ?_;clear hK K)
   (repeat refine AW.seq_k fun K hK=>?_);refine AW.rg ?_;simp[hi];try (refine hK _ rfl ?_;clear hK K)
   refine⟨55,_,⟨rfl,rfl⟩,?_⟩;refine Aa.val hc ?_;simp;try (refine hK _ rfl ?_;clear hK K)
   (repeat refine AW.seq ?_);refine AW.cs (fun he=>?_) (fun he=>?_) rfl<;>(try simp at he)
   ·(repeat refine AW.seq_k fun K hK=>?_);refine AW.rg ?_;simp;try (refine hK _ rfl ?_;clear hK K)
    exact AW.ret (Ah rfl _ (.same _) ⟨⟨i,rfl,⟨fun _=>(by rw[←he];exact List.getElem_mem hi),fun _=>(by omega)⟩⟩,rfl⟩)
   ·refine AW.skip ?_;try simp
    try (refine hK _ rfl ?_;clear hK K)
    (repeat refine AW.seq_k fun K hK=>?_);refine AW.rg ?_;simp[-Int.natCast_add,w1];try (refine hK _ rfl ?_;clear hK K)
    refine⟨⟨by omega,fun k h hk=>?_⟩,by omega⟩;rcases Nat.lt_or_ge k i with h1 | h1
    ·exact g2 k h h1
    ·have:k=i:=by omega
     subst this;exact he
  ·refine AW.exit ?_;try simp
   intro hm;obtain⟨k,hk,rfl⟩:=List.mem_iff_getElem.1 hm;exact g2 k hk (by omega) rfl
 ·rintro _ h;(repeat refine AW.seq_k fun K hK=>?_);refine AW.rg ?_;simp;try (refine hK _ rfl ?_;clear hK K)
  exact AW.ret (Ah rfl _ (.same _) ⟨⟨-1,rfl,⟨fun h=>(by omega),fun h'=>absurd h' h⟩⟩,rfl⟩)
theorem Tt (W:List (List Nat)) (y:List Nat) (hl:W.length<2^40) (hw:∀x∈W,x.length<2^40) (hy:y.length<2^40):Ak Tryz.prog 54 [.sl 1 (G3 W),.fn 55 [.rptr [.sl 1 (A0 y)]]] Ac.emp fun v m=>v=.bool (decide (y∈W))∧m=Ac.emp:=by
 have hc:=Qac W y hl hw hy;refine Ad Tryz.func54 rfl rfl 9 rfl (Nat.le_of_ble_eq_true rfl) ?_;(repeat refine AW.seq_k fun K hK=>?_);refine AW.rg ?_;simp[Al];try (refine hK _ rfl ?_;clear hK K)
 (repeat refine AW.seq_k fun K hK=>?_);refine AW.rg ?_;simp;try (refine hK _ rfl ?_;clear hK K)
 refine Aa.pure hc ?_;rintro _ ⟨t,rfl,ht⟩;simp;try (refine hK _ rfl ?_;clear hK K)
 exact AW.ret (Ah rfl _ (.same _) ⟨by show AV.bool (decide (0≤t))=_;rw[decide_eq_decide.2 ht],rfl⟩)
end Go.Av
end
