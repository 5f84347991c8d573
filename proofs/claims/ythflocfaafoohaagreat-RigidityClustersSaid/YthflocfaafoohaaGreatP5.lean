/- A part of the proof. -/
import Derived.Test.YthflocfaafoohaaGreatP4
import Derived.ProofKit
import Derived.OpenShut
import Derived.Deep.Slices
set_option linter.all false
set_option exponentiation.threshold 5000
set_option maxRecDepth 10000
section
namespace Go.Av
open Go.Proofs Go.Lam
def Td (n:Nat) (p:List Rat):AV:=match Sz n p with
 |some M=>.tup [Ba (Ci M),.int .i64 0]
 |none=>.tup [Ba [],.int .i64 2]
def S6 (p:List Rat) (k:Nat):Prop:=Dr p (2*k)=Dr p 0∧Dr p (2*k+1)=Dr p 1
theorem Qfa {n:Nat} {p:List Rat} (h:∀k,1≤k→k<n→S6 p k):Y9 n p=none:=by
 unfold Y9;rw[List.find?_range_eq_none];intro k hk;by_cases h1:1≤k
 ·obtain⟨a,b⟩:=h k h1 hk;simp[a,b]
 ·simp[h1]
theorem Qdn {n i:Nat} {p:List Rat} (h1:1≤i) (hi:i<n) (hd:¬S6 p i) (h:∀k,1≤k→k<i→S6 p k):Y9 n p=some i:=by
 unfold Y9;rw[List.find?_range_eq_some];refine⟨?_,List.mem_range.2 hi,fun k hk=>?_⟩
 ·unfold S6 at hd;by_cases a:Dr p (2*i)=Dr p 0
  ·have b:¬Dr p (2*i+1)=Dr p 1:=fun b=>hd ⟨a,b⟩;simp[h1,b]
  ·simp[h1,a]
 ·by_cases g:1≤k
  ·obtain⟨a,b⟩:=h k g hk;simp[a,b]
  ·simp[g]
def Va (o:Option Rat):RR:=match o with | some d=>Bj d | none=>⟨false,[],false,[]⟩
def Qeo (o:Option Rat):Int:=match o with | some _=>0 | none=>2
theorem Qib (o:Option Rat):Ff o=.tup [(Va o).av,.int .i64 (Qeo o)]:=by cases o<;>rfl
theorem Ot {n i:Nat} {p:List Rat} (h:Y9 n p=some i):Sz n p=(Dh (Dr p 1) (Dr p (2*i+1))).bind fun d1=>(Dh (Dr p (2*i)) (Dr p 0)).map fun d2=>[(List.replicate (2*n) (0:Rat)).set 0 1,(List.replicate (2*n) (0:Rat)).set 1 1,((List.replicate (2*n) (0:Rat)).set (2*i) d1).set (2*i+1) d2]:=by
 unfold Sz;rw[h]
theorem Fl {M M':Aa} {b n z:Nat} {l:List AV} {e:TypeId} (h:M b=some ⟨e,z,l⟩) (h':M' b=none) (hl:l.length=n):Bv M M' (.osl b z 0 n) (.sl z l) :=
 .osl b z 0 n _ l h h' rfl hl (by simp[hl]) (fun k v v' h1 h2=>by rw[Nat.zero_add]at h1;rw[h1]at h2;cases h2;exact .same _)
theorem Qdk (N:Nat) (p:List Rat) (hN:1≤N) (hN12:N≤12) (hp:Fn N p):Aj Tryz.prog 69 [.int .i64 (N:Nat),A7 (p.map Bj)] Aa.emp fun v m=>v=Td N p∧m=Aa.emp:=by
 have hzr:=O8 (2*N) (by omega);have hw1:=O1 1 (by omega) (by omega);rw[J3]at hw1;have w0:=Aq (2*N) (by omega);have hpl:p.length=2*N:=hp.1;have hg:∀i,i<2*N→B1 (Dr p i):=fun i hi=>by
  unfold Dr;rw[List.getD_eq_getElem?_getD,List.getElem?_eq_getElem (by omega)];exact hp.2 _ (List.getElem_mem _)
 have hrr:∀i,i<2*N→rr (p.map Bj) i=Bj (Dr p i):=fun i hi=>by
  rw[La (by simp;omega)];unfold Dr;simp[hpl,hi]
 have hdf:∀i j,i<2*N→j<2*N→Aj Tryz.prog 105 [(Bj (Dr p i)).av,(Bj (Dr p j)).av] Aa.emp fun v m=>v=.bool (decide (Dr p i≠Dr p j))∧m=Aa.emp:=fun i j hi hj=>by
  have:=U4 (Bj (Dr p i)) (Bj (Dr p j)) (Gf _) (Gf _) (Eu (hg i hi)) (Eu (hg j hj));rw[Gm,Gm]at this;exact this
 refine Ae Tryz.func69 rfl rfl 99 rfl (Nat.le_of_ble_eq_true rfl) ?_;unfold A7 at *;(repeat refine AW.seq_k fun K hK=>?_);refine AW.rg ?_;simp[Ak];try (refine hK _ rfl ?_;clear hK K)
 (repeat refine AW.seq_k fun K hK=>?_);refine AW.rg ?_;simp[-Int.natCast_mul,w0];try (refine hK _ rfl ?_;clear hK K)
 refine Ac.make (R:=fun b v x=>v=.osl b 4 0 (2*N)∧x=⟨44,4,Cm (List.replicate (2*N) (Bj 0))⟩) (hzr.mono fun v m ⟨b,h1,h2⟩=>⟨b,_,⟨h1,rfl⟩,h2⟩) ?_;rintro b0 _ _ ⟨rfl,rfl⟩ hb0 _;simp[-Int.natCast_mul,w0];refine Ac.make (R:=fun b v x=>v=.osl b 4 0 (2*N)∧x=⟨44,4,Cm (List.replicate (2*N) (Bj 0))⟩) (hzr.mono fun v m ⟨b,h1,h2⟩=>⟨b,_,⟨h1,rfl⟩,h2⟩) ?_;rintro b1 _ _ ⟨rfl,rfl⟩ hb1 _;simp[-Int.natCast_mul];refine Ah.intro fun B hB=>?_;try (refine hK _ rfl ?_;clear hK K)
 have hz0:Cm (List.replicate (2*N) (Bj 0))=Cm ((List.replicate (2*N) (0:Rat)).map Bj):=by simp
 have hzl:(Cm (List.replicate (2*N) (Bj 0))).length=2*N:=by simp[Cm]
 generalize hz:Cm (List.replicate (2*N) (Bj 0))=Z at *;have n10:b1≠b0:=fun h=>by simp[h]at hb1
 have nB0:B≠b0:=fun h=>by simp[h]at hB
 have nB1:B≠b1:=fun h=>by simp[h]at hB
 have hN2:0<2*N:=by omega
 have hN3:1<2*N:=by omega
 (repeat refine AW.seq_k fun K hK=>?_);refine AW.rdA B [0,1,2,3,4,5,6,7,8,9,10,11] C8 (by simp[-Int.natCast_mul,hzl,hN2,hN3,n10,nB0,nB1]) ?_;simp[-Int.natCast_mul,hzl,hN2,hN3,n10,nB0,nB1];try (refine hK _ rfl ?_;clear hK K)
 refine Ac.val hw1 ?_;simp[-Int.natCast_mul];refine Ac.val hw1 ?_;simp[-Int.natCast_mul,hzl,hN2,hN3,n10,nB0,nB1,Ne.symm nB0,Ne.symm nB1];try (refine hK _ rfl ?_;clear hK K)
 have hr0:Z.set 0 (Bj 1).av=Cm (((List.replicate (2*N) (0:Rat)).set 0 1).map Bj):=by rw[hz0,List.map_set];exact K5 _ _ _
 have hr1:Z.set 1 (Bj 1).av=Cm (((List.replicate (2*N) (0:Rat)).set 1 1).map Bj):=by rw[hz0,List.map_set];exact K5 _ _ _
 rw[hr0,hr1];have hl0:(Cm (((List.replicate (2*N) (0:Rat)).set 0 1).map Bj)).length=2*N:=by simp[Cm]
 have hl1:(Cm (((List.replicate (2*N) (0:Rat)).set 1 1).map Bj)).length=2*N:=by simp[Cm]
 have hem:∀l,(Ci [(List.replicate (2*N) (0:Rat)).set 0 1,(List.replicate (2*N) (0:Rat)).set 1 1,l]).map A7=[.sl 4 (Cm (((List.replicate (2*N) (0:Rat)).set 0 1).map Bj)),.sl 4 (Cm (((List.replicate (2*N) (0:Rat)).set 1 1).map Bj)),.sl 4 (Cm (l.map Bj))]:=fun _=>rfl;have hem2:(Ci [(List.replicate (2*N) (0:Rat)).set 0 1,(List.replicate (2*N) (0:Rat)).set 1 1]).map A7=[.sl 4 (Cm (((List.replicate (2*N) (0:Rat)).set 0 1).map Bj)),.sl 4 (Cm (((List.replicate (2*N) (0:Rat)).set 1 1).map Bj))]:=rfl;have hpN:Y9 N p=none→Td N p=.tup [.sl 1 [.sl 4 (Cm (((List.replicate (2*N) (0:Rat)).set 0 1).map Bj)),.sl 4 (Cm (((List.replicate (2*N) (0:Rat)).set 1 1).map Bj))],.int .i64 0]:=fun h=>by
  unfold Td Sz Ba;rw[h];rfl
 generalize Cm (((List.replicate (2*N) (0:Rat)).set 0 1).map Bj)=R0 at *;generalize Cm (((List.replicate (2*N) (0:Rat)).set 1 1).map Bj)=R1 at *;generalize hM0:Aa.emp.set B ⟨51,1,[.sl 4 R0,.sl 4 R1]⟩=M0;have hM0B:M0 B=some ⟨51,1,[.sl 4 R0,.sl 4 R1]⟩:=by rw[←hM0];exact Aa.set_same _ _ _
 have hM0n:∀c,c≠B→M0 c=none:=fun c h=>by rw[←hM0];exact Aa.set_other _ _ h
 have ones0:Ib M0:=by
  rw[←hM0];exact Ib.set (M:=Aa.emp) (fun c y hy=>by cases hy) B (by simp[AV.cells,AV.one])
 refine AW.turn [(0,.int .i64 (N:Nat)),(1,.sl 4 (Cm (p.map Bj))),(6,.osl B 1 0 2)] M0 ⟨fun c x' hx'=>?_⟩ (by simp[-Int.natCast_mul]) ?_
 ·by_cases hc:c=B
  ·subst hc;rw[hM0B]at hx';cases hx';refine⟨⟨51,1,[.osl b0 4 0 (2*N),.osl b1 4 0 (2*N)]⟩,by simp[nB0,nB1],rfl,rfl,rfl,fun k v v' h1 h2=>?_⟩
   match k with
   |0 =>
    cases h1;cases h2;exact⟨Fl (by simp[Ne.symm n10];rfl) (hM0n _ (Ne.symm nB0)) hl0,rfl⟩
   |1 =>
    cases h1;cases h2;exact⟨Fl (by simp;rfl) (hM0n _ (Ne.symm nB1)) hl1,rfl⟩
   |k+2=>cases h1
  ·rw[hM0n c hc]at hx';cases hx'
 refine AW.seq_ex (ι:=Unit) (fun _=>[(6,.osl B 1 0 2)]) (fun _=>M0) (fun _=>Y9 N p=none) ?_ ?_
 ·(repeat refine AW.seq_k fun K hK=>?_);refine AW.rg ?_;simp;try (refine hK _ rfl ?_;clear hK K)
  refine AW.block (AW.loopS (ι:=Nat) (fun i=>[(0,.int .i64 (N:Nat)),(1,.sl 4 (Cm (p.map Bj))),(6,.osl B 1 0 2),(7,.int .i64 ((2*i:Nat):Int))]) (fun _=>M0) (fun i=>1≤i∧i≤N∧∀k,1≤k→k<i→S6 p k) (fun i=>N-i) 1 ⟨by omega,by omega,fun k h1 h2=>by omega⟩ rfl (by simp) ?_);rintro i ⟨g1,g2,g3⟩;(repeat refine AW.seq_k fun K hK=>?_);refine AW.rg ?_;simp[-Int.natCast_mul,w0];try (refine hK _ rfl ?_;clear hK K)
  (repeat refine AW.seq ?_);refine AW.cs (fun hi=>?_) (fun hi=>?_) rfl<;>(try simp at hi)
  ·refine AW.skip ?_;try simp[-Int.natCast_mul]
   try (refine hK _ rfl ?_;clear hK K)
   have hi':i<N:=by omega
   have a0:2*i<2*N:=by omega
   have a1:2*i+1<2*N:=by omega
   have w2:=Aq (2*i+1) (by omega);have w3:=Aq (2*i+2) (by omega);have d0:=hdf (2*i) 0 a0 hN2;have d1:=hdf (2*i+1) 1 a1 hN3;unfold RR.av at d0 d1;have hr0:=hrr _ a0;have hr1:=hrr _ a1;have hr2:=hrr 0 hN2;have hr3:=hrr 1 hN3;obtain⟨T,hT⟩:∃T:Bool,(T=true↔S6 p i):=⟨(decide (Dr p (2*i)=Dr p 0)&&decide (Dr p (2*i+1)=Dr p 1)),by simp[S6]⟩;(repeat refine AW.seq ?_);refine AW.block ?_;refine AW.seq_k fun K hK=>?_;refine AW.seq_ex (ι:=Unit) (fun _=>[(0,.int .i64 (N:Nat)),(1,.sl 4 (Cm (p.map Bj))),(6,.osl B 1 0 2),(7,.int .i64 ((2*i:Nat):Int)),(54,.bool T)]) (fun _=>M0) (fun _=>True) ?_ ?_
   ·refine AW.rd [0,1,2,3,4,5,6,7,8,9,10,11,12,13,14,15,16,17,18,19,20] C8 ?_;simp[-Int.natCast_mul,hpl,a0,hN2,hr0,hr2];refine Ac.val d0 ?_;by_cases e0:Dr p (2*i)=Dr p 0
    ·simp[-Int.natCast_add,-Int.natCast_mul,e0,w2,hpl,a1,hN3,hr1,hr3];refine Ac.val d1 ?_;simp[-Int.natCast_add,-Int.natCast_mul];rw[Bool.eq_iff_iff,hT];simp[S6,e0]
    ·simp[-Int.natCast_mul,e0];rw[←Bool.not_eq_true,hT];simp[S6,e0]
   rintro _ _;cases T with
   |true =>
    have hs:=hT.1 rfl;refine AW.yes ?_ rfl;refine AW.exit ?_;try simp[-Int.natCast_mul]
    (repeat refine AW.seq_k fun K hK=>?_);refine AW.rg ?_;simp[-Int.natCast_add,-Int.natCast_mul,w3];try (refine hK _ rfl ?_;clear hK K)
    exact⟨i+1,⟨by omega,by omega,fun k h1 h2=>by
     rcases Nat.lt_or_ge k i with h|h
     ·exact g3 k h1 h
     ·rw[show k=i by omega];exact hs⟩,by omega,rfl⟩
   |false =>
    have hns:¬S6 p i:=fun h=>by have:=hT.2 h;cases this
    have hpj:=Qdn g1 hi' hns g3;have s1:=Kx (Dr p 1) (Dr p (2*i+1)) (hg _ hN3) (hg _ a1);have s2:=Kx (Dr p (2*i)) (Dr p 0) (hg _ a0) (hg _ hN2);rw[Qib,←H0,←H0]at s1 s2;unfold RR.av at s1 s2;refine AW.no ?_ rfl;refine AW.skip ?_;try simp[-Int.natCast_mul]
    try (refine hK _ rfl ?_;clear hK K)
    (repeat refine AW.seq_k fun K hK=>?_);refine AW.rg ?_;simp[-Int.natCast_mul,w0];try (refine hK _ rfl ?_;clear hK K)
    refine Ac.make (R:=fun b v x=>v=.osl b 4 0 (2*N)∧x=⟨44,4,Z⟩) (hzr.mono fun v m ⟨b,h1,h2⟩=>⟨b,_,⟨h1,rfl⟩,h2⟩) ?_;rintro br _ _ ⟨rfl,rfl⟩ hbr _;simp[-Int.natCast_mul];try (refine hK _ rfl ?_;clear hK K)
    (repeat refine AW.seq_k fun K hK=>?_);refine AW.rg ?_;simp[-Int.natCast_mul];try (refine hK _ rfl ?_;clear hK K)
    (repeat refine AW.seq_k fun K hK=>?_);refine AW.rd [0,1,2,3,4,5,6,7,8,9,10,11,12,13,14,15,16] C8 ?_;simp[-Int.natCast_add,-Int.natCast_mul,hpl,w2,a1,hN3,hr1,hr3];try (refine hK _ rfl ?_;clear hK K)
    refine Ac.val s1 ?_;simp[-Int.natCast_add,-Int.natCast_mul,hzl,a0];try (refine hK _ rfl ?_;clear hK K)
    (repeat refine AW.seq_k fun K hK=>?_);refine AW.rd [0,1,2,3,4,5,6,7,8,9,10,11,12,13,14,15,16] C8 ?_;simp[-Int.natCast_add,-Int.natCast_mul,hpl,w2,a0,hN2,hr0,hr2];try (refine hK _ rfl ?_;clear hK K)
    refine Ac.val s2 ?_;simp[-Int.natCast_add,-Int.natCast_mul,hzl,a1];try (refine hK _ rfl ?_;clear hK K)
    cases h1:Dh (Dr p 1) (Dr p (2*i+1))with
    |none =>
     have hno:Td N p=.tup [Ba [],.int .i64 2]:=by unfold Td;rw[Ot hpj,h1];rfl
     (repeat refine AW.seq_k fun K hK=>?_);refine AW.rg ?_;simp[-Int.natCast_add,-Int.natCast_mul,Qeo];try (refine hK _ rfl ?_;clear hK K)
     refine AW.yes ?_ rfl;(repeat refine AW.seq_k fun K hK=>?_);refine AW.rg ?_;simp[-Int.natCast_add,-Int.natCast_mul];try (refine hK _ rfl ?_;clear hK K)
     exact AW.ret (Ag [Ba [],.int .i64 2] rfl ⟨.nilsl 1,.same _,trivial⟩ ⟨by rw[hno];rfl,rfl⟩)
    |some x1 =>
     cases h2:Dh (Dr p (2*i)) (Dr p 0)with
     |none =>
      have hno:Td N p=.tup [Ba [],.int .i64 2]:=by unfold Td;rw[Ot hpj,h1,h2];rfl
      (repeat refine AW.seq_k fun K hK=>?_);refine AW.rg ?_;simp[-Int.natCast_add,-Int.natCast_mul,Qeo];try (refine hK _ rfl ?_;clear hK K)
      refine AW.no ?_ rfl;refine AW.skip ?_;try simp[-Int.natCast_add,-Int.natCast_mul]
      try (refine hK _ rfl ?_;clear hK K)
      (repeat refine AW.seq_k fun K hK=>?_);refine AW.rg ?_;simp[-Int.natCast_add,-Int.natCast_mul,Qeo];try (refine hK _ rfl ?_;clear hK K)
      refine AW.yes ?_ rfl;(repeat refine AW.seq_k fun K hK=>?_);refine AW.rg ?_;simp[-Int.natCast_add,-Int.natCast_mul];try (refine hK _ rfl ?_;clear hK K)
      exact AW.ret (Ag [Ba [],.int .i64 2] rfl ⟨.nilsl 1,.same _,trivial⟩ ⟨by rw[hno];rfl,rfl⟩)
     |some x2 =>
      (repeat refine AW.seq_k fun K hK=>?_);refine AW.rg ?_;simp[-Int.natCast_add,-Int.natCast_mul,Qeo];try (refine hK _ rfl ?_;clear hK K)
      refine AW.no ?_ rfl;refine AW.skip ?_;try simp[-Int.natCast_add,-Int.natCast_mul]
      try (refine hK _ rfl ?_;clear hK K)
      (repeat refine AW.seq_k fun K hK=>?_);refine AW.rg ?_;simp[-Int.natCast_add,-Int.natCast_mul,Qeo];try (refine hK _ rfl ?_;clear hK K)
      refine AW.no ?_ rfl;refine AW.skip ?_;try simp[-Int.natCast_add,-Int.natCast_mul]
      try (refine hK _ rfl ?_;clear hK K)
      have hrow:(Z.set (2*i) (.agg [.bool (Va (some x1)).n1,An (Va (some x1)).l1,.bool (Va (some x1)).n2,An (Va (some x1)).l2])).set (2*i+1) (.agg [.bool (Va (some x2)).n1,An (Va (some x2)).l1,.bool (Va (some x2)).n2,An (Va (some x2)).l2])=Cm ((((List.replicate (2*N) (0:Rat)).set (2*i) x1).set (2*i+1) x2).map Bj):=by
       rw[hz0,List.map_set,List.map_set];exact(congrArg (fun l=>List.set l (2*i+1) (Bj x2).av) (K5 _ _ (Bj x1))).trans (K5 _ _ (Bj x2))
      have hyes:Td N p=.tup [.sl 1 [.sl 4 R0,.sl 4 R1,.sl 4 (Cm ((((List.replicate (2*N) (0:Rat)).set (2*i) x1).set (2*i+1) x2).map Bj))],.int .i64 0]:=by
       unfold Td;rw[Ot hpj,h1,h2];unfold Ba;simp only[Option.bind_some,Option.map_some];rw[hem]
      rw[hrow];have hrl:(Cm ((((List.replicate (2*N) (0:Rat)).set (2*i) x1).set (2*i+1) x2).map Bj)).length=2*N:=by simp[Cm]
      generalize Cm ((((List.replicate (2*N) (0:Rat)).set (2*i) x1).set (2*i+1) x2).map Bj)=RW at *;refine AW.turn [(6,.osl B 1 0 2),(8,.sl 4 RW)] M0 (Bo.drop hbr ones0) (by simp[-Int.natCast_add,-Int.natCast_mul];exact Fl (Aa.set_same _ _ _) hbr hrl) ?_;(repeat refine AW.seq_k fun K hK=>?_);refine AW.rgR [96] ?_;simp[-Int.natCast_mul,hM0B];try (refine hK _ rfl ?_;clear hK K)
      refine⟨by unfold maxLen;omega,Ah.intro fun b' hb'=>?_⟩;refine hK _ rfl ?_;clear hK K;exact AW.ret (Ag [.sl 1 [.sl 4 R0,.sl 4 R1,.sl 4 RW],.int .i64 0] rfl ⟨Fl (Aa.set_same _ _ _) rfl rfl,.same _,trivial⟩ ⟨by rw[hyes];rfl,rfl⟩)
  ·refine AW.exit ?_;try simp[-Int.natCast_mul]
   have:i=N:=by omega
   subst this;exact Qfa g3
 ·rintro _ hj;(repeat refine AW.seq_k fun K hK=>?_);refine AW.rg ?_;simp;try (refine hK _ rfl ?_;clear hK K)
  have hV:Bv M0 Aa.emp (.osl B 1 0 2) (.sl 1 [.sl 4 R0,.sl 4 R1]):=Fl hM0B rfl rfl;exact AW.ret (Ag [.sl 1 [.sl 4 R0,.sl 4 R1],.int .i64 0] rfl ⟨hV,.same _,trivial⟩ ⟨by rw[hpN hj];rfl,rfl⟩)
end Go.Av
end
section
namespace Go.Av
open Go.Proofs Go.Lam
theorem Qal {a b:Rat} (ha:B1 a):Aj Tryz.prog 33 [(Bj a).av,(Bj b).av] Aa.emp fun v m=>v=.bool (decide (a=b))∧m=Aa.emp:=by
 refine(Qel (Bj a) (Bj b) (Qau ha)).mono ?_;rintro v m ⟨⟨t,rfl,ht⟩,h2⟩;refine⟨?_,h2⟩;have e:Bj a=Bj b↔a=b:=⟨fun h=>by rw[←Gm a,h,Gm],fun h=>by rw[h]⟩;rw[e]at ht;cases t<;>simp_all
end Go.Av
end
section
namespace Go.Av
open Go.Proofs Go.Lam
noncomputable def Wn (n:Int) (es:List RE) (p:List RR):AV :=
 if H8 n es p=true then
  match (Wg n.toNat (Ad es) (p.map RR.q) es.length).bind fun M=>(Sz n.toNat (p.map RR.q)).bind fun P=>some (M++P)with
  |some M=>Lu (Ci M)
  |none=>.tup [A7 [],.bool false,.int .i64 2]
 else .tup [A7 [],.bool false,.int .i64 1]
theorem Qfq {n:Int} {es:List RE} {p:List RR} (h:¬H8 n es p=true):Wn n es p=.tup [A7 [],.bool false,.int .i64 1]:=by unfold Wn;rw[if_neg h]
theorem Qcg {n:Int} {es:List RE} {p:List RR} (h:H8 n es p=true):Wn n es p=match (Wg n.toNat (Ad es) (p.map RR.q) es.length).bind fun M=>(Sz n.toNat (p.map RR.q)).bind fun P=>some (M++P)with
  |some M=>Lu (Ci M)
  |none=>.tup [A7 [],.bool false,.int .i64 2]:=by unfold Wn;rw[if_pos h]
theorem Qaa (m:List (List RR)):∃a b c,Lu m=.tup [a,b,c]:=by
 unfold Lu;split<;>exact⟨_,_,_,rfl⟩
theorem Qfr (n:Int) (es:List RE) (p:List RR):∃a b c,Wn n es p=.tup [a,b,c]:=by
 unfold Wn;split
 ·split
  ·exact Qaa _
  ·exact⟨_,_,_,rfl⟩
 ·exact⟨_,_,_,rfl⟩
theorem Z9 {n:Int} {es:List RE} {p:List RR} (hp:∀x∈p,x.Lb) (h:H8 n es p=true):∃N:Nat,n=(N:Nat)∧1≤N∧N≤12∧I2 (N:Int).toNat es∧es.length≤40∧Fn N (p.map RR.q)∧p=(p.map RR.q).map Bj:=by
 unfold H8 at h;simp only[Bool.and_eq_true,decide_eq_true_eq,List.all_eq_true]at h;obtain⟨⟨hk,h2⟩,h3⟩:=h;obtain⟨⟨q1,q2,q3⟩,_⟩:=Df hk;obtain⟨N,rfl⟩:=Int.eq_ofNat_of_zero_le (show 0≤n by omega);refine⟨N,rfl,by omega,by omega,Hs hk,q3,⟨by simp;omega,fun q hq=>?_⟩,?_⟩
 ·obtain⟨x,hx,rfl⟩:=List.mem_map.1 hq;exact(El (hp x hx) (h3 x hx)).1
 ·rw[List.map_map]
  conv=>lhs;rw[←List.map_id p]
  exact List.map_congr_left fun x hx=>(El (hp x hx) (h3 x hx)).2
theorem Qh7 {n:Nat} {p:List Rat} {P:List (List Rat)} (h:Sz n p=some P):1≤P.length∧P.length≤3:=by
 unfold Sz at h;split at h
 ·cases h;simp
 ·obtain⟨d1,_,h2⟩:=Option.bind_eq_some_iff.1 h;obtain⟨d2,_,rfl⟩:=Option.map_eq_some_iff.1 h2;simp
theorem Vd (n:Int) (es:List RE) (p:List RR) (hb:LbE es) (hp:∀x∈p,x.Lb) (hpl:p.length<2^62):Aj Tryz.prog 32 [.int .i64 n,A3 es,A7 p] Aa.emp fun v m=>v=Wn n es p∧m=Aa.emp:=by
 have hc:=Xc n es p hb hp;by_cases hpl:H8 n es p=true;rotate_left
 ·have e1:H9 n es p=.int .i64 1:=by unfold H9;rw[if_neg hpl]
  have hz:=Qfq hpl;rw[e1]at hc;refine Ae Tryz.func32 rfl rfl 46 rfl (Nat.le_of_ble_eq_true rfl) ?_;unfold A3 A7 at *;(repeat refine AW.seq_k fun K hK=>?_);refine AW.rg ?_;simp[Ak];try (refine hK _ rfl ?_;clear hK K)
  (repeat refine AW.seq_k fun K hK=>?_);refine AW.rg ?_;simp;try (refine hK _ rfl ?_;clear hK K)
  refine Ac.val hc ?_;simp;try (refine hK _ rfl ?_;clear hK K)
  (repeat refine AW.seq_k fun K hK=>?_);refine AW.rg ?_;simp;try (refine hK _ rfl ?_;clear hK K)
  refine AW.yes ?_ rfl;(repeat refine AW.seq_k fun K hK=>?_);refine AW.rg ?_;simp;try (refine hK _ rfl ?_;clear hK K)
  exact AW.ret (Ag [A7 [],.bool false,.int .i64 1] rfl ⟨.nilsl 4,.same _,.same _,trivial⟩ ⟨by rw[hz];rfl,rfl⟩)
 have e1:H9 n es p=.int .i64 0:=by unfold H9;rw[if_pos hpl]
 rw[e1]at hc;obtain⟨N,rfl,N1,N2,hok,h3,hrow,hpe⟩:=Z9 hp hpl;have hS:=Qcg hpl;simp only[Int.toNat_natCast]at hok hS;have heq:=Q4 N es (p.map RR.q) N1 N2 hok h3 hrow;have hpi:=Qdk N (p.map RR.q) N1 N2 hrow;generalize p.map RR.q=q at *;subst hpe;unfold eqR at heq;refine Ae Tryz.func32 rfl rfl 46 rfl (Nat.le_of_ble_eq_true rfl) ?_;unfold A3 A7 at hc;unfold A3 A7;(repeat refine AW.seq_k fun K hK=>?_);refine AW.rg ?_;simp[Ak];try (refine hK _ rfl ?_;clear hK K)
 (repeat refine AW.seq_k fun K hK=>?_);refine AW.rg ?_;simp;try (refine hK _ rfl ?_;clear hK K)
 refine Ac.val hc ?_;simp;try (refine hK _ rfl ?_;clear hK K)
 (repeat refine AW.seq_k fun K hK=>?_);refine AW.rg ?_;simp;try (refine hK _ rfl ?_;clear hK K)
 refine AW.no ?_ rfl;refine AW.skip ?_;try simp
 try (refine hK _ rfl ?_;clear hK K)
 cases hE:Wg N (Ad es) q es.length with
 |none =>
  rw[hE]at heq hS;simp only[Option.bind_none]at hS;unfold Ba at heq;(repeat refine AW.seq_k fun K hK=>?_);refine AW.rg ?_;simp;try (refine hK _ rfl ?_;clear hK K)
  refine Ac.val heq ?_;simp;try (refine hK _ rfl ?_;clear hK K)
  (repeat refine AW.seq_k fun K hK=>?_);refine AW.rg ?_;simp;try (refine hK _ rfl ?_;clear hK K)
  refine AW.yes ?_ rfl;(repeat refine AW.seq_k fun K hK=>?_);refine AW.rg ?_;simp;try (refine hK _ rfl ?_;clear hK K)
  exact AW.ret (Ag [A7 [],.bool false,.int .i64 2] rfl ⟨.nilsl 4,.same _,.same _,trivial⟩ ⟨by rw[hS];rfl,rfl⟩)
 |some M =>
  rw[hE]at heq hS;simp only[Option.bind_some]at hS;obtain⟨gl,gg⟩:=Ni hE;have hMl:((Ci M).map A7).length=es.length:=by simp[Ci,gl]
  (repeat refine AW.seq_k fun K hK=>?_);refine AW.rg ?_;simp;try (refine hK _ rfl ?_;clear hK K)
  refine Ac.whole (fun _ h=>h) heq ?_;rintro _ X ⟨B,rfl,rfl⟩;simp;try (refine hK _ rfl ?_;clear hK K)
  (repeat refine AW.seq_k fun K hK=>?_);refine AW.rg ?_;simp;try (refine hK _ rfl ?_;clear hK K)
  refine AW.no ?_ rfl;refine AW.skip ?_;try simp
  try (refine hK _ rfl ?_;clear hK K)
  unfold Td at hpi;cases hP:Sz N q with
  |none =>
   rw[hP]at hpi hS;simp only at hpi;simp only[Option.bind_none]at hS;unfold Ba at hpi;(repeat refine AW.seq_k fun K hK=>?_);refine AW.rg ?_;simp;try (refine hK _ rfl ?_;clear hK K)
   refine Ac.val hpi ?_;simp;try (refine hK _ rfl ?_;clear hK K)
   (repeat refine AW.seq_k fun K hK=>?_);refine AW.rg ?_;simp;try (refine hK _ rfl ?_;clear hK K)
   refine AW.yes ?_ rfl;(repeat refine AW.seq_k fun K hK=>?_);refine AW.rg ?_;simp;try (refine hK _ rfl ?_;clear hK K)
   exact AW.ret (Ag [A7 [],.bool false,.int .i64 2] rfl ⟨.nilsl 4,.same _,.same _,trivial⟩ ⟨by rw[hS];rfl,rfl⟩)
  |some P =>
   rw[hP]at hpi hS;simp only at hpi;simp only[Option.bind_some]at hS;have hPl:=Qh7 hP;have hPl2:((Ci P).map A7).length≤3:=by simpa[Ci]using hPl.2
   have hPl1:1≤((Ci P).map A7).length:=by simpa[Ci]using hPl.1
   have hone:∀x∈(Ci P).map A7,x.cells.length=1∧∀y∈x.cells,y.one=true:=fun x hx=>by
    obtain⟨y,_,rfl⟩:=List.mem_map.1 hx;exact⟨rfl,by simp[A7,AV.cells,AV.one]⟩
   have hfi:=Qaw (Ci (M++P)) (Vx _);rw[←hS]at hfi;have happ:Ba (Ci (M++P))=.sl 1 ((Ci M).map A7++(Ci P).map A7):=by unfold Ba Ci;rw[List.map_append,List.map_append]
   rw[happ]at hfi;obtain⟨r1,r2,r3,hr⟩:=Qfr N es (q.map Bj);rw[hr]at hfi ⊢;unfold Ba at hpi;generalize(Ci M).map A7=LM at *;generalize(Ci P).map A7=LP at *;(repeat refine AW.seq_k fun K hK=>?_);refine AW.rg ?_;simp;try (refine hK _ rfl ?_;clear hK K)
   refine Ac.val hpi ?_;simp;try (refine hK _ rfl ?_;clear hK K)
   (repeat refine AW.seq_k fun K hK=>?_);refine AW.rg ?_;simp;try (refine hK _ rfl ?_;clear hK K)
   refine AW.no ?_ rfl;refine AW.skip ?_;try simp
   try (refine hK _ rfl ?_;clear hK K)
   (repeat refine AW.seq_k fun K hK=>?_);refine AW.rg ?_;simp[hone];try (refine hK _ rfl ?_;clear hK K)
   (repeat refine⟨by first | omega | exact hone | (unfold maxLen;omega),?_⟩);refine Ah.intro fun b' hb'=>?_;refine Ac.whole (fun _ h=>h) (Aj.view (args':=[.sl 1 (LM++LP)]) ⟨rfl,fun j u u' h1 h2=>?_⟩ hfi) ?_
   ·match j with
    |0=>cases h1;cases h2;exact Fl (Aa.set_same _ _ _) rfl (by simp[hMl])
    |k+1=>cases h1
   rintro _ _ ⟨rfl,rfl⟩;simp;try (refine hK _ rfl ?_;clear hK K)
   exact AW.ret (Ag [r1,r2,r3] rfl ⟨.same _,.same _,.same _,trivial⟩ ⟨rfl,rfl⟩)
end Go.Av
end
section
namespace Go.Av
open Go.Proofs Go.Lam
def eI (l:List Nat) (k:Nat):List RE:=(List.range k).map fun j=>⟨(l.getD (2*j) 0:Nat),(l.getD (2*j+1) 0:Nat),Bj 1⟩
def Qq (l:List Nat):List RE:=eI l (l.length / 2)
theorem Qkw (l:List Nat) (k:Nat):eI l (k+1)=eI l k++[⟨(l.getD (2*k) 0:Nat),(l.getD (2*k+1) 0:Nat),Bj 1⟩]:=by
 unfold eI;rw[List.range_succ,List.map_append];rfl
theorem R4 (l:List Nat) (hl:l.length≤100):Aj Tryz.prog 47 [.sl 1 (Al l)] Aa.emp fun v m=>v=A3 (Qq l)∧m=Aa.emp:=by
 have hw:=Kd 1 (by omega) (by omega);rw[J3]at hw;unfold RR.av at hw;refine Ae Tryz.func47 rfl rfl 27 rfl (Nat.le_of_ble_eq_true rfl) ?_;(repeat refine AW.seq_k fun K hK=>?_);refine AW.rg ?_;simp[Ak];try (refine hK _ rfl ?_;clear hK K)
 (repeat refine AW.seq_k fun K hK=>?_);refine AW.rg ?_;simp;try (refine hK _ rfl ?_;clear hK K)
 refine AW.seq_ex (ι:=Qfl) (fun z=>[(3,z.ov)]) (fun z=>z.M) (fun z=>Me z.M 46 6 z.ov z.ob (D0 (Qq l))) ?_ ?_
 ·(repeat refine AW.seq_k fun K hK=>?_);refine AW.rg ?_;simp;try (refine hK _ rfl ?_;clear hK K)
  refine AW.block (AW.loopS (ι:=Nat × Qfl) (fun z=>[(0,.sl 1 (Al l)),(3,z.2.ov),(4,.int .i64 ((2*z.1:Nat):Int))]) (fun z=>z.2.M) (fun z=>2*z.1≤l.length∧Me z.2.M 46 6 z.2.ov z.2.ob (D0 (eI l z.1))) (fun z=>l.length-z.1) (0,⟨Aa.emp,.nil,[]⟩) ⟨by simp,Me.start _ _⟩ rfl (by simp) ?_);rintro⟨i,M,ov,ob⟩ ⟨g1,g2⟩;simp only at g1 g2;simp only;have w1:=Aq (2*i+1) (by omega);have w2:=Aq (2*i+2) (by omega);(repeat refine AW.seq_k fun K hK=>?_);refine AW.rg ?_;simp[-Int.natCast_add,-Int.natCast_mul,w1];try (refine hK _ rfl ?_;clear hK K)
  (repeat refine AW.seq ?_);refine AW.cs (fun hi=>?_) (fun hi=>?_) rfl<;>(try simp at hi)
  ·refine AW.skip ?_;try simp[-Int.natCast_add,-Int.natCast_mul]
   try (refine hK _ rfl ?_;clear hK K)
   have h0:2*i<l.length:=by omega
   have e0:l.getD (2*i) 0=l[2*i]:=by rw[List.getD_eq_getElem?_getD,List.getElem?_eq_getElem h0];rfl
   have e1:l.getD (2*i+1) 0=l[2*i+1]:=by rw[List.getD_eq_getElem?_getD,List.getElem?_eq_getElem hi];rfl
   have hst:D0 (eI l (i+1))=D0 (eI l i)++[.agg [.int .i64 (l[2*i]:Nat),.int .i64 (l[2*i+1]:Nat),.bool (Bj 1).n1,An (Bj 1).l1,.bool (Bj 1).n2,An (Bj 1).l2]]:=by
    rw[Qkw,e0,e1];unfold D0;rw[List.map_append];rfl
   have hfin:∀s:Qfl,Me s.M 46 6 s.ov s.ob (D0 (eI l i)++[.agg [.int .i64 (l[2*i]:Nat),.int .i64 (l[2*i+1]:Nat),.bool (Bj 1).n1,An (Bj 1).l1,.bool (Bj 1).n2,An (Bj 1).l2]])→Me s.M 46 6 s.ov s.ob (D0 (eI l (i+1))):=fun s h=>by rw[hst];exact h
   have hll:(D0 (eI l i)).length≤100:=by simp[eI];omega
   generalize D0 (eI l i)=LL at *;(repeat refine AW.seq ?_);refine AW.block ?_;rcases g2.lst with⟨z1,z2,z3⟩ | ⟨b0,z2,z3,z4⟩
   ·subst z1 z2 z3;refine AW.rdR [24] [0,1,2,3,4,5,6,7,8,9,10,11,12,13,14] C8 ?_;simp[-Int.natCast_add,-Int.natCast_mul,h0,hi,w1];refine Ac.val hw ?_;simp[-Int.natCast_add,-Int.natCast_mul];refine⟨by unfold maxLen;omega,Ah.intro fun b hb=>?_⟩;(repeat refine AW.seq_k fun K hK=>?_);refine AW.rg ?_;simp[-Int.natCast_add,-Int.natCast_mul,w2];try (refine hK _ rfl ?_;clear hK K)
    exact⟨i+1,⟨_,_,[b]⟩,⟨by omega,hfin _ (g2.push0 b _)⟩,by omega,rfl,rfl,rfl⟩
   ·subst z2 z3;refine AW.rdR [24] [0,1,2,3,4,5,6,7,8,9,10,11,12,13,14] C8 ?_;simp[-Int.natCast_add,-Int.natCast_mul,h0,hi,w1,z4];refine Ac.val hw ?_;simp[-Int.natCast_add,-Int.natCast_mul,z4];refine⟨by omega,by unfold maxLen;omega,Ah.intro fun b hb=>?_⟩;(repeat refine AW.seq_k fun K hK=>?_);refine AW.rg ?_;simp[-Int.natCast_add,-Int.natCast_mul,w2];try (refine hK _ rfl ?_;clear hK K)
    exact⟨i+1,⟨_,_,[b]⟩,⟨by omega,hfin _ (g2.push1 b _)⟩,by omega,rfl,rfl,rfl⟩
  ·refine AW.exit ?_;try simp[-Int.natCast_add,-Int.natCast_mul]
   have:i=l.length / 2:=by omega
   exact⟨⟨M,ov,ob⟩,by unfold Qq;rw[←this];exact g2,by simp⟩
 rintro⟨M,ov,ob⟩ g1;(repeat refine AW.seq_k fun K hK=>?_);refine AW.rg ?_;simp;try (refine hK _ rfl ?_;clear hK K)
 have hv:=g1.lst.view (M':=Aa.emp) (fun _ _=>rfl);exact AW.ret (Ag [A3 (Qq l)] rfl ⟨hv,trivial⟩ ⟨rfl,rfl⟩)
end Go.Av
end
section
namespace Go.Av
open Go.Proofs Go.Lam
def l4:List Nat:=[0,1,1,2,2,3,3,0]
def l6:List Nat:=[0,1,1,2,2,3,3,0,0,2,1,3]
def exP:List Rat:=[0,0,1,0,1,1,0,1]
def exM:List (List Rat):=((Wg 4 (Ad (Qq l4)) exP 4).bind fun M=>(Sz 4 exP).bind fun P=>some (M++P)).getD []
def exZ:List (List Rat) × List Nat:=(F6 exM).getD ([],[])
theorem Vc:C2 4 (Qq l4)=true:=by decide +kernel
theorem Qkg:D1 4 (Qq l4)=[0,1,2,3]:=by decide +kernel
theorem Qku:Sj 4 (Qq l4)=.int .i64 1:=by unfold Sj;rw[if_pos Vc,Qkg];rfl
theorem Yw:Bw 4 (Qq l4)=.int .i64 0:=by unfold Bw;rw[if_pos Vc]
theorem Qkx:(Fp 4 (Qq l4)).length=4:=by decide +kernel
theorem Qjz:∃l,J0 4 (Qq l6) 5=.tup [.sl 1 (Al l),.int .i64 0]∧l.length=6:=by
 have h:Hv 4 (Qq l6) 5=0:=by decide +kernel
 refine⟨_,by unfold J0;rw[h],?_⟩;decide +kernel
theorem Qwz:((Wg 4 (Ad (Qq l4)) exP 4).bind fun M=>(Sz 4 exP).bind fun P=>some (M++P))=some exM:=by decide +kernel
theorem Qfo:Da 7 8 exM:=⟨by unfold Dx B1;decide +kernel,by unfold Jl;decide +kernel,by decide +kernel⟩
theorem Qnw:F6 exM=some exZ:=by decide +kernel
theorem Qqq:∃v V,K6 exZ.1 exZ.2 8 8=v::V∧v.length=8∧Dr v 4=1:=by
 have h:(match K6 exZ.1 exZ.2 8 8 with | v::_=>decide (v.length=8∧Dr v 4=1) | []=>false)=true:=by decide +kernel
 cases hk:K6 exZ.1 exZ.2 8 8 with
 |nil=>rw[hk]at h;cases h
 |cons v V=>rw[hk]at h;simp only[decide_eq_true_eq]at h;exact⟨v,V,rfl,h.1,h.2⟩
theorem Qp0:(exP.map Bj).all RR.ok=true:=by decide +kernel
theorem Qnv:∃v:List Rat,Wn 4 (Qq l4) (exP.map Bj)=.tup [A7 (v.map Bj),.bool true,.int .i64 0]∧v.length=8∧Dr v 4=1:=by
 obtain⟨v,V,h1,h2,h3⟩:=Qqq;refine⟨v,?_,h2,h3⟩;have hp:H8 4 (Qq l4) (exP.map Bj)=true:=by unfold H8;rw[Vc,Qp0];rfl
 have hq:(exP.map Bj).map RR.q=exP:=by
  rw[List.map_map]
  conv=>rhs;rw[←List.map_id exP]
  exact List.map_congr_left fun q _=>Gm q
 rw[Qcg hp,hq];have e4:(Qq l4).length=4:=by decide +kernel
 have hc:=Qg3 Qfo (by decide +kernel) (by omega) (by omega);have hw:(Am (Ci exM) 0).length=8:=by rw[Cb,List.length_map];decide +kernel
 have hr:H2 (Ci exM)=(0,exZ.1,exZ.2):=by
  unfold H2;rw[if_neg (by simp[hc]),Qj3,Qnw]
 have hR:Vj (Ci exM)=(0,v::V):=by
  unfold Vj;rw[hr,if_neg (by simp),hw,h1]
 rw[e4,show(4:Int).toNat=4 from rfl,Qwz];simp only;unfold Lu;rw[hR];rfl
theorem Ac.eat {P:Program} {av:Nat→Prop} {f:FuncId} {args:List AV} {M:Aa} {k:AV→Aa→Prop} {v:AV} {args':List AV} (h:Aj P f args' Aa.emp fun v' m'=>v'=v∧m'=Aa.emp) (hv:Dp M Aa.emp args args') (hk:k v Aa.emp) (hav:∀b,¬av b:=by exact fun _ h=>h):Ac P av f args M k :=
 Ac.whole hav (Aj.view (Ct hv) h) (by rintro _ _ ⟨rfl,rfl⟩;exact hk)
theorem Wb:Aj Tryz.prog 17 [] Aa.emp fun v m=>v=.bool true∧m=Aa.emp:=by
 have hlb:∀l,LbE (Qq l):=fun l x hx=>by
  unfold Qq eI at hx;obtain⟨j,_,rfl⟩:=List.mem_map.1 hx;exact Gf _
 have hln:True:=trivial;have he4:=R4 l4 (by decide);have he6:=R4 l6 (by decide);have hfr:=Tc 4 (Qq l4) (hlb _);have hcl:=Re 4 (Qq l4) (hlb _) (fun _=>by omega);have hmo:=Vd 4 (Qq l4) (exP.map Bj) (hlb _) (fun x hx=>by obtain⟨q,_,rfl⟩:=List.mem_map.1 hx;exact Gf _) (by decide);have hci:=Z4 4 (Qq l6) 5 (hlb _);obtain⟨cl,c1,c2⟩:=Qjz;obtain⟨v,m1,m2,m3⟩:=Qnv;have hcn:=Qkx;have hv4:B1 (Dr v 4):=by rw[m3];exact Qh4
 have hs:=Qal (a:=Dr v 4) (b:=1) hv4;rw[decide_eq_true m3]at hs;rw[Qku,Yw]at hfr;rw[Yw]at hcl;rw[m1]at hmo;rw[c1]at hci;have hw0:=Kd 0 (by omega) (by omega);have hw1:=Kd 1 (by omega) (by omega);rw[Ih]at hw0;rw[J3]at hw1;have hrow:A7 (exP.map Bj)=.sl 4 [(Bj 0).av,(Bj 0).av,(Bj 1).av,(Bj 0).av,(Bj 1).av,(Bj 1).av,(Bj 0).av,(Bj 1).av]:=rfl;rw[hrow]at hmo;have hi4:AV.sl 1 (Al l4)=.sl 1 [.int .i64 0,.int .i64 1,.int .i64 1,.int .i64 2,.int .i64 2,.int .i64 3,.int .i64 3,.int .i64 0]:=rfl
 have hi6:AV.sl 1 (Al l6)=.sl 1 [.int .i64 0,.int .i64 1,.int .i64 1,.int .i64 2,.int .i64 2,.int .i64 3,.int .i64 3,.int .i64 0,.int .i64 0,.int .i64 2,.int .i64 1,.int .i64 3]:=rfl;rw[hi4]at he4;rw[hi6]at he6;generalize Qq l4=E4 at *;generalize Qq l6=E6 at *;generalize Fp 4 E4=CS at *;generalize(Bj 0)=Q0 at *;generalize hQ1:(Bj 1)=Q1 at *;refine Ae Tryz.func17 rfl rfl 89 rfl (Nat.le_of_ble_eq_true rfl) ?_;(repeat refine AW.seq_k fun K hK=>?_);refine AW.rg ?_;simp[Ak];try (refine hK _ rfl ?_;clear hK K)
 (repeat refine AW.seq_k fun K hK=>?_);refine AW.rg ?_;simp;try (refine hK _ rfl ?_;clear hK K)
 refine Ah.intro fun b1 hb1=>?_;refine Ac.eat he4 ⟨Fl (Aa.set_same _ _ _) rfl rfl,trivial⟩ ?_;simp;try (refine hK _ rfl ?_;clear hK K)
 unfold A3 at *;(repeat refine AW.seq_k fun K hK=>?_);refine AW.rg ?_;simp;try (refine hK _ rfl ?_;clear hK K)
 refine Ac.val hfr ?_;simp;try (refine hK _ rfl ?_;clear hK K)
 (repeat refine AW.seq_k fun K hK=>?_);refine AW.rg ?_;simp;try (refine hK _ rfl ?_;clear hK K)
 refine Ac.val hcl ?_;simp;try (refine hK _ rfl ?_;clear hK K)
 (repeat refine AW.seq_k fun K hK=>?_);refine AW.rg ?_;simp;try (refine hK _ rfl ?_;clear hK K)
 refine Ac.val hw0 ?_;simp;refine Ac.val hw0 ?_;simp;refine Ac.val hw1 ?_;simp;refine Ac.val hw0 ?_;simp;refine Ac.val hw1 ?_;simp;refine Ac.val hw1 ?_;simp;refine Ac.val hw0 ?_;simp;refine Ac.val hw1 ?_;simp;refine Ah.intro fun b2 hb2=>?_;try (refine hK _ rfl ?_;clear hK K)
 (repeat refine AW.seq_k fun K hK=>?_);refine AW.rg ?_;simp;try (refine hK _ rfl ?_;clear hK K)
 refine Ac.eat hmo ⟨.same _,.same _,Fl (Aa.set_same _ _ _) rfl rfl,trivial⟩ ?_;simp;try (refine hK _ rfl ?_;clear hK K)
 (repeat refine AW.seq_k fun K hK=>?_);refine AW.rg ?_;simp;try (refine hK _ rfl ?_;clear hK K)
 refine Ah.intro fun b3 hb3=>?_;refine Ac.eat he6 ⟨Fl (Aa.set_same _ _ _) rfl rfl,trivial⟩ ?_;simp;refine Ac.val hci ?_;simp;try (refine hK _ rfl ?_;clear hK K)
 have hcl4:(Dk CS).length=4:=by unfold Dk;simpa using hcn
 have hr4:rr (v.map Bj) 4=Bj (Dr v 4):=by rw[La (by simp[m2])];unfold Dr;simp[m2]
 generalize Bj (Dr v 4)=q4 at *;unfold RR.av at hs hw1;unfold A7;(repeat refine AW.seq_k fun K hK=>?_);refine AW.rd [0,1,2,3,4,5,6,7,8,9,10,11,12,13,14,15,16,17,18,19,20,21,22,23,24,25,26,27,28,29,30,31,32,33,34,35,36,37,38,39,40,41,42,43] C8 ?_;simp[hcl4,m2,c2,hr4];try (refine hK _ rfl ?_;clear hK K)
 refine Ac.val hw1 ?_;simp[hcl4,m2,c2,hr4];refine Ac.val hs ?_;simp[hcl4,m2,c2,hr4];try (refine hK _ rfl ?_;clear hK K)
 exact AW.ret (Af rfl _ (.same _) ⟨rfl,rfl⟩)
end Go.Av
end
section
namespace Go.Av
open Go.Proofs Go.Lam
theorem Qg1 (n:Int) (es:List RE):∃c,Bw n es=.int .i64 c:=⟨_,rfl⟩
def Mh (n:Int) (es:List RE):Int:=if 8<n∧C2 n es=true then 8 else n
theorem Qkp {n:Int} {es:List RE} (h:C2 (Mh n es) es=true):Mh n es≤8:=by
 unfold Mh at *;split
 ·omega
 ·rename_i hc
  rw[if_neg hc]at h;by_cases h8:8<n
  ·exact absurd ⟨h8,h⟩ hc
  ·omega
theorem Qc1 {n:Int} {es:List RE} (hk:C2 n es=true):(∀e∈(D1 n es).map (Ad es),Dc n.toNat e)∧A4 n.toNat ((D1 n es).map (Ad es)):=by
 have hok:=Hs hk;have eA:D1 n es=Bl n.toNat (Ad es) [] (List.range es.length):=by unfold D1;rw[if_pos hk]
 refine⟨fun e he=>?_,?_⟩
 ·obtain⟨k,h1,rfl⟩:=List.mem_map.1 he;exact(hok k (Ql h1)).2.2
 ·rw[eA];exact Ew (by simp) (hok.at fun k hk=>by simpa using hk) (A4.nil _)
theorem Yn (n:Int) (es:List RE):(Fp n es).length<2^40∧∀x∈Fp n es,x.length<2^40:=by
 unfold Fp;by_cases hk:C2 n es=true
 ·rw[if_pos hk];obtain⟨⟨h1,h2,h3⟩,_⟩:=Df hk;have hok:=Hs hk;have hle:=Na hk;obtain⟨hL,hS⟩:=Qc1 hk;refine⟨?_,fun x hx=>?_⟩
  ·rw[Wd hL hS,Pi hL hS];have:=K8 hL hS;have h5:(List.range n.toNat).countP (Bi ((D1 n es).map (Ad es)))≤n.toNat:=by simpa using List.countP_le_length (l:=List.range n.toNat) (p:=Bi ((D1 n es).map (Ad es)))
   rw[List.length_map]at this;omega
  ·rcases(Hg.2 x).1 hx with⟨m,_,rfl⟩|⟨j,_,_,rfl⟩
   ·rw[Gr];have:=Ux n.toNat (A2 m);omega
   ·simp
 ·rw[if_neg hk];exact⟨by simp,fun x hx=>by cases hx⟩
theorem Pp (n:Int) (es:List RE) (hb:LbE es):Aj Tryz.prog 5 [.int .i64 n,A3 es] Aa.emp fun v m=>v=.bool true∧m=Aa.emp:=by
 have h1:=Re (Mh n es) es hb Qkp;have h2:=Qa2 (Mh n es) es hb;obtain⟨s1,s2⟩:=Yn (Mh n es) es;have h7:=W8 (Fp (Mh n es) es) (Fp (Mh n es) es) s1 s1 s2 s2;obtain⟨c,hc⟩:=Qg1 (Mh n es) es;have hwk:=Wb;rw[hc]at h1 h2;rw[decide_eq_true rfl]at h7;have hck:=S1 n es hb;unfold Bw at hck;refine Ae Tryz.func5 rfl rfl 40 rfl (Nat.le_of_ble_eq_true rfl) ?_;unfold A3 at *;(repeat refine AW.seq_k fun K hK=>?_);refine AW.rg ?_;simp[Ak];try (refine hK _ rfl ?_;clear hK K)
 refine AW.seq_ex (ι:=Unit) (fun _=>[(0,.int .i64 (Mh n es)),(1,.sl 6 (D0 es))]) (fun _=>Aa.emp) (fun _=>True) ?_ ?_
 ·by_cases h8:8<n
  ·(repeat refine AW.seq_k fun K hK=>?_);refine AW.rg ?_;simp[h8];try (refine hK _ rfl ?_;clear hK K)
   refine Ac.val hck ?_;by_cases hk:C2 n es=true
   ·have e:Mh n es=8:=if_pos ⟨h8,hk⟩;simp[hk];try (refine hK _ rfl ?_;clear hK K)
    refine AW.yes ?_ rfl;(repeat refine AW.seq_k fun K hK=>?_);refine AW.rg ?_;simp[e];try (refine hK _ rfl ?_;clear hK K)
   ·have e:Mh n es=n:=if_neg fun h=>hk h.2;simp[hk];try (refine hK _ rfl ?_;clear hK K)
    refine AW.no ?_ rfl;refine AW.skip ?_;simp[e]
  ·have e:Mh n es=n:=if_neg fun h=>h8 h.1;(repeat refine AW.seq_k fun K hK=>?_);refine AW.rg ?_;simp[h8];try (refine hK _ rfl ?_;clear hK K)
   refine AW.no ?_ rfl;refine AW.skip ?_;simp[e]
 rintro _ _;generalize Fp (Mh n es) es=C at *;generalize Mh n es=N at *;(repeat refine AW.seq_k fun K hK=>?_);refine AW.rg ?_;simp;try (refine hK _ rfl ?_;clear hK K)
 refine Ac.val h1 ?_;simp;try (refine hK _ rfl ?_;clear hK K)
 (repeat refine AW.seq_k fun K hK=>?_);refine AW.rg ?_;simp;try (refine hK _ rfl ?_;clear hK K)
 refine Ac.val h2 ?_;simp;try (refine hK _ rfl ?_;clear hK K)
 (repeat refine AW.seq_k fun K hK=>?_);refine AW.rg ?_;simp;try (refine hK _ rfl ?_;clear hK K)
 refine Ac.val hwk ?_;simp;refine Ac.val h7 ?_;simp;try (refine hK _ rfl ?_;clear hK K)
 exact AW.ret (Af rfl _ (.same _) ⟨rfl,rfl⟩)
end Go.Av
end
section
namespace Go.Av
open Go.Proofs
theorem Qwy:Tryz.prog.underlying 40=some (.slice 124):=by kernel_rfl
theorem Qvo:Tryz.prog.underlying 124=some (.int .u32):=by kernel_rfl
theorem ty4:Tryz.prog.underlying 4=some .bool:=by kernel_rfl
theorem Qxc:Tryz.prog.cellsOf 124=1:=by kernel_rfl
theorem Qu9:Tryz.prog.cellsOf 44=4:=by kernel_rfl
theorem Qpv:Tryz.prog.cellsOf 42=2:=by kernel_rfl
theorem Qxd:Tryz.prog.cellsOf 40=1:=by kernel_rfl
theorem cl4:Tryz.prog.cellsOf 4=1:=by kernel_rfl
noncomputable def Qe0 (t:TypeId):Array Field:=match Tryz.prog.underlying t with
 |some (.struct fs)=>fs
 |_=>#[]
noncomputable def U2 (t:TypeId) (i:Nat):Option (TypeId × Nat):=((Qe0 t)[i]?).map fun f=>(f.type,f.offset)
theorem Qw8:Tryz.prog.underlying 44=some (.struct (Qe0 44)):=by kernel_rfl
theorem Qws:Tryz.prog.underlying 42=some (.struct (Qe0 42)):=by kernel_rfl
theorem Qt7:U2 44 0=some (42,0):=by kernel_rfl
theorem Quw:U2 44 1=some (42,2):=by kernel_rfl
theorem Qu5:U2 42 0=some (4,0):=by kernel_rfl
theorem Quo:U2 42 1=some (40,1):=by kernel_rfl
theorem Jc {t:TypeId} {i:Nat} {p:TypeId × Nat} (h:U2 t i=some p):∃f:Field,(Qe0 t)[i]?=some f∧f.type=p.1∧f.offset=p.2:=by
 unfold U2 at h;cases hf:(Qe0 t)[i]? with
 |none=>rw[hf]at h;cases h
 |some f=>rw[hf]at h;cases h;exact⟨f,rfl,rfl,rfl⟩
variable {H:Type} {enc:TypeId × Value→H} {W:World}
theorem Qcc {a:Addr} {v:Value} (h:W.cell? a=some v):a.block<W.heap.size:=by
 unfold World.cell? at h;rcases Nat.lt_or_ge a.block W.heap.size with hl | hl
 ·exact hl
 ·rw[Array.getElem?_eq_none hl]at h;simp at h
theorem Pb {l:List Nat} {i j:Nat} {u:AV} (h:Ay (Bg l) i j=some u):j=0∧i<l.length∧u=.int .u32 (nth l i:Nat):=by
 unfold Ay Bg at h;rw[List.getElem?_map]at h;cases hi:l[i]? with
 |none=>rw[hi]at h;cases h
 |some y =>
  rw[hi]at h;have hl:=(List.getElem?_eq_some_iff.1 hi).1;cases j with
  |zero =>
   cases h;refine⟨rfl,hl,?_⟩;unfold nth;rw[List.getD_eq_getElem?_getD,hi];rfl
  |succ k=>cases h
theorem Qia {fuel:Nat} {c:Value} {x:DataW H × List MemPlace} (h:DataW.trod enc Tryz.prog W 0 (fun _=>true) true fuel 40 [c]=some x):∃l,Lb l∧VR W (fun _=>False) (An l) c:=by
 rcases Go.ChangeShapes.open_ints Qwy Qvo Qxc h with⟨hc,_⟩|⟨a,len,cap,zs,hc,_,hl,hm,hz,_,hcell,hwf⟩
 ·simp only[List.cons.injEq,and_true]at hc;subst hc;exact⟨[],fun y hy=>(by cases hy),.sl0 1 none 0⟩
 ·simp only[List.cons.injEq,and_true]at hc;subst hc;simp at hz;rcases Nat.eq_zero_or_pos len with h0 | h0
  ·subst h0;exact⟨[],fun y hy=>(by cases hy),.sl0 1 (some a) cap⟩
  ·have h00:=hcell 0 (by omega);have hsp:=World.cell?_spot h00;have hbl:=Qcc h00;obtain⟨b,o,sp⟩:=a;simp[Addr.add]at hsp hbl;subst hsp;have hzl:∀i,i<len→0≤zs.getD i 0∧zs.getD i 0≤4294967295:=fun i hi=>by
    have:zs.getD i 0=zs[i]'(by omega):=by rw[List.getD_eq_getElem?_getD,List.getElem?_eq_getElem (by omega)];rfl
    rw[this];exact Go.bounds_u32 (hwf _ (List.getElem_mem _))
   refine⟨(List.range len).map fun i=>(zs.getD i 0).toNat,fun y hy=>?_,?_⟩
   ·obtain⟨i,hi,rfl⟩:=List.mem_map.1 hy;have:=hzl i (List.mem_range.1 hi);omega
   ·have e:((List.range len).map fun i=>(zs.getD i 0).toNat).length=len:=by simp
    have:=VR.sl (w:=W) (F:=fun _=>False) 1 (Bg ((List.range len).map fun i=>(zs.getD i 0).toNat)) b o cap (fun i _=>.int .u32 (zs.getD i 0)) (by simp) hbl (by simp;exact hl) (by
     intro v hv;obtain⟨y,_,rfl⟩:=List.mem_map.1 hv;rfl) ?_ ?_
    ·rw[Ke,e]at this;exact this
    ·intro i j u hu;obtain⟨rfl,q1,rfl⟩:=Pb hu;rw[e]at q1;have:=hzl i q1;have hn:nth ((List.range len).map fun i=>(zs.getD i 0).toNat) i=(zs.getD i 0).toNat:=by
      unfold nth;rw[List.getD_eq_getElem?_getD,List.getElem?_map,List.getElem?_range q1];rfl
     rw[hn,Int.toNat_of_nonneg this.1];exact .int _ _
    ·intro i j u hu;obtain⟨rfl,q1,rfl⟩:=Pb hu;rw[e]at q1;have:=hcell i (by omega);rcases Nat.eq_zero_or_pos i with h' | h'
     ·subst h';simpa[Addr.add]using this
     ·have h'':i≠0:=by omega
      simpa[Addr.add,h'']using this
set_option maxRecDepth 100000
theorem Wk {fuel:Nat} {cs:List Value} {x:DataW H × List MemPlace} (h:DataW.trod enc Tryz.prog W 0 (fun _=>true) true fuel 42 cs=some x):∃n l c,cs=[.bool n,c]∧Lb l∧VR W (fun _=>False) (An l) c:=by
 obtain⟨xs,n,_,rfl,hl,hlen,hf⟩:=DataW.trod_struct Qws h;rw[Qpv]at hl;obtain⟨c0,c1,rfl⟩:∃c0 c1,cs=[c0,c1]:=by
  match cs,hl with
  |[c0,c1],_=>exact⟨c0,c1,rfl⟩
 obtain⟨f0,g1,g2,g3⟩:=Jc Qu5;obtain⟨f1,k1,k2,k3⟩:=Jc Quo;have h0:=hf 0 f0 g1;have h1:=hf 1 f1 k1;simp only at g2 g3 k2 k3;rw[g2,g3,cl4]at h0;rw[k2,k3,Qxd]at h1;have hs:xs.length=2:=by rw[hlen];kernel_rfl
 obtain⟨b,hb,_⟩:=DataW.trod_bool ty4 (h0.trans (List.getElem?_eq_getElem (by omega)));obtain⟨l,hl1,hl2⟩:=Qia (h1.trans (List.getElem?_eq_getElem (by omega)));simp at hb;exact⟨b,l,c1,by rw[hb],hl1,hl2⟩
theorem Qga {fuel:Nat} {cs:List Value} {x:DataW H × List MemPlace} (h:DataW.trod enc Tryz.prog W 0 (fun _=>true) true fuel 44 cs=some x):∃r:RR,r.Lb∧cs.length=4∧∀(j:Nat) (u:AV),r.av.cells[j]?=some u→∃c,cs[j]?=some c∧VR W (fun _=>False) u c:=by
 obtain⟨xs,n,_,rfl,hl,hlen,hf⟩:=DataW.trod_struct Qw8 h;rw[Qu9]at hl;obtain⟨c0,c1,c2,c3,rfl⟩:∃c0 c1 c2 c3,cs=[c0,c1,c2,c3]:=by
  match cs,hl with
  |[c0,c1,c2,c3],_=>exact⟨c0,c1,c2,c3,rfl⟩
 obtain⟨f0,g1,g2,g3⟩:=Jc Qt7;obtain⟨f1,k1,k2,k3⟩:=Jc Quw;have h0:=hf 0 f0 g1;have h1:=hf 1 f1 k1;simp only at g2 g3 k2 k3;rw[g2,g3,Qpv]at h0;rw[k2,k3,Qpv]at h1;have hs:xs.length=2:=by rw[hlen];kernel_rfl
 obtain⟨n1,l1,d1,e1,b1,v1⟩:=Wk (h0.trans (List.getElem?_eq_getElem (by omega)));obtain⟨n2,l2,d2,e2,b2,v2⟩:=Wk (h1.trans (List.getElem?_eq_getElem (by omega)));simp at e1 e2;obtain⟨rfl,rfl⟩:=e1;obtain⟨rfl,rfl⟩:=e2;refine⟨⟨n1,l1,n2,l2⟩,⟨b1,b2⟩,rfl,fun j u hu=>?_⟩
 match j,hu with
 |0,hu=>cases hu;exact⟨_,rfl,.bool _⟩
 |1,hu=>cases hu;exact⟨_,rfl,v1⟩
 |2,hu=>cases hu;exact⟨_,rfl,.bool _⟩
 |3,hu=>cases hu;exact⟨_,rfl,v2⟩
 |k+4,hu=>cases hu
end Go.Av
end
section
namespace Go.Av
open Go.Proofs
variable {H:Type} {enc:TypeId × Value→H} {W:World}
theorem Q3 {α:Type} [Inhabited α] {n:Nat} {p:Nat→α→Prop} (h:∀i,i<n→∃a,p i a):∃f:Nat→α,∀i,i<n→p i (f i):=by
 classical
 exact⟨fun i=>if hi:i<n then Classical.choose (h i hi) else default,fun i hi=>by
  simp only[dif_pos hi];exact Classical.choose_spec (h i hi)⟩
theorem Qe3 (b o i j:Nat):((⟨b,o,none⟩:Addr).add i).add j=⟨b,o+(i+j),none⟩:=by
 by_cases hi:i=0
 ·subst hi;by_cases hj:j=0
  ·subst hj;simp[Addr.add]
  ·simp[Addr.add,hj]
 ·by_cases hj:j=0
  ·subst hj;simp[Addr.add,hi]
  ·simp[Addr.add,hi,hj,Nat.add_assoc]
end Go.Av
end
section
namespace Go.Av
open Go.Proofs
theorem ty22:Tryz.prog.underlying 22=some (.slice 46):=by kernel_rfl
theorem ty3:Tryz.prog.underlying 3=some (.int .i64):=by kernel_rfl
theorem Qxa:Tryz.prog.underlying 46=some (.struct (Qe0 46)):=by kernel_rfl
theorem Qt3:Tryz.prog.cellsOf 46=6:=by kernel_rfl
theorem cl3:Tryz.prog.cellsOf 3=1:=by kernel_rfl
theorem Qun:U2 46 0=some (3,0):=by kernel_rfl
theorem Qty:U2 46 1=some (3,1):=by kernel_rfl
theorem Qu6:U2 46 2=some (44,2):=by kernel_rfl
variable {H:Type} {enc:TypeId × Value→H} {W:World}
set_option maxRecDepth 100000
theorem Vt {fuel:Nat} {c:Value} {x:DataW H × List MemPlace} (h:DataW.trod enc Tryz.prog W 0 (fun _=>true) true fuel 3 [c]=some x):∃n:Int,c=.int .i64 n∧-9223372036854775808≤n∧n<9223372036854775808:=by
 obtain⟨n,h1,_,h2⟩:=DataW.trod_int ty3 h;have:=bounds_i64 h2;simp at h1;exact⟨n,h1,this.1,by omega⟩
theorem Qd2 {fuel:Nat} {cs:List Value} {x:DataW H × List MemPlace} (h:DataW.trod enc Tryz.prog W 0 (fun _=>true) true fuel 46 cs=some x):∃e:RE,e.sq.Lb∧cs.length=6∧∀(j:Nat) (u:AV),e.av.cells[j]?=some u→∃c,cs[j]?=some c∧VR W (fun _=>False) u c:=by
 obtain⟨xs,n,_,rfl,hl,hlen,hf⟩:=DataW.trod_struct Qxa h;rw[Qt3]at hl;obtain⟨c0,c1,c2,c3,c4,c5,rfl⟩:∃c0 c1 c2 c3 c4 c5,cs=[c0,c1,c2,c3,c4,c5]:=by
  match cs,hl with
  |[c0,c1,c2,c3,c4,c5],_=>exact⟨c0,c1,c2,c3,c4,c5,rfl⟩
 obtain⟨f0,g1,g2,g3⟩:=Jc Qun;obtain⟨f1,k1,k2,k3⟩:=Jc Qty;obtain⟨f2,l1,l2,l3⟩:=Jc Qu6;have h0:=hf 0 f0 g1;have h1:=hf 1 f1 k1;have h2:=hf 2 f2 l1;simp only at g2 g3 k2 k3 l2 l3;rw[g2,g3,cl3]at h0;rw[k2,k3,cl3]at h1;rw[l2,l3,Qu9]at h2;have hs:xs.length=3:=by rw[hlen];kernel_rfl
 obtain⟨a,e0,_⟩:=Vt (h0.trans (List.getElem?_eq_getElem (by omega)));obtain⟨b,e1,_⟩:=Vt (h1.trans (List.getElem?_eq_getElem (by omega)));obtain⟨r,q1,_,q3⟩:=Qga (h2.trans (List.getElem?_eq_getElem (by omega)));subst e0 e1;refine⟨⟨a,b,r⟩,q1,rfl,fun j u hu=>?_⟩
 match j,hu with
 |0,hu=>cases hu;exact⟨_,rfl,.int _ _⟩
 |1,hu=>cases hu;exact⟨_,rfl,.int _ _⟩
 |2,hu=>exact q3 0 u hu
 |3,hu=>exact q3 1 u hu
 |4,hu=>exact q3 2 u hu
 |5,hu=>exact q3 3 u hu
 |k+6,hu=>cases hu
theorem Sa {fuel:Nat} {c:Value} {x:DataW H × List MemPlace} (h:DataW.trod enc Tryz.prog W 0 (fun _=>true) true fuel 22 [c]=some x):∃es:List RE,LbE es∧VR W (fun _=>False) (A3 es) c:=by
 rcases Go.Deep.open_slice ty22 h with⟨hc,_⟩|⟨a,len,cap,m,n,D,Pl,hc,_,hl,hm,hmm,_,hx⟩
 ·simp only[List.cons.injEq,and_true]at hc;subst hc;exact⟨[],fun y hy=>(by cases hy),.sl0 6 none 0⟩
 ·simp only[List.cons.injEq,and_true]at hc;subst hc;simp at hmm;subst hmm;rcases Nat.eq_zero_or_pos len with h0 | h0
  ·subst h0;exact⟨[],fun y hy=>(by cases hy),.sl0 6 (some a) m⟩
  ·rw[Qt3]at hx;obtain⟨C,hC⟩:=Q3 (α:=List Value) (p:=fun i cs=>W.cells? 0 (a.add (i*6)) 6=some cs∧DataW.trod enc Tryz.prog W 0 (fun _=>true) true n 46 cs=some (D i,Pl i)) (n:=len) (fun i hi=>hx i (by omega));obtain⟨R,hR⟩:=Q3 (α:=RE) (n:=len) (fun i hi=>Qd2 (hC i hi).2);have hcell:∀i,i<len→∀j,j<6→W.cell? ((a.add (i*6)).add j)=(C i)[j]?:=fun i hi=>(World.cells?_some (hC i hi).1).2.2;obtain⟨c00,hc00,_⟩:=(hR 0 h0).2.2 0 (.int .i64 (R 0).a) rfl;have h00:=(hcell 0 h0 0 (by omega)).trans hc00;have hsp:=World.cell?_spot h00
   have hbl:=Qcc h00;obtain⟨b,o,sp⟩:=a;simp[Addr.add]at hsp hbl;subst hsp;have hcellAt:∀i j u,Ay (D0 ((List.range len).map R)) i j=some u→i<len∧(R i).av.cells[j]?=some u:=by
    intro i j u hu;unfold Ay D0 at hu;rw[List.map_map,List.getElem?_map]at hu;by_cases hi:i<len
    ·rw[List.getElem?_range hi]at hu;exact⟨hi,hu⟩
    ·rw[List.getElem?_eq_none (by simp;omega)]at hu;cases hu
   refine⟨(List.range len).map R,fun y hy=>?_,?_⟩
   ·obtain⟨i,hi,rfl⟩:=List.mem_map.1 hy;exact(hR i (List.mem_range.1 hi)).1
   ·have:=VR.sl (w:=W) (F:=fun _=>False) 6 (D0 ((List.range len).map R)) b o m (fun i j=>((C i)[j]?).getD (.bool false)) (by simp) hbl (by simp;exact hl) (by
     intro v hv;obtain⟨y,_,rfl⟩:=List.mem_map.1 hv;rfl) (fun i j u hu=>by
      obtain⟨hi,hu⟩:=hcellAt i j u hu;obtain⟨c,q1,q2⟩:=(hR i hi).2.2 j u hu;rw[q1];exact q2) (fun i j u hu=>by
      obtain⟨hi,hu⟩:=hcellAt i j u hu;obtain⟨c,q1,q2⟩:=(hR i hi).2.2 j u hu;have hj:j<6:=by
       have:=(List.getElem?_eq_some_iff.1 q1).1;rw[(hR i hi).2.1]at this;exact this
      have:=hcell i hi j hj;rw[Qe3,q1]at this;rw[this,q1];rfl)
    rw[Qa4,List.length_map,List.length_range]at this;exact this
def vrl (W:World):List AV→List Value→Prop
 |[],[]=>True
 |x::xs,c::cs=>VR W (fun _=>False) x c∧vrl W xs cs
 |_,_=>False
theorem Qck:∀{xs:List AV} {cs:List Value},vrl W xs cs→cs.length=xs.length∧∀(j:Nat) u v,xs[j]?=some u→cs[j]?=some v→VR W (fun _=>False) u v
 |[],[],_=>⟨rfl,fun j u v h=>by cases h⟩
 |x::xs,c::cs,h=>by
  obtain⟨h1,h2⟩:=Qck h.2;refine⟨by simp[h1],fun j u v hu hv=>?_⟩
  match j,hu,hv with
  |0,hu,hv=>cases hu;cases hv;exact h.1
  |k+1,hu,hv=>exact h2 k u v hu hv
 |[],_::_,h=>h.elim
 |_::_,[],h=>h.elim
theorem Up {f:FuncId} {xs:List AV} (hf:Aj Tryz.prog f xs Aa.emp fun v mm=>v=.bool true∧mm=Aa.emp) {cs:List Value} (hx:vrl W xs cs) :
  Calls Tryz.prog f cs.toArray W fun e W'=>e=.returned (.bool true)∧RowKit.Below W.heap.size W W':=by
 have hO:Cg (fun _=>False) Aa.emp=fun _=>False:=by funext b;simp[Cg,Aa.emp]
 obtain⟨h1,h2⟩:=Qck hx;refine(hf.2 W (fun _=>False) cs.toArray (fun b hb=>hb.elim) (fun b x hx=>by cases hx) ?_).mono ?_
 ·rw[hO];exact⟨by simpa using h1,fun j u v hu hv'=>h2 j u v hu (by simpa using hv')⟩
 ·rintro e W' ⟨v,cv,g',rfl,⟨rfl,_⟩,_,hvr,hg,_⟩;cases hvr;exact⟨rfl,⟨hg.os,hg.tape,hg.output,hg.size,fun k hk=>hg.block k hk (by simp[Aa.emp])⟩⟩
end Go.Av
end
