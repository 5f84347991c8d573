/- A part of the proof. -/
import Derived.Test.YthflocfaafoohaaGreatP4
import Derived.ProofKit
import Derived.OpenShut
import Derived.Deep.Slices
set_option linter.all false
set_option exponentiation.threshold 5000
set_option maxRecDepth 10000
section
namespace Go.Av
open Go.Proofs
theorem Ld (n:Int) (h1:-9223372036854775808≤n) (h2:n<9223372036854775808):Ai Tryz.prog 157 [.int .i64 n] Ac.emp fun v m=>v=(Aq (Kw n)).av∧m=Ac.emp:=by
 have ho:=T0 n 1 h1 h2 (by omega) (by omega) (by omega);have e:Rat.divInt n 1=Kw n:=rfl;rw[e,C0]at ho;generalize Kw n=q at *;unfold Gl at ho;unfold RR.av Aq;simp only;refine Ad Tryz.func157 rfl rfl 11 rfl (Nat.le_of_ble_eq_true rfl) ?_;(repeat refine AW.seq_k fun K hK=>?_);refine AW.rg ?_;simp[Al];try (refine hK _ rfl ?_;clear hK K)
 refine Af.intro fun b2 hb2=>?_;refine hK _ rfl ?_;clear hK K;(repeat refine AW.seq_k fun K hK=>?_);refine AW.rg ?_;simp;try (refine hK _ rfl ?_;clear hK K)
 refine Aa.val ho ?_;simp;refine Af.intro fun b3 hb3=>?_;simp only[Am,Aw,and_true]at hb3;try simp[hb3]
 refine hK _ rfl ?_;clear hK K;(repeat refine AW.seq_k fun K hK=>?_);refine AW.rg ?_;simp[hb3];try (refine hK _ rfl ?_;clear hK K)
 exact AW.ret (Ae (vs:=[.agg [.bool (decide (q.num<0)),Ao (Ar q.num.natAbs),.bool false,Ao (Ar q.den)]]) [.agg [.bool (decide (q.num<0)),Ao (Ar q.num.natAbs),.bool false,Ao (Ar q.den)]] (by simp[hb3]) (by simp) ⟨rfl,rfl⟩)
theorem Qc2 (l:List Nat) (n:Nat) (hl:l.length<2^40):Ai Tryz.prog 155 [.sl 1 (Ax l),.int .i64 n] Ac.emp fun v m=>v=.bool (decide (n∈l))∧m=Ac.emp:=by
 refine Ad Tryz.func155 rfl rfl 18 rfl (Nat.le_of_ble_eq_true rfl) ?_;(repeat refine AW.seq_k fun K hK=>?_);refine AW.rg ?_;simp[Al];try (refine hK _ rfl ?_;clear hK K)
 refine AW.seq_ex (ι:=Unit) (fun _=>[]) (fun _=>Ac.emp) (fun _=>n ∉ l) ?_ ?_
 ·(repeat refine AW.seq_k fun K hK=>?_);refine AW.rg ?_;simp;try (refine hK _ rfl ?_;clear hK K)
  refine AW.block (AW.loopS (ι:=Nat) (fun i=>[(0,.sl 1 (Ax l)),(1,.int .i64 n),(5,.int .i64 (i:Nat))]) (fun _=>Ac.emp) (fun i=>i≤l.length∧∀k,k<i→l.getD k 0≠n) (fun i=>l.length-i) 0 ⟨by simp,by simp⟩ rfl (by simp) ?_);rintro i ⟨g1,g2⟩;(repeat refine AW.seq_k fun K hK=>?_);refine AW.rg ?_;simp;try (refine hK _ rfl ?_;clear hK K)
  (repeat refine AW.seq ?_);refine AW.cs (fun hi=>?_) (fun hi=>?_) rfl<;>(try simp at hi)
  ·refine AW.skip ?_;try simp
   refine hK _ rfl ?_;clear hK K;have w1:=Au (i+1) (by omega);have e1:l.getD i 0=l[i]:=by rw[List.getD_eq_getElem?_getD,List.getElem?_eq_getElem hi];rfl
   refine AW.seq_ex (ι:=Unit) (fun _=>[(0,.sl 1 (Ax l)),(1,.int .i64 n),(5,.int .i64 (i:Nat))]) (fun _=>Ac.emp) (fun _=>l[i]≠n) ?_ ?_
   ·(repeat refine AW.seq ?_);refine AW.block ?_;(repeat refine AW.seq_k fun K hK=>?_);refine AW.rg ?_;simp[hi];try (refine hK _ rfl ?_;clear hK K)
    by_cases h0:l[i]=n
    ·refine AW.yes ?_ (by simp[h0]);(repeat refine AW.seq_k fun K hK=>?_);refine AW.rg ?_;simp;try (refine hK _ rfl ?_;clear hK K)
     have hmem:n∈l:=by rw[←h0];exact List.getElem_mem hi
     exact AW.ret (Ae (vs:=[.bool true]) [.bool true] (by simp) (by simp) ⟨by simp[Av.oneOrTup,hmem],rfl⟩)
    ·refine AW.no ?_ (by simp[h0]);exact AW.skip ⟨(),h0,by simp⟩
   rintro _ h0;(repeat refine AW.seq_k fun K hK=>?_);refine AW.rg ?_;simp[-Int.natCast_add,w1];try (refine hK _ rfl ?_;clear hK K)
   refine⟨⟨hi,fun k hk=>?_⟩,by omega⟩;rcases Nat.lt_succ_iff_lt_or_eq.1 hk with h | rfl
   ·exact g2 k h
   ·rw[←List.getD_eq_getElem?_getD,e1];exact h0
  ·refine AW.exit ?_;try simp
   intro hmem;obtain⟨k,hk,e⟩:=List.mem_iff_getElem.1 hmem;refine g2 k (by omega) ?_;rw[List.getD_eq_getElem?_getD,List.getElem?_eq_getElem hk];exact e
 rintro _ hno;(repeat refine AW.seq_k fun K hK=>?_);refine AW.rg ?_;simp;try (refine hK _ rfl ?_;clear hK K)
 exact AW.ret (Ae (vs:=[.bool false]) [.bool false] (by simp) (by simp) ⟨by simp[Av.oneOrTup,hno],rfl⟩)
def Qbi (n:Nat) (v:AV) (M:Ac):Prop:=(n=0∧v=.nil∧M=Ac.emp)∨∃b,v=.osl b 4 0 n∧M=Ac.emp.set b ⟨44,4,Bg (List.replicate n (Aq 0))⟩
theorem Qcn (n:Nat) (hn:n<2^30):Ai Tryz.prog 156 [.int .i64 n] Ac.emp (Qbi n):=by
 have hw:=Ld 0 (by omega) (by omega);rw[F7]at hw;refine Ad Tryz.func156 rfl rfl 15 rfl (Nat.le_of_ble_eq_true rfl) ?_;(repeat refine AW.seq_k fun K hK=>?_);refine AW.rg ?_;simp[Al];try (refine hK _ rfl ?_;clear hK K)
 (repeat refine AW.seq_k fun K hK=>?_);refine AW.rg ?_;simp;try (refine hK _ rfl ?_;clear hK K)
 refine AW.seq_ex (ι:=AV × Ac) (fun z=>[(3,z.1)]) (fun z=>z.2) (fun z=>Qbi n z.1 z.2) ?_ ?_
 ·(repeat refine AW.seq_k fun K hK=>?_);refine AW.rg ?_;simp;try (refine hK _ rfl ?_;clear hK K)
  refine AW.block (AW.loopS (ι:=Nat × AV × Ac) (fun z=>[(0,.int .i64 n),(3,z.2.1),(4,.int .i64 (z.1:Nat))]) (fun z=>z.2.2) (fun z=>z.1≤n∧Qbi z.1 z.2.1 z.2.2) (fun z=>n-z.1) (0,.nil,Ac.emp) ⟨by simp,.inl ⟨rfl,rfl,rfl⟩⟩ rfl (by simp) ?_);rintro⟨i,v,M⟩ ⟨g1,g2⟩;simp only at g1 g2;(repeat refine AW.seq_k fun K hK=>?_);refine AW.rg ?_;simp;try (refine hK _ rfl ?_;clear hK K)
  (repeat refine AW.seq ?_);refine AW.cs (fun hi=>?_) (fun hi=>?_) rfl<;>(try simp at hi)
  ·refine AW.skip ?_;try simp
   refine hK _ rfl ?_;clear hK K;have w1:=Au (i+1) (by omega);refine AW.seq_ex (ι:=AV × Ac) (fun z=>[(0,.int .i64 n),(3,z.1),(4,.int .i64 (i:Nat))]) (fun z=>z.2) (fun z=>Qbi (i+1) z.1 z.2) ?_ ?_
   ·(repeat refine AW.seq ?_);refine AW.block ?_;rcases g2 with⟨z1,z2,z3⟩ | ⟨b0,z2,z3⟩
    ·subst z1 z2 z3;(repeat refine AW.seq_k fun K hK=>?_);refine AW.rgR [12] ?_;simp;try (refine hK _ rfl ?_;clear hK K)
     refine Aa.val hw ?_;simp;exact⟨by unfold maxLen;omega,Af.intro fun b hb=>⟨_,_,.inr ⟨b,rfl,rfl⟩,rfl,rfl⟩⟩
    ·subst z2 z3;(repeat refine AW.seq_k fun K hK=>?_);refine AW.rgR [12] ?_;simp;try (refine hK _ rfl ?_;clear hK K)
     refine Aa.val hw ?_;simp;exact⟨by omega,by unfold maxLen;omega,Af.intro fun b hb=>⟨_,_,.inr ⟨b,rfl,rfl⟩,by rw[List.replicate_succ'];simp[Bg],rfl⟩⟩
   rintro⟨v,M⟩ hs;(repeat refine AW.seq_k fun K hK=>?_);refine AW.rg ?_;simp[-Int.natCast_add,w1];try (refine hK _ rfl ?_;clear hK K)
   exact⟨i+1,v,M,⟨hi,hs⟩,by omega,by simp⟩
  ·refine AW.exit ?_;try simp
   have:i=n:=by omega
   subst this;exact⟨v,M,g2,rfl,rfl⟩
 rintro⟨v,M⟩ hs;simp only at hs;(repeat refine AW.seq_k fun K hK=>?_);refine AW.rg ?_;simp;try (refine hK _ rfl ?_;clear hK K)
 refine AW.ret (Bo rfl ?_ hs);rcases hs with⟨_,_,z3⟩ | ⟨b,_,z3⟩
 ·intro b y hy;rw[z3]at hy;cases hy
 ·rw[z3];exact Du.set (fun c y hy=>by cases hy) b (Gc _)
theorem Qgc (n:Nat) (h0:0<n) (hn:n<2^30):Ai Tryz.prog 156 [.int .i64 n] Ac.emp fun v m=>∃b x,(v=.osl b 4 0 n∧x=⟨44,4,Bg (List.replicate n (Aq 0))⟩)∧m=Ac.emp.set b x:=by
 refine(Qcn n hn).mono ?_;rintro v m (⟨h,_⟩ | ⟨b,h1,h2⟩)
 ·omega
 ·exact⟨b,_,⟨h1,rfl⟩,h2⟩
structure Fj (M:Ac) (ty:TypeId) (z:Nat) (ov:AV) (ob:List Nat) (l:List AV):Prop where
 lst:Kz M ty z ov ob l
 only:Dc M ob
section
variable {M:Ac} {ov:AV} {ty:TypeId} {z:Nat} {ob:List Nat} {l:List AV}
theorem Fj.start (ty:TypeId) (z:Nat):Fj Ac.emp ty z .nil [] []:=⟨.inl ⟨rfl,rfl,rfl⟩,fun _ h=>absurd rfl h⟩
theorem Fj.ones (h:Fj M ty z ov ob l) (hl:∀v∈l,v.cells.all AV.one=true):Du M:=by
 intro b y hy;have hb:=h.only b (by rw[hy];simp);rcases h.lst with⟨_,h1,_⟩ | ⟨b',h1,_,h3⟩
 ·rw[h1]at hb;cases hb
 ·rw[h1]at hb;simp at hb;subst hb;rw[h3]at hy;cases hy;exact hl
theorem Fj.push0 (h:Fj M ty z .nil [] []) (b:Nat) (v:AV):Fj (M.set b ⟨ty,z,[v]⟩) ty z (.osl b z 0 1) [b] [v] :=
 ⟨.inr ⟨b,rfl,rfl,by simp⟩,(h.only.sub fun a ha=>by cases ha).set (by simp) _⟩
theorem Fj.push1 {b0:Nat} (h:Fj M ty z (.osl b0 z 0 l.length) [b0] l) (b:Nat) (v:AV):Fj ((M.del b0).set b ⟨ty,z,l++[v]⟩) ty z (.osl b z 0 (l.length+1)) [b] (l++[v]):=by
 refine⟨.inr ⟨b,rfl,by simp,by simp⟩,Dc.set (l:=[b]) (fun a ha=>?_) (by simp) _⟩;by_cases h1:a=b0
 ·subst h1;exact absurd (if_pos rfl) ha
 ·have e:(M.del b0) a=M a:=if_neg h1;rw[e]at ha;have:=h.only a ha;simp at this;exact absurd this h1
end
theorem Zv {m:List (List RR)} (hm:Sb m) (h0:(Ei m).1=0):(Aj m 0).length≤64∧m.length≤64∧∃Y ps,Ei m=(0,Y,ps)∧Iv m.length (Aj m 0).length (Aj m 0).length (Y,ps)∧ps.Pairwise (·<·):=by
 have hck:Uz m=0:=by
  by_cases h:Uz m=0
  ·exact h
  ·unfold Ei at h0;rw[if_pos h]at h0;exact absurd h0 h
 obtain⟨h1,h2,h3,h4,h5⟩:=Sg hm hck;have h5:(Aj m 0).length≤64:=by rw[G3,List.length_map]at h5;exact h5
 refine⟨h5,h4,?_⟩;unfold Ei at h0 ⊢;rw[if_neg (by simp[hck])]at h0 ⊢;cases hq:Ep (P9 m)with
 |none=>rw[hq]at h0;exact absurd h0 (by simp)
 |some z =>
  have e0:(Aj (P9 m) 0).length=(Aj m 0).length:=by rw[G3,List.length_map]
  have k1:=Li (n:=m.length) (w:=(Aj m 0).length) ⟨h2,e0 ▸ h3,Fv m⟩ hq;rw[e0]at k1;refine⟨z.1,z.2,rfl,k1,?_⟩;exact Lx (n:=m.length) (w:=(Aj m 0).length) (z0:=(P9 m,[])) ⟨⟨h2,e0 ▸ h3,Fv m⟩,by simp,by simp,by simp⟩ (by simp) hq
structure Qg where
 M:Ac
 ov:AV
 ob:List Nat
def T2 (Y:List (List Rat)) (ps:List Nat) (w j:Nat) (s:Qg):Prop:=Fj s.M 51 1 s.ov s.ob ((Be (F9 Y ps w j)).map An)
theorem Gt (X:List (List Rat)):∀v∈(Be X).map An,v.cells.all AV.one=true:=by
 intro v hv;obtain⟨r,_,rfl⟩:=List.mem_map.1 hv;rfl
theorem Yi (m:List (List RR)) (hm:Sb m):Ai Tryz.prog 107 [Ap m] Ac.emp fun v mm=>v=.tup [Ap (Be (K3 m).2),.int .i64 (K3 m).1]∧mm=Ac.emp:=by
 have hr:=Yj m hm;have hwid:=Oz m;by_cases h0:(Ei m).1=0
 ·have hK:K3 m=(0,F9 (Ei m).2.1 (Ei m).2.2 (Aj m 0).length (Aj m 0).length):=if_neg (by simp[h0]);obtain⟨h5,h4,Y,ps,hred,⟨⟨y1,y2,y3⟩,y4,y5,y6⟩,y7⟩:=Zv hm h0;simp only at y1 y2 y3 y4 y5 y6;rw[hK];rw[hred]at hr ⊢;simp only at hr ⊢;clear hK;generalize hw:(Aj m 0).length=w at *;have hone:=Ld 1 (by omega) (by omega);have hzero:=Ld 0 (by omega) (by omega);rw[Io]at hone;rw[F7]at hzero;refine Ad Tryz.func107 rfl rfl 71 rfl (Nat.le_of_ble_eq_true rfl) ?_;(repeat refine AW.seq_k fun K hK=>?_);refine AW.rg ?_;simp[Al]
  try (refine hK _ rfl ?_;clear hK K)
  (repeat refine AW.seq_k fun K hK=>?_);refine AW.rg ?_;simp;try (refine hK _ rfl ?_;clear hK K)
  refine Aa.val hr ?_;simp;refine hK _ rfl ?_;clear hK K;(repeat refine AW.seq_k fun K hK=>?_);refine AW.rg ?_;simp;try (refine hK _ rfl ?_;clear hK K)
  refine AW.no ?_ rfl;refine AW.skip ?_;try simp
  refine hK _ rfl ?_;clear hK K;(repeat refine AW.seq_k fun K hK=>?_);refine AW.rg ?_;simp;try (refine hK _ rfl ?_;clear hK K)
  refine AW.seq_ex (ι:=Qg) (fun z=>[(7,z.ov)]) (fun z=>z.M) (fun z=>T2 Y ps w w z) ?_ ?_
  ·(repeat refine AW.seq_k fun K hK=>?_);refine AW.rg ?_;simp;try (refine hK _ rfl ?_;clear hK K)
   refine AW.block (AW.loopS (ι:=Nat × Qg) (fun z=>[(0,Ap m),(4,Ap (Be Y)),(5,.sl 1 (Ax ps)),(7,z.2.ov),(8,.int .i64 (z.1:Nat))]) (fun z=>z.2.M) (fun z=>z.1≤w∧T2 Y ps w z.1 z.2) (fun z=>w-z.1) (0,⟨Ac.emp,.nil,[]⟩) ⟨by simp,Fj.start _ _⟩ rfl (by simp) ?_);rintro⟨j,M,ov,ob⟩ ⟨g1,g2⟩;simp only at g1 g2;simp only;(repeat refine AW.seq_k fun K hK=>?_);refine AW.rg ?_;simp;try (refine hK _ rfl ?_;clear hK K)
   refine Aa.val hwid ?_;simp;refine hK _ rfl ?_;clear hK K;(repeat refine AW.seq ?_);refine AW.cs (fun hj=>?_) (fun hj=>?_) rfl<;>(try simp at hj)
   ·refine AW.skip ?_;try simp
    refine hK _ rfl ?_;clear hK K;have w1:=Au (j+1) (by omega);have ham:=Qc2 ps j (by omega);refine AW.seq_ex (ι:=Qg) (fun s=>[(0,Ap m),(4,Ap (Be Y)),(5,.sl 1 (Ax ps)),(7,s.ov),(8,.int .i64 (j:Nat))]) (fun s=>s.M) (fun s=>T2 Y ps w (j+1) s) ?_ ?_
    ·(repeat refine AW.seq ?_);refine AW.block ?_;(repeat refine AW.seq_k fun K hK=>?_);refine AW.rg ?_;simp;try (refine hK _ rfl ?_;clear hK K)
     refine Aa.val ham ?_;simp;refine hK _ rfl ?_;clear hK K;by_cases hnm:j∈ps
     ·refine AW.yes ?_ (by simp[hnm]);refine AW.exit ?_;try simp
      refine⟨⟨M,ov,ob⟩,?_,by simp⟩;unfold T2;rw[Md,if_pos hnm];exact g2
     ·refine AW.no ?_ (by simp[hnm]);refine AW.skip ?_;try simp
      refine hK _ rfl ?_;clear hK K;have hz:=Qgc w (by omega) (by omega);(repeat refine AW.seq_k fun K hK=>?_);refine AW.rg ?_;simp;try (refine hK _ rfl ?_;clear hK K)
      refine Aa.val hwid ?_;simp;refine Aa.make hz ?_;rintro bv _ _ ⟨rfl,rfl⟩ hbv _;simp;refine hK _ rfl ?_;clear hK K;(repeat refine AW.seq_k fun K hK=>?_);refine AW.rg ?_;simp;try (refine hK _ rfl ?_;clear hK K)
      refine Aa.val hone ?_;simp[hj];refine hK _ rfl ?_;clear hK K;generalize hv0:(List.replicate w (0:Rat)).set j 1=v0 at *;have hv0l:v0.length=w:=by rw[←hv0];simp
      have hv0e:(Bg (List.replicate w (Aq 0))).set j (Aq 1).av=Bg (v0.map Aq):=by
       rw[Er,←hv0,List.map_set,List.map_replicate]
      refine AW.seq_ex (ι:=Unit) (fun _=>[(0,Ap m),(4,Ap (Be Y)),(5,.sl 1 (Ax ps)),(7,ov),(8,.int .i64 (j:Nat)),(9,.osl bv 4 0 w)]) (fun _=>M.set bv ⟨44,4,Bg ((P2 Y ps w j).map Aq)⟩) (fun _=>True) ?_ ?_
      ·(repeat refine AW.seq_k fun K hK=>?_);refine AW.rg ?_;simp;try (refine hK _ rfl ?_;clear hK K)
       refine AW.block (AW.loopS (ι:=Nat) (fun k=>[(0,Ap m),(4,Ap (Be Y)),(5,.sl 1 (Ax ps)),(7,ov),(8,.int .i64 (j:Nat)),(9,.osl bv 4 0 w),(10,.int .i64 (k:Nat))]) (fun k=>M.set bv ⟨44,4,Bg ((Le Y ps j k v0).map Aq)⟩) (fun k=>k≤ps.length) (fun k=>ps.length-k) 0 (by simp) ?_ (by simp) ?_)
       ·rw[Er]at hv0e;rw[hv0e];rfl
       rintro k q1;(repeat refine AW.seq_k fun K hK=>?_);refine AW.rg ?_;simp;try (refine hK _ rfl ?_;clear hK K)
       (repeat refine AW.seq ?_);refine AW.cs (fun hk=>?_) (fun hk=>?_) rfl<;>(try simp at hk)
       ·refine AW.skip ?_;try simp
        refine hK _ rfl ?_;clear hK K;have hkY:k<Y.length:=by omega
        have hkE:k<(Be Y).length:=by rw[A1];exact hkY
        have hlk:(Aj (Be Y) k).length=w:=by rw[Bq,List.length_map];exact y2 k hkY
        have hjl:j<(Aj Y k).length:=by rw[y2 k hkY];exact hj
        have hel:rr (Aj (Be Y) k) j=Aq (B4 Y k j):=by rw[Bq,Ew hjl];rfl
        have hgd:Bu (B4 Y k j):=y1.at hjl;obtain⟨n1,n2⟩:=Uq hgd;have hpk:ps.getD k 0=ps[k]:=by rw[List.getD_eq_getElem?_getD,List.getElem?_eq_getElem hk];rfl
        have hpw:ps[k]<w:=y6 _ (List.getElem_mem hk);have hlf:(Le Y ps j k v0).length=w:=by rw[Ix,hv0l]
        have w3:=Au (k+1) (by omega);have hsub:=H1 0 (B4 Y k j) Me hgd;rw[n1]at hsub;simp only[C0]at hsub;have hkn:Le Y ps j (k+1) v0=(Le Y ps j k v0).set (ps.getD k 0) (-(B4 Y k j)):=rfl;rw[hpk]at hkn;generalize -(B4 Y k j)=nq at *;have hones:Du (M.set bv ⟨44,4,Bg ((Le Y ps j k v0).map Aq)⟩):=(g2.ones (Gt _)).set bv (Gc ((Le Y ps j k v0).map Aq));refine AW.seq_ex (ι:=Unit) (fun _=>[(0,Ap m),(4,Ap (Be Y)),(5,.sl 1 (Ax ps)),(7,ov),(8,.int .i64 (j:Nat)),(9,.osl bv 4 0 w),(10,.int .i64 (k:Nat))]) (fun _=>M.set bv ⟨44,4,Bg ((Le Y ps j (k+1) v0).map Aq)⟩) (fun _=>True) ?_ ?_
        ·(repeat refine AW.seq ?_);refine AW.block ?_;(repeat refine AW.seq_k fun K hK=>?_);refine AW.rd [1,2,3,4,5,6,7,0,8,9,10,11,12,13,14] C6 ?_;simp[hkE,hlk,hj,hel];try (refine hK _ rfl ?_;clear hK K)
         refine Aa.val hzero ?_;simp;refine Aa.val hsub ?_;simp[Gl];refine Af.intro fun b11 hb11=>?_;refine hK _ rfl ?_;clear hK K;refine AW.turn [(0,Ap m),(4,Ap (Be Y)),(5,.sl 1 (Ax ps)),(7,ov),(8,.int .i64 (j:Nat)),(9,.osl bv 4 0 w),(10,.int .i64 (k:Nat)),(11,.rptr [.bool (Aq nq).n1,Ao (Aq nq).l1,.bool (Aq nq).n2,Ao (Aq nq).l2]),(12,.int .i64 0)] (M.set bv ⟨44,4,Bg ((Le Y ps j k v0).map Aq)⟩) (Ba.drop hb11 hones) ?_ ?_
         ·simp;exact De hb11
         (repeat refine AW.seq_k fun K hK=>?_);refine AW.rg ?_;simp;try (refine hK _ rfl ?_;clear hK K)
         refine AW.no ?_ rfl;refine AW.skip ?_;try simp
         refine hK _ rfl ?_;clear hK K;(repeat refine AW.seq_k fun K hK=>?_);refine AW.rd [0,1,2,3,4,5,6,7] C6 ?_;simp[hk,hpk,hpw,hlf];try (refine hK _ rfl ?_;clear hK K)
         rw[hkn,List.map_set,←Er];rfl
        rintro _ _;(repeat refine AW.seq_k fun K hK=>?_);refine AW.rg ?_;simp[-Int.natCast_add,w3];try (refine hK _ rfl ?_;clear hK K)
        exact⟨k+1,hk,by omega,rfl,rfl⟩
       ·refine AW.exit ?_;try simp
        have:k=ps.length:=by omega
        subst this;unfold P2;rw[hv0]
      rintro _ _;refine AW.turn [(0,Ap m),(4,Ap (Be Y)),(5,.sl 1 (Ax ps)),(7,ov),(8,.int .i64 (j:Nat)),(9,An ((P2 Y ps w j).map Aq))] M (Ba.drop hbv (g2.ones (Gt _))) ?_ ?_
      ·simp;exact Tf (Ac.set_same _ _ _) hbv (by rw[List.length_map,Lo])
      have hfin:∀s:Qg,Fj s.M 51 1 s.ov s.ob ((Be (F9 Y ps w j)).map An++[An ((P2 Y ps w j).map Aq)])→T2 Y ps w (j+1) s:=by
       intro s h3;unfold T2;rw[Md,if_neg hnm];simpa[Be]using h3
      have hll:((Be (F9 Y ps w j)).map An).length≤j:=by
       rw[List.length_map,A1];unfold F9;rw[List.length_map];exact Nat.le_trans (List.length_filter_le _ _) (by simp)
      unfold T2 at g2;simp only at g2;generalize(Be (F9 Y ps w j)).map An=l at *;rcases g2.lst with⟨z1,z2,z3⟩ | ⟨b0,z2,z3,z4⟩
      ·subst z1 z2 z3;(repeat refine AW.seq_k fun K hK=>?_);refine AW.rgR [68] ?_;simp;try (refine hK _ rfl ?_;clear hK K)
       exact⟨by unfold maxLen;omega,Af.intro fun b hb=>⟨⟨_,_,[b]⟩,hfin _ (g2.push0 b _),rfl,rfl⟩⟩
      ·subst z2 z3;have hl2:l.length<2^40:=by omega
       (repeat refine AW.seq_k fun K hK=>?_);refine AW.rgR [68] ?_;simp[z4];try (refine hK _ rfl ?_;clear hK K)
       exact⟨by omega,by unfold maxLen;omega,Af.intro fun b hb=>⟨⟨_,_,[b]⟩,hfin _ (g2.push1 b _),rfl,rfl⟩⟩
    rintro⟨M,ov,ob⟩ hs;(repeat refine AW.seq_k fun K hK=>?_);refine AW.rg ?_;simp[-Int.natCast_add,w1];try (refine hK _ rfl ?_;clear hK K)
    exact⟨j+1,⟨M,ov,ob⟩,⟨hj,hs⟩,by omega,by simp⟩
   ·refine AW.exit ?_;try simp
    have:j=w:=by omega
    subst this;exact⟨⟨M,ov,ob⟩,g2,by simp⟩
  rintro⟨M,ov,ob⟩ g1;(repeat refine AW.seq_k fun K hK=>?_);refine AW.rg ?_;simp;try (refine hK _ rfl ?_;clear hK K)
  have hv:=g1.lst.view (M':=Ac.emp) (fun _ _=>rfl);exact AW.ret (Ae [Ap (Be (F9 Y ps w w)),.int .i64 0] rfl ⟨hv,.same _,trivial⟩ ⟨rfl,rfl⟩)
 ·have hK:K3 m=((Ei m).1,[]):=if_pos h0;rw[hK];generalize Ei m=z at *;obtain⟨e,Y,ps⟩:=z;simp only at h0 hr ⊢;refine Ad Tryz.func107 rfl rfl 71 rfl (Nat.le_of_ble_eq_true rfl) ?_;(repeat refine AW.seq_k fun K hK=>?_);refine AW.rg ?_;simp[Al];try (refine hK _ rfl ?_;clear hK K)
  (repeat refine AW.seq_k fun K hK=>?_);refine AW.rg ?_;simp;try (refine hK _ rfl ?_;clear hK K)
  refine Aa.val hr ?_;simp;refine hK _ rfl ?_;clear hK K;(repeat refine AW.seq_k fun K hK=>?_);refine AW.rg ?_;simp[h0];try (refine hK _ rfl ?_;clear hK K)
  refine AW.yes ?_ rfl;(repeat refine AW.seq_k fun K hK=>?_);refine AW.rg ?_;simp;try (refine hK _ rfl ?_;clear hK K)
  exact AW.ret (Ae [Ap [],.int .i64 e] rfl ⟨.nilsl 1,.same _,trivial⟩ ⟨rfl,rfl⟩)
end Go.Av
end
section
namespace Go.Av
open Go.Proofs Go.Lam
theorem Q8 (n:Int) (h1:-9223372036854775808≤n) (h2:n<9223372036854775808):Ai Tryz.prog 104 [.int .i64 n] Ac.emp fun v m=>v=(Aq (Kw n)).av∧m=Ac.emp:=by
 have ho:=Qef n 1 h1 h2 (by omega) (by omega) (by omega);have e:Rat.divInt n 1=Kw n:=rfl;rw[e,C0]at ho;generalize Kw n=q at *;rw[Dl];unfold Gl at *;refine Ad Tryz.func104 rfl rfl 11 rfl (Nat.le_of_ble_eq_true rfl) ?_;(repeat refine AW.seq_k fun K hK=>?_);refine AW.rg ?_;simp[Al];try (refine hK _ rfl ?_;clear hK K)
 refine Af.intro fun b2 hb2=>?_;refine hK _ rfl ?_;clear hK K;(repeat refine AW.seq_k fun K hK=>?_);refine AW.rg ?_;simp;try (refine hK _ rfl ?_;clear hK K)
 refine Aa.val ho ?_;simp;refine Af.intro fun b3 hb3=>?_;simp only[Am,Aw,and_true]at hb3;try simp[hb3]
 refine hK _ rfl ?_;clear hK K;(repeat refine AW.seq_k fun K hK=>?_);refine AW.rg ?_;simp[hb3];try (refine hK _ rfl ?_;clear hK K)
 exact AW.ret (Ae (vs:=[.agg [.bool (decide (q.num<0)),Ao (Ar q.num.natAbs),.bool false,Ao (Ar q.den)]]) [.agg [.bool (decide (q.num<0)),Ao (Ar q.num.natAbs),.bool false,Ao (Ar q.den)]] (by simp[hb3]) (by simp) ⟨rfl,rfl⟩)
theorem Lp (n:Int) (h1:-9223372036854775808≤n) (h2:n<9223372036854775808):Ai Tryz.prog 28 [.int .i64 n] Ac.emp fun v m=>v=(Aq (Kw n)).av∧m=Ac.emp:=by
 have ho:=T0 n 1 h1 h2 (by omega) (by omega) (by omega);have e:Rat.divInt n 1=Kw n:=rfl;rw[e,C0]at ho;generalize Kw n=q at *;rw[Dl];unfold Gl at *;refine Ad Tryz.func28 rfl rfl 11 rfl (Nat.le_of_ble_eq_true rfl) ?_;(repeat refine AW.seq_k fun K hK=>?_);refine AW.rg ?_;simp[Al];try (refine hK _ rfl ?_;clear hK K)
 refine Af.intro fun b2 hb2=>?_;refine hK _ rfl ?_;clear hK K;(repeat refine AW.seq_k fun K hK=>?_);refine AW.rg ?_;simp;try (refine hK _ rfl ?_;clear hK K)
 refine Aa.val ho ?_;simp;refine Af.intro fun b3 hb3=>?_;simp only[Am,Aw,and_true]at hb3;try simp[hb3]
 refine hK _ rfl ?_;clear hK K;(repeat refine AW.seq_k fun K hK=>?_);refine AW.rg ?_;simp[hb3];try (refine hK _ rfl ?_;clear hK K)
 exact AW.ret (Ae (vs:=[.agg [.bool (decide (q.num<0)),Ao (Ar q.num.natAbs),.bool false,Ao (Ar q.den)]]) [.agg [.bool (decide (q.num<0)),Ao (Ar q.num.natAbs),.bool false,Ao (Ar q.den)]] (by simp[hb3]) (by simp) ⟨rfl,rfl⟩)
theorem X3 (a b:RR) (ha:a.Lb) (hb:b.Lb) (oa:a.ok=true) (ob:b.ok=true):Ai Tryz.prog 105 [a.av,b.av] Ac.emp fun v m=>v=.bool (decide (a.q≠b.q))∧m=Ac.emp:=by
 have hc:=Qge a b ha hb oa ob;refine Ad Tryz.func105 rfl rfl 15 rfl (Nat.le_of_ble_eq_true rfl) ?_;unfold RR.av at *;(repeat refine AW.seq_k fun K hK=>?_);refine AW.rgR [2,3] ?_;simp[Al];try (refine hK _ rfl ?_;clear hK K)
 (repeat refine AW.seq_k fun K hK=>?_);refine AW.rg ?_;simp;try (refine hK _ rfl ?_;clear hK K)
 refine Aa.pure hc ?_;rintro _ ⟨c,rfl,hc0⟩;simp;try (refine hK _ rfl ?_;clear hK K)
 (repeat refine AW.seq_k fun K hK=>?_);refine AW.rg ?_;simp;try (refine hK _ rfl ?_;clear hK K)
 exact AW.ret (Ag rfl _ (.same _) ⟨by simp[oneOrTup,hc0],rfl⟩)
end Go.Av
end
section
namespace Go.Av
open Go.Proofs Go.Lam
def zR:AV:=.agg [.bool false,.nil,.bool false,.nil]
def zrI (n i:Nat):List AV:=Bg (List.replicate i (Aq 0))++List.replicate (n-i) zR
@[simp] theorem Qdz {n i:Nat} (h:i≤n):(zrI n i).length=n:=by simp[zrI,Bg];omega
theorem Qm2 {n i:Nat} (h:i<n):(zrI n i).set i (Aq 0).av=zrI n (i+1):=by
 unfold zrI;rw[List.set_append_right _ _ (by simp[Bg])];have e:n-i=(n-(i+1))+1:=by omega
 rw[e,List.replicate_succ,show i-(Bg (List.replicate i (Aq 0))).length=0 by simp[Bg]];simp only[List.set_cons_zero];simp[Bg,List.replicate_succ']
theorem Qx (n:Nat) (hn:n<2^30):Ai Tryz.prog 102 [.int .i64 (n:Nat)] Ac.emp fun v M=>∃b,v=.osl b 4 0 n∧M=Ac.emp.set b ⟨44,4,Bg (List.replicate n (Aq 0))⟩:=by
 have hw:=Q8 0 (by omega) (by omega);rw[F7]at hw;refine Ad Tryz.func102 rfl rfl 17 rfl (Nat.le_of_ble_eq_true rfl) ?_;(repeat refine AW.seq_k fun K hK=>?_);refine AW.rg ?_;simp[Al];try (refine hK _ rfl ?_;clear hK K)
 (repeat refine AW.seq_k fun K hK=>?_);refine AW.rg ?_;simp[-Int.natCast_mul];try (refine hK _ rfl ?_;clear hK K)
 refine⟨by omega,Af.intro fun b hb=>?_⟩;refine hK _ rfl ?_;clear hK K;have hz:List.replicate n (AV.agg [.bool false,.nil,.bool false,.nil])=zrI n 0:=by simp[zrI,Bg,zR]
 rw[hz];have hzn:zrI n n=Bg (List.replicate n (Aq 0)):=by simp[zrI]
 refine AW.seq_ex (ι:=Unit) (fun _=>[(3,.osl b 4 0 n)]) (fun _=>Ac.emp.set b ⟨44,4,zrI n n⟩) (fun _=>True) ?_ ?_
 ·(repeat refine AW.seq_k fun K hK=>?_);refine AW.rg ?_;simp;try (refine hK _ rfl ?_;clear hK K)
  refine AW.block (AW.loopS (ι:=Nat) (fun i=>[(3,.osl b 4 0 n),(7,.int .i64 (n:Nat)),(8,.int .i64 (i:Nat))]) (fun i=>Ac.emp.set b ⟨44,4,zrI n i⟩)
   (fun i=>i≤n) (fun i=>n-i) 0 (by simp) rfl (by simp) ?_)
  intro i g1;(repeat refine AW.seq_k fun K hK=>?_);refine AW.rg ?_;simp;try (refine hK _ rfl ?_;clear hK K)
  (repeat refine AW.seq ?_);refine AW.cs (fun hi=>?_) (fun hi=>?_) rfl<;>(try simp at hi)
  ·refine AW.skip ?_;try simp
   try (refine hK _ rfl ?_;clear hK K)
   have w1:=Au (i+1) (by omega);have hzl:(zrI n i).length=n:=Qdz g1;(repeat refine AW.seq ?_);refine AW.block ?_;(repeat refine AW.seq_k fun K hK=>?_);refine AW.rg ?_;simp;try (refine hK _ rfl ?_;clear hK K)
   (repeat refine AW.seq_k fun K hK=>?_);refine AW.rg ?_;simp;try (refine hK _ rfl ?_;clear hK K)
   refine Aa.val hw ?_;simp[hi,hzl];rw[Qm2 hi];(repeat refine AW.seq_k fun K hK=>?_);refine AW.rg ?_;simp[-Int.natCast_add,w1];try (refine hK _ rfl ?_;clear hK K)
   exact⟨i+1,by omega,by omega,rfl,rfl⟩
  ·refine AW.exit ?_;try simp
   rw[show i=n by omega]
 rintro _ _;rw[hzn];(repeat refine AW.seq_k fun K hK=>?_);refine AW.rg ?_;simp;try (refine hK _ rfl ?_;clear hK K)
 refine AW.ret (Bo rfl (fun c y hy v hv=>?_) ⟨b,rfl,rfl⟩);by_cases e:c=b
 ·rw[e]at hy;simp at hy;cases hy;exact Gc _ v hv
 ·simp[Ac.set,e,Ac.emp]at hy
end Go.Av
end
section
namespace Go.Av
open Go.Proofs Go.Lam
def D1 (n:Int) (es:List RE) (p:List RR):Bool:=Ds n es&&decide ((p.length:Int)=2*n)&&p.all RR.ok
def Hf (n:Int) (es:List RE) (p:List RR):AV:=.int .i64 (if D1 n es p=true then 0 else 1)
theorem Q3 (n:Int) (es:List RE) (p:List RR) (hb:LbE es) (hp:∀x∈p,x.Lb):Ai Tryz.prog 67 [.int .i64 n,A8 es,An p] Ac.emp fun v m=>v=Hf n es p∧m=Ac.emp:=by
 have hc:=Pp n es hb;refine Ad Tryz.func67 rfl rfl 31 rfl (Nat.le_of_ble_eq_true rfl) ?_;unfold A8 An at *;(repeat refine AW.seq_k fun K hK=>?_);refine AW.rg ?_;simp[Al];try (refine hK _ rfl ?_;clear hK K)
 (repeat refine AW.seq_k fun K hK=>?_);refine AW.rg ?_;simp;try (refine hK _ rfl ?_;clear hK K)
 refine Aa.val hc ?_;by_cases hk:Ds n es=true;rotate_left
 ·have e1:Cg n es=.int .i64 1:=by unfold Cg;rw[if_neg hk]
  have e2:Hf n es p=.int .i64 1:=by unfold Hf D1;rw[Bool.not_eq_true]at hk;rw[hk];rfl
  simp[e1];try (refine hK _ rfl ?_;clear hK K)
  (repeat refine AW.seq_k fun K hK=>?_);refine AW.rg ?_;simp;try (refine hK _ rfl ?_;clear hK K)
  refine AW.yes ?_ rfl;(repeat refine AW.seq_k fun K hK=>?_);refine AW.rg ?_;simp;try (refine hK _ rfl ?_;clear hK K)
  exact AW.ret (Ag rfl _ (.same _) ⟨by rw[e2];rfl,rfl⟩)
 have e1:Cg n es=.int .i64 0:=by unfold Cg;rw[if_pos hk]
 obtain⟨⟨h1,h2,h3⟩,_⟩:=El hk;simp[e1];try (refine hK _ rfl ?_;clear hK K)
 (repeat refine AW.seq_k fun K hK=>?_);refine AW.rg ?_;simp;try (refine hK _ rfl ?_;clear hK K)
 refine AW.no ?_ rfl;refine AW.skip ?_;try simp
 try (refine hK _ rfl ?_;clear hK K)
 have w2:IntKind.i64.wrap (2*n)=2*n:=Oc (by omega);by_cases hlen:(p.length:Int)=2*n;rotate_left
 ·have e2:Hf n es p=.int .i64 1:=by unfold Hf D1;rw[decide_eq_false hlen];simp
  (repeat refine AW.seq_k fun K hK=>?_);refine AW.rg ?_;simp[w2,hlen];try (refine hK _ rfl ?_;clear hK K)
  refine AW.yes ?_ rfl;(repeat refine AW.seq_k fun K hK=>?_);refine AW.rg ?_;simp;try (refine hK _ rfl ?_;clear hK K)
  exact AW.ret (Ag rfl _ (.same _) ⟨by rw[e2];rfl,rfl⟩)
 (repeat refine AW.seq_k fun K hK=>?_);refine AW.rg ?_;simp[w2,hlen];try (refine hK _ rfl ?_;clear hK K)
 refine AW.no ?_ (by simp[hlen]);refine AW.skip ?_;try simp
 try (refine hK _ rfl ?_;clear hK K)
 refine AW.seq_ex (ι:=Unit) (fun _=>[]) (fun _=>Ac.emp) (fun _=>p.all RR.ok=true) ?_ ?_
 ·(repeat refine AW.seq_k fun K hK=>?_);refine AW.rg ?_;simp;try (refine hK _ rfl ?_;clear hK K)
  refine AW.block (AW.loopS (ι:=Nat) (fun i=>[(21,.sl 4 (Bg p)),(22,.int .i64 (p.length:Nat)),(23,.int .i64 (i:Nat))]) (fun i=>Ac.emp)
   (fun i=>i≤p.length∧(p.take i).all RR.ok=true) (fun i=>p.length-i) 0 ⟨by simp,by simp⟩ rfl (by simp) ?_)
  rintro i ⟨g1,g2⟩;(repeat refine AW.seq_k fun K hK=>?_);refine AW.rg ?_;simp;try (refine hK _ rfl ?_;clear hK K)
  (repeat refine AW.seq ?_);refine AW.cs (fun hi=>?_) (fun hi=>?_) rfl<;>(try simp at hi)
  ·refine AW.skip ?_;try simp
   try (refine hK _ rfl ?_;clear hK K)
   have w1:=Au (i+1) (by omega);have hxm:rr p i∈p:=by rw[G6 hi];exact List.getElem_mem hi
   have hv:=Fz (rr p i) (hp _ hxm);have hst:(p.take (i+1)).all RR.ok=(rr p i).ok:=by
    rw[List.take_add_one,List.getElem?_eq_getElem hi,List.all_append,g2,G6 hi];simp
   unfold RR.av at hv;(repeat refine AW.seq ?_);refine AW.block ?_;(repeat refine AW.seq_k fun K hK=>?_);refine AW.rg ?_;simp[hi];try (refine hK _ rfl ?_;clear hK K)
   refine Af.intro fun b6 hb6=>?_;refine hK _ rfl ?_;clear hK K;refine AW.toEmp [(9,.rptr [.bool (rr p i).n1,Ao (rr p i).l1,.bool (rr p i).n2,Ao (rr p i).l2]),(21,.sl 4 (Bg p)),(22,.int .i64 (p.length:Nat)),(23,.int .i64 (i:Nat))] (by simp;exact De rfl) ?_;(repeat refine AW.seq_k fun K hK=>?_);refine AW.rg ?_;simp;try (refine hK _ rfl ?_;clear hK K)
   refine Aa.val hv ?_;simp;try (refine hK _ rfl ?_;clear hK K)
   cases hok:(rr p i).ok with
   |false =>
    have e2:Hf n es p=.int .i64 1:=by
     have:p.all RR.ok=false:=List.all_eq_false.2 ⟨rr p i,hxm,by rw[hok];simp⟩;unfold Hf D1;rw[this];simp
    refine AW.yes ?_ rfl;(repeat refine AW.seq_k fun K hK=>?_);refine AW.rg ?_;simp;try (refine hK _ rfl ?_;clear hK K)
    exact AW.ret (Ag rfl _ (.same _) ⟨by rw[e2];rfl,rfl⟩)
   |true =>
    refine AW.no ?_ rfl;refine AW.skip ?_;try simp
    try (refine hK _ rfl ?_;clear hK K)
    (repeat refine AW.seq_k fun K hK=>?_);refine AW.rg ?_;simp[-Int.natCast_add,w1];try (refine hK _ rfl ?_;clear hK K)
    exact⟨⟨by omega,by rw[hok]at hst;simpa using hst⟩,by omega⟩
  ·refine AW.exit ?_;try simp
   have:i=p.length:=by omega
   subst this;rw[List.take_length]at g2;simpa using g2
 ·rintro _ h;have e2:Hf n es p=.int .i64 0:=by unfold Hf D1;rw[hk,decide_eq_true hlen,h];rfl
  (repeat refine AW.seq_k fun K hK=>?_);refine AW.rg ?_;simp;try (refine hK _ rfl ?_;clear hK K)
  exact AW.ret (Ag rfl _ (.same _) ⟨by rw[e2];rfl,rfl⟩)
end Go.Av
end
section
namespace Go.Av
open Go.Proofs Go.Lam
def uI (a b s:Nat):Nat:=2*(if s<2 then a else b)+s % 2
def vI (a b s:Nat):Nat:=2*(if s<2 then b else a)+s % 2
def Ph (n:Nat) (p:List Rat) (a b:Nat):Nat→Option (List Rat)
 |0=>some (List.replicate (2*n) 0)
 |s+1=>(Ph n p a b s).bind fun r=>(Cz (Cd p (uI a b s)) (Cd p (vI a b s))).map fun d=>r.set (uI a b s) d
def Nc (n:Nat) (E:Nat→Ed) (p:List Rat):Nat→Option (List (List Rat))
 |0=>some []
 |k+1=>(Nc n E p k).bind fun M=>(Ph n p (E k).1 (E k).2 4).map fun r=>M++[r]
def Vb (n:Nat) (p:List Rat):Option Nat:=(List.range n).find? fun i=>decide (1≤i)&&(decide (Cd p (2*i)≠Cd p 0) || decide (Cd p (2*i+1)≠Cd p 1))
def P0 (n:Nat) (p:List Rat):Option (List (List Rat)) :=
 let z:=List.replicate (2*n) (0:Rat)
 match Vb n p with
 |none=>some [z.set 0 1,z.set 1 1]
 |some i=>(Cz (Cd p 1) (Cd p (2*i+1))).bind fun d1=>(Cz (Cd p (2*i)) (Cd p 0)).map fun d2=>[z.set 0 1,z.set 1 1,(z.set (2*i) d1).set (2*i+1) d2]
def E3 (n:Nat) (r:List Rat):Prop:=r.length=2*n∧∀q∈r,Bu q
theorem E3.set {n:Nat} {r:List Rat} (h:E3 n r) (i:Nat) {d:Rat} (hd:Bu d):E3 n (r.set i d):=⟨by rw[List.length_set];exact h.1,fun q hq=>by
 rcases List.mem_or_eq_of_mem_set hq with h1|h1
 ·exact h.2 q h1
 ·rw[h1];exact hd⟩
theorem E3.zero (n:Nat):E3 n (List.replicate (2*n) 0):=⟨by simp,fun q hq=>by rw[List.eq_of_mem_replicate hq];exact Me⟩
theorem H9 {n:Nat} {p:List Rat} {a b:Nat}:∀{s:Nat} {r:List Rat},Ph n p a b s=some r→E3 n r
 |0,r,h=>by cases h;exact E3.zero n
 |s+1,r,h=>by
  rw[Ph]at h;obtain⟨r',h1,h2⟩:=Option.bind_eq_some_iff.1 h;obtain⟨d,h3,rfl⟩:=Option.map_eq_some_iff.1 h2;exact(H9 h1).set _ (Qa2 h3)
theorem Gb {n:Nat} {E:Nat→Ed} {p:List Rat}:∀{k:Nat} {M:List (List Rat)},Nc n E p k=some M→M.length=k∧∀r∈M,E3 n r
 |0,M,h=>by cases h;simp
 |k+1,M,h=>by
  rw[Nc]at h;obtain⟨M',h1,h2⟩:=Option.bind_eq_some_iff.1 h;obtain⟨r,h3,rfl⟩:=Option.map_eq_some_iff.1 h2;obtain⟨h4,h5⟩:=Gb h1;refine⟨by simp[h4],fun x hx=>?_⟩;rcases List.mem_append.1 hx with hx | hx
  ·exact h5 x hx
  ·simp at hx;subst hx;exact H9 h3
theorem Tu {n:Nat} {p:List Rat} {a b s t:Nat} (h:Ph n p a b s=none) (hst:s≤t):Ph n p a b t=none:=by
 induction t with
 |zero=>rw[show s=0 by omega]at h;exact h
 |succ t ih =>
  rcases Nat.lt_or_ge t s with h1|h1
  ·rw[show t+1=s by omega];exact h
  ·rw[Ph,ih h1];rfl
theorem S5 {n:Nat} {E:Nat→Ed} {p:List Rat} {k t:Nat} (h:Nc n E p k=none) (hst:k≤t):Nc n E p t=none:=by
 induction t with
 |zero=>rw[show k=0 by omega]at h;exact h
 |succ t ih =>
  rcases Nat.lt_or_ge t k with h1|h1
  ·rw[show t+1=k by omega];exact h
  ·rw[Nc,ih h1];rfl
end Go.Av
end
section
namespace Go.Av
section
variable {P:Program}
def isB (o:Oper):Bool:=match o.op with
 |.build _ _=>true
 |_=>false
def Qmu (P:Program) (o:Oper) (s:St) (k:AV→Ac→Prop):Prop:=match o.op with
 |.build t parts=>∃ti n e te zs,Ak P t=some ti∧ti.cls=.array n e∧Ak P e=some te∧te.size=1∧ti.zero=.agg zs∧zs.length=n∧parts.toList.map (·.1)=List.range n ∧
   (∀p∈parts.toList,∃kd m,s.ev p.2=.int kd m)∧k (.agg (parts.toList.map fun p=>s.ev p.2)) s.m
 |_=>False
theorem Y5 (n:Nat):∀(parts:List (Nat × Value)) (vs:Array Value),(∀p∈parts,p.1<n∧p.2.cells=#[p.2])→vs.size=n →
  ∃vs',Instr.fill (fun i=>some (i*1,1)) vs parts=some vs'∧vs'.size=n∧∀i:Nat,vs'[i]?=match parts.reverse.find? (fun p=>p.1==i)with | some p=>some p.2 | none=>vs[i]?
 |[],vs,_,hs=>⟨vs,rfl,hs,fun i=>rfl⟩
 |(i,v)::rest,vs,h,hs=>by
  obtain⟨h1,h2⟩:=h (i,v) (by simp);simp only at h1 h2;obtain⟨vs',e1,e2,e3⟩:=Y5 n rest (vs.setIfInBounds i v) (fun p hp=>h p (by simp[hp])) (by simpa using hs);refine⟨vs',?_,e2,fun j=>?_⟩
  ·unfold Instr.fill;simp only[Nat.mul_one,h2];rw[if_neg (by simp;omega)];simpa using e1
  ·rw[e3 j,List.reverse_cons,List.find?_append];cases hf:rest.reverse.find? (fun p=>p.1==j)with
   |some p=>simp
   |none =>
    simp only[Option.none_or,List.find?_cons,List.find?_nil];by_cases hij:i=j
    ·subst hij;have hi:i<vs.size:=by rw[hs];exact h1
     simp[hi]
    ·have:(i==j)=false:=by simpa using hij
     rw[this];simp[Array.getElem?_setIfInBounds,hij]
theorem Qcc {F G:Nat→Prop} {w0 w:World} {s:St} {a:Act} (hrel:Eb F G w0 s a w) {o:Oper} (hok:Gu s.n o=true) {K:St→Prop} (h:Qmu P o s fun v m'=>K ({s with m:=m'}.put o.dst v)) (Q:Exit→Act→World→Prop):o.wp P a w (Fp F G w0 s.n K) Q:=by
 have hd:Nb s.n o.dst=true:=by unfold Gu at hok;rw[Bool.and_eq_true]at hok;exact hok.1
 have hall:∀x∈o.op.operands.toList,Gn s.n x=true:=by unfold Gu at hok;rw[Bool.and_eq_true]at hok;exact List.all_eq_true.1 hok.2
 unfold Qmu at h;split at h
 ·rename_i t parts ho
  rw[ho]at hall;obtain⟨ti,n,e,te,zs,ht,hc,hte,hz1,hzz,hzl,hidx,hone,hk⟩:=h;obtain⟨inf,d,z,hi,hdd,hz,g1,g2,g3,g4,g5⟩:=(Et ht).get;obtain⟨ie,de,ze,hie,hde,hze,k1,k2,k3,k4,k5⟩:=(Et hte).get;rw[←g3]at hc;cases d<;>simp only[Dn,reduceCtorEq,Lc.array.injEq]at hc
  obtain⟨rfl,rfl⟩:=hc;have hzs:z.cells.size=zs.length:=by
   have hzc:VR w F (.agg zs) z:=by rw[←hzz,←g4];exact I1 w F z
   exact(hzc.cells (by simp)).1
  have hpl:∀p∈parts.toList,∃kd m,s.ev p.2=.int kd m∧a.eval p.2=.int kd m:=fun p hp=>by
   have h1:=hrel.ev (hall p.2 (by
    have e0:(Op.build t parts).operands.toList=parts.toList.map (·.2):=by simp[Op.operands]
    rw[e0];exact List.mem_map.2 ⟨p,hp,rfl⟩))
   obtain⟨kd,m,h2⟩:=hone p hp;rw[h2]at h1;cases hv:a.eval p.2<;>rw[hv]at h1<;>cases h1
   exact⟨_,_,h2,rfl⟩
  have hlt:∀p∈parts.toList,p.1<zs.length:=fun p hp=>by
   have:p.1∈parts.toList.map (·.1):=List.mem_map.2 ⟨p,hp,rfl⟩;rw[hidx,List.mem_range]at this;omega
  have hsz:parts.toList.length=zs.length:=by
   have:=congrArg List.length hidx;rw[List.length_map,List.length_range]at this;omega
  obtain⟨vs',f1,f2,f3⟩:=Y5 zs.length (parts.toList.map fun p=>(p.1,a.eval p.2)) z.cells (fun q hq=>by
   obtain⟨p,hp,rfl⟩:=List.mem_map.1 hq;obtain⟨kd,m,_,h3⟩:=hpl p hp;exact⟨hlt p hp,by simp only[h3];rfl⟩) hzs
  have hval:∀j (hj:j<parts.toList.length),vs'[j]?=some (a.eval (parts.toList[j]).2):=fun j hj=>by
   rw[f3 j];have hj1:(parts.toList[j]).1=j:=by
    have:(parts.toList.map (·.1))[j]?=some j:=by rw[hidx];rw[List.getElem?_range (by omega)]
    rw[List.getElem?_map,List.getElem?_eq_getElem hj,Option.map_some]at this;exact Option.some.inj this
   have huniq:∀i (hi:i<parts.toList.length),(parts.toList[i]).1=j→i=j:=fun i hi e=>by
    have:(parts.toList.map (·.1))[i]?=some i:=by rw[hidx];rw[List.getElem?_range (by omega)]
    rw[List.getElem?_map,List.getElem?_eq_getElem hi,Option.map_some]at this;have:=Option.some.inj this;omega
   cases hf:(parts.toList.map fun p=>(p.1,a.eval p.2)).reverse.find? (fun p=>p.1==j)with
   |none =>
    have:=List.find?_eq_none.1 hf (j,a.eval (parts.toList[j]).2) (by
     rw[List.mem_reverse,List.mem_map];exact⟨parts.toList[j],List.getElem_mem hj,by rw[hj1]⟩)
    simp at this
   |some q =>
    have h1:=List.mem_of_find?_eq_some hf;have h2:=List.find?_some hf;rw[List.mem_reverse,List.mem_map]at h1;obtain⟨p,hp,rfl⟩:=h1;obtain⟨i,hi',rfl⟩:=List.mem_iff_getElem.1 hp;have:=huniq i hi' (by simpa using h2);subst this;rfl
  refine Dt (cv:=.agg vs') ?_ ⟨_,hk,I5 _ _ _,hrel.put hd (.agg _ _ (by rw[f2,List.length_map,hsz]) fun j u v hu hv=>?_)⟩
  ·have hzv:(zeroValue t).run P w=.ok z w:=by simp[zeroValue,typeInfo,hi,hz]
   unfold execOp;rw[ho];simp[Instr.build,hzv,run_underlying hdd,Fi hie,k1,hz1];simp only[Nat.mul_one]at f1;rw[f1];simp
  ·rw[List.getElem?_map]at hu;obtain⟨p,hp,rfl⟩:=Option.map_eq_some_iff.1 hu;obtain⟨hj,rfl⟩:=List.getElem?_eq_some_iff.1 hp;rw[hval j hj]at hv;cases hv;obtain⟨kd,m,h2,h3⟩:=hpl _ (List.getElem_mem hj);rw[h2,h3];exact .int kd m
 ·exact h.elim
def Pb (P:Program) (cf:D6) (o:Oper) (K:St→Prop) (s:St):Prop:=if isB o=true then Qmu P o s fun v m'=>K ({s with m:=m'}.put o.dst v) else E1 P cf o K s
def Nd (P:Program) (cf:D6):List Oper→(St→Prop)→St→Prop
 |[],K,s=>K s
 |o::rest,K,s=>o.guard=none∧Pb P cf o (Nd P cf rest K) s
theorem Qd3 {F G:Nat→Prop} {w0 w:World} {s:St} {a:Act} (hrel:Eb F G w0 s a w) {cf:D6} (hav:∀b,cf.av b→b<w.heap.size) {o:Oper} (hok:Gu s.n o=true) {K:St→Prop} (h:Pb P cf o K s) (Q:Exit→Act→World→Prop):o.wp P a w (Fp F G w0 s.n K) Q:=by
 unfold Pb at h;split at h
 ·exact Qcc hrel hok h Q
 ·exact Mn hrel hav hok h Q
theorem Q6 {F G:Nat→Prop} {w0:World} {cf:D6} (hcf:∀b,¬cf.av b) {ops:Array Oper} {K:St→Prop} {QQ:Exit→Act→World→Prop} (n:Nat) (hQ:∀a w,Fp F G w0 n K a w→QQ .normal a w) :
  ∀(l:List Oper) (s:St) (a:Act) (w:World),s.n=n→(∀o∈l,(Gu n o&&Jo ops n o)=true)→Eb F G w0 s a w→Nd P cf l K s→wpList P ops QQ l a w
 |[],s,a,w,hn,_,hr,hk=>hQ a w ⟨s,hk,hn,hr⟩
 |o::rest,s,a,w,hn,hok,hr,hk=>by
  have ho:=hok o (by simp);rw[Bool.and_eq_true]at ho;have hrest:∀o∈rest,(Gu n o&&Jo ops n o)=true:=fun x hx=>hok x (by simp[hx]);have hmono:∀{s:St} {a:Act} {w:World},s.n=n→Fp F G w0 s.n (Nd P cf rest K) a w→wpList P ops QQ rest a w:=by
   rintro s a w hn ⟨s',h1,h2,h3⟩;exact Q6 hcf n hQ rest s' a w (h2.trans hn) hrest h3 h1
  have hop:Eb F G w0 s a w→Pb P cf o (Nd P cf rest K) s→o.wp P a w (wpList P ops QQ rest) QQ:=by
   intro hr hk;have:=Qd3 hr (fun b hb=>(hcf b hb).elim) (by rw[hn];exact ho.1) hk QQ;unfold Oper.wp at this ⊢
   revert this
   generalize(execOp a.eval o).run P w=res;intro this;have hm:∀a w,Fp F G w0 s.n (Nd P cf rest K) a w→wpList P ops QQ rest a w:=fun a w h=>hmono hn h;unfold Oper.upon at this ⊢;split at this<;>first
    |exact hm _ _ this
    |(refine Calls.mono this ?_;intro e w' h;cases e<;>first | exact hm _ _ h | exact h)
    |(refine Rows.mono this ?_;intro e w' h;exact hm _ _ h)
    |exact this
    |exact this.elim
  unfold wpList;unfold Nd at hk;rw[if_pos (by simp[Region.wanted,hk.1])];exact .inl (hop hr hk.2)
theorem AW.rgB {Q:Exit→St→Prop} {s:St} {id:Nat} {ops:Array Oper} (ro:List Nat) (h:Nd P (D6.txt (roL ro)) ops.toList (Q .normal) s) (hok:Ce s.n ops=true:=by kernel_rfl):AW P (.region id ops false) Q s:=by
 intro F G w0 a w hr;refine wp_region_list (Q6 (F:=F) (G:=G) (w0:=w0) (cf:=D6.txt (roL ro)) (fun _ h=>h) s.n (K:=Q .normal) (fun a w h=>h) ops.toList s a w rfl (fun o ho=>?_) hr h);unfold Ce at hok;exact List.all_eq_true.1 hok o ho
@[simp] theorem Qtw (cf:D6) (K:St→Prop) (s:St):Nd P cf [] K s=K s:=(rfl)
@[simp] theorem Qqn (cf:D6) (d:Option Tmp) (op:Op) (t:TypeId) (p:String) (a:Array Edge) (l:List Oper) (K:St→Prop) (s:St) :
  Nd P cf ({dst:=d,op:=op,type:=t,pos:=p,after:=a,guard:=none}::l) K s↔Pb P cf {dst:=d,op:=op,type:=t,pos:=p,after:=a,guard:=none} (Nd P cf l K) s:=by
 show(_∧_)↔_
 simp
@[simp] theorem Qt4 (cf:D6) (K:St→Prop) (s:St) (d:Option Tmp) (x:Operand) (ty:TypeId) (p:String) (a:Array Edge) (g:Option (Nat × Bool)):Pb P cf ⟨d,.move x,ty,p,a,g⟩ K s=E1 P cf ⟨d,.move x,ty,p,a,g⟩ K s:=(rfl)
@[simp] theorem Qng (cf:D6) (K:St→Prop) (s:St) (d:Option Tmp) (x:Operand) (ty:TypeId) (p:String) (a:Array Edge) (g:Option (Nat × Bool)):Pb P cf ⟨d,.assign x,ty,p,a,g⟩ K s=E1 P cf ⟨d,.assign x,ty,p,a,g⟩ K s:=(rfl)
@[simp] theorem Qqq (cf:D6) (K:St→Prop) (s:St) (d:Option Tmp) (o:BinOp) (t t':TypeId) (x y:Operand) (ty:TypeId) (p:String) (a:Array Edge) (g:Option (Nat × Bool)):Pb P cf ⟨d,.binOp o t x y t',ty,p,a,g⟩ K s=E1 P cf ⟨d,.binOp o t x y t',ty,p,a,g⟩ K s:=(rfl)
@[simp] theorem Qtm (cf:D6) (K:St→Prop) (s:St) (d:Option Tmp) (t:TypeId) (x:Operand) (ty:TypeId) (p:String) (a:Array Edge) (g:Option (Nat × Bool)):Pb P cf ⟨d,.load t x,ty,p,a,g⟩ K s=E1 P cf ⟨d,.load t x,ty,p,a,g⟩ K s:=(rfl)
@[simp] theorem Qke (cf:D6) (K:St→Prop) (s:St) (d:Option Tmp) (t:TypeId) (x:Operand) (i:Nat) (ty:TypeId) (p:String) (a:Array Edge) (g:Option (Nat × Bool)):Pb P cf ⟨d,.fieldAddr t x i,ty,p,a,g⟩ K s=E1 P cf ⟨d,.fieldAddr t x i,ty,p,a,g⟩ K s:=(rfl)
@[simp] theorem Qh3 (cf:D6) (K:St→Prop) (s:St) (d:Option Tmp) (t:TypeId) (n:Nat) (ps:Array (Nat × Operand)) (ty:TypeId) (p:String) (a:Array Edge) (g:Option (Nat × Bool)):Pb P cf ⟨d,.buildSlice t n ps,ty,p,a,g⟩ K s=E1 P cf ⟨d,.buildSlice t n ps,ty,p,a,g⟩ K s:=(rfl)
@[simp] theorem Qub (cf:D6) (K:St→Prop) (s:St) (d:Option Tmp) (c:Call) (ty:TypeId) (p:String) (a:Array Edge) (g:Option (Nat × Bool)):Pb P cf ⟨d,.call c,ty,p,a,g⟩ K s=E1 P cf ⟨d,.call c,ty,p,a,g⟩ K s:=(rfl)
@[simp] theorem Qst (cf:D6) (K:St→Prop) (s:St) (d:Option Tmp) (t ty:TypeId) (parts:Array (Nat × Operand)) (p:String) (a:Array Edge) (g:Option (Nat × Bool)):Pb P cf ⟨d,.build t parts,ty,p,a,g⟩ K s↔∃ti n e te zs,Ak P t=some ti∧ti.cls=.array n e∧Ak P e=some te∧te.size=1∧ti.zero=.agg zs∧zs.length=n∧parts.toList.map (·.1)=List.range n ∧
   (∀p∈parts.toList,∃kd m,s.ev p.2=.int kd m)∧J0 K s d (.agg (parts.toList.map fun p=>s.ev p.2)) s.m:=by
 unfold Pb Qmu;simp only[isB,if_true];exact Iff.rfl
end
end Go.Av
end
section
namespace Go.Av
open Go.Proofs Go.Lam
def eqB (w:Nat) (M:List (List Rat)):List AV:=(Be M).map An++List.replicate (w-M.length) .nil
def eqR (n:Nat) (es:List RE) (p:List Rat) (v:AV) (m:Ac):Prop:=match Nc n (Ah es) p es.length with
 |some M=>∃B,v=.tup [.osl B 1 0 es.length,.int .i64 0]∧m=Ac.emp.set B ⟨51,1,(Be M).map An⟩
 |none=>v=.tup [Ap [],.int .i64 2]∧m=Ac.emp
theorem K7 (N:Nat) (es:List RE) (p:List Rat) (hN:1≤N) (hN12:N≤12) (hok:Ly N es) (h3:es.length≤40) (hp:E3 N p):Ai Tryz.prog 68 [.int .i64 (N:Nat),A8 es,An (p.map Aq)] Ac.emp (eqR N es p):=by
 have hzr:=Qx (2*N) (by omega);have w0:=Au (2*N) (by omega);refine Ad Tryz.func68 rfl rfl 89 rfl (Nat.le_of_ble_eq_true rfl) ?_;unfold A8 An at *;(repeat refine AW.seq_k fun K hK=>?_);refine AW.rg ?_;simp[Al];try (refine hK _ rfl ?_;clear hK K)
 (repeat refine AW.seq_k fun K hK=>?_);refine AW.rg ?_;simp;try (refine hK _ rfl ?_;clear hK K)
 refine⟨by omega,Af.intro fun B hB=>?_⟩;refine hK _ rfl ?_;clear hK K;have hB0:List.replicate es.length AV.nil=eqB es.length []:=by simp[eqB,Be]
 rw[hB0];refine AW.seq_ex (ι:=List (List Rat)) (fun M=>[(8,.osl B 1 0 es.length)]) (fun M=>Ac.emp.set B ⟨51,1,eqB es.length M⟩) (fun M=>Nc N (Ah es) p es.length=some M) ?_ ?_
 ·(repeat refine AW.seq_k fun K hK=>?_);refine AW.rg ?_;simp;try (refine hK _ rfl ?_;clear hK K)
  refine AW.block (AW.loopS (ι:=List (List Rat) × Nat) (fun z=>[(0,.int .i64 (N:Nat)),(1,.sl 6 (Ff es)),(2,.sl 4 (Bg (p.map Aq))),(8,.osl B 1 0 es.length),(20,.sl 6 (Ff es)),(21,.int .i64 (es.length:Nat)),(22,.int .i64 (z.2:Nat))]) (fun z=>Ac.emp.set B ⟨51,1,eqB es.length z.1⟩)
   (fun z=>z.2≤es.length∧Nc N (Ah es) p z.2=some z.1) (fun z=>es.length-z.2) ([],0) ⟨by simp,rfl⟩ rfl (by simp) ?_)
  rintro⟨M,i⟩ ⟨g1,g2⟩;simp only at g1 g2;obtain⟨gl,gg⟩:=Gb g2;(repeat refine AW.seq_k fun K hK=>?_);refine AW.rg ?_;simp;try (refine hK _ rfl ?_;clear hK K)
  (repeat refine AW.seq ?_);refine AW.cs (fun hi=>?_) (fun hi=>?_) rfl<;>(try simp at hi)
  ·refine AW.skip ?_;try simp
   try (refine hK _ rfl ?_;clear hK K)
   have w1:=Au (i+1) (by omega);obtain⟨e1,e2,e3⟩:=hok i hi;obtain⟨a,ha⟩:∃a,(Ah es i).1=a:=⟨_,rfl⟩;obtain⟨b,hb⟩:∃b,(Ah es i).2=b:=⟨_,rfl⟩;have hsc:Nc N (Ah es) p (i+1)=(Ph N p a b 4).map fun r=>M++[r]:=by rw[Nc,g2,ha,hb];rfl
   rw[ha]at e1;rw[hb]at e2;have han:a<N:=ha ▸ e3.1;have hbn:b<N:=hb ▸ e3.2.1;(repeat refine AW.seq ?_);refine AW.block ?_;(repeat refine AW.seq_k fun K hK=>?_);refine AW.rg ?_;simp[hi,C1,e1,e2];try (refine hK _ rfl ?_;clear hK K)
   refine Af.intro fun b10 hb10=>?_;refine hK _ rfl ?_;clear hK K;have ones0:∀c y,Ac.emp.set B ⟨51,1,eqB es.length M⟩ c=some y→∀v∈y.l,v.cells.all AV.one=true:=by
    intro c y hy v hv;by_cases e:c=B
    ·rw[e,Ac.set_same]at hy;cases hy;unfold eqB at hv;rcases List.mem_append.1 hv with hv | hv
     ·obtain⟨x,_,rfl⟩:=List.mem_map.1 hv;rfl
     ·rw[List.eq_of_mem_replicate hv];rfl
    ·rw[Ac.set_other _ _ e]at hy;cases hy
   generalize hM0:Ac.emp.set B ⟨51,1,eqB es.length M⟩=M0 at *;refine AW.turn [(0,.int .i64 (N:Nat)),(1,.sl 6 (Ff es)),(2,.sl 4 (Bg (p.map Aq))),(8,.osl B 1 0 es.length),(9,.int .i64 (i:Nat)),(10,.rptr [.int .i64 (a:Nat),.int .i64 (b:Nat),.bool (Ip es i).sq.n1,Ao (Ip es i).sq.l1,.bool (Ip es i).sq.n2,Ao (Ip es i).sq.l2]),(20,.sl 6 (Ff es)),(21,.int .i64 (es.length:Nat)),(22,.int .i64 (i:Nat))] M0 (Ba.drop hb10 ones0)
    (by simp;exact .ptr b10 6 0 0 ⟨46,6,[.agg [.int .i64 (a:Nat),.int .i64 (b:Nat),.bool (Ip es i).sq.n1,Ao (Ip es i).sq.l1,.bool (Ip es i).sq.n2,Ao (Ip es i).sq.l2]]⟩ (.agg [.int .i64 (a:Nat),.int .i64 (b:Nat),.bool (Ip es i).sq.n1,Ao (Ip es i).sq.l1,.bool (Ip es i).sq.n2,Ao (Ip es i).sq.l2]) (Ac.set_same _ _ _) hb10 rfl rfl) ?_
   (repeat refine AW.seq_k fun K hK=>?_);refine AW.rg ?_;simp[-Int.natCast_mul,w0];try (refine hK _ rfl ?_;clear hK K)
   refine Aa.make (R:=fun b v x=>v=.osl b 4 0 (2*N)∧x=⟨44,4,Bg (List.replicate (2*N) (Aq 0))⟩) (hzr.mono fun v m ⟨b,h1,h2⟩=>⟨b,_,⟨h1,rfl⟩,h2⟩) ?_;rintro br _ _ ⟨rfl,rfl⟩ hbr _;simp[-Int.natCast_mul];try (refine hK _ rfl ?_;clear hK K)
   have hz0:Bg (List.replicate (2*N) (Aq 0))=Bg ((List.replicate (2*N) (0:Rat)).map Aq):=by simp
   rw[hz0];have wa:=Au (2*a) (by omega);have wb:=Au (2*b) (by omega);refine AW.seq_ex (ι:=List Rat) (fun _=>[(0,.int .i64 (N:Nat)),(1,.sl 6 (Ff es)),(2,.sl 4 (Bg (p.map Aq))),(8,.osl B 1 0 es.length),(9,.int .i64 (i:Nat)),(11,.osl br 4 0 (2*N)),(20,.sl 6 (Ff es)),(21,.int .i64 (es.length:Nat)),(22,.int .i64 (i:Nat))]) (fun r=>M0.set br ⟨44,4,Bg (r.map Aq)⟩) (fun r=>Ph N p a b 4=some r) ?_ ?_
   ·(repeat refine AW.seq_k fun K hK=>?_);refine AW.rgB [44] ?_;simp[-Int.natCast_mul,wa,wb];refine⟨2,3,⟨rfl,rfl⟩,_,ti3,rfl,rfl,rfl,2,3,⟨rfl,rfl⟩,_,ti3,rfl,rfl,rfl,?_⟩;try (refine hK _ rfl ?_;clear hK K)
    refine AW.block (AW.loopS (ι:=List Rat × Nat) (fun z=>[(0,.int .i64 (N:Nat)),(1,.sl 6 (Ff es)),(2,.sl 4 (Bg (p.map Aq))),(8,.osl B 1 0 es.length),(9,.int .i64 (i:Nat)),(11,.osl br 4 0 (2*N)),(20,.sl 6 (Ff es)),(21,.int .i64 (es.length:Nat)),(22,.int .i64 (i:Nat)),(44,.sl 2 [.agg [.int .i64 ((2*a:Nat):Int),.int .i64 ((2*b:Nat):Int)],.agg [.int .i64 ((2*b:Nat):Int),.int .i64 ((2*a:Nat):Int)]]),(45,.int .i64 2),(46,.int .i64 (z.2:Nat))]) (fun z=>M0.set br ⟨44,4,Bg (z.1.map Aq)⟩) (fun z=>z.2≤2∧Ph N p a b (2*z.2)=some z.1) (fun z=>2-z.2)
     (List.replicate (2*N) 0,0) ⟨by simp,rfl⟩ (by simp) (by simp[-Int.natCast_mul]) ?_)
    rintro⟨r,t⟩ ⟨k1,k2⟩;simp only at k1 k2;(repeat refine AW.seq_k fun K hK=>?_);refine AW.rg ?_;simp[-Int.natCast_mul];try (refine hK _ rfl ?_;clear hK K)
    (repeat refine AW.seq ?_);refine AW.cs (fun ht=>?_) (fun ht=>?_) rfl<;>(try simp at ht)
    ·refine AW.skip ?_;try simp[-Int.natCast_mul]
     try (refine hK _ rfl ?_;clear hK K)
     have wt:=Au (t+1) (by omega);obtain⟨u,hu⟩:∃u,(if t<1 then 2*a else 2*b)=u:=⟨_,rfl⟩;obtain⟨v,hv⟩:∃v,(if t<1 then 2*b else 2*a)=v:=⟨_,rfl⟩;have hpr:∀h:t<[AV.agg [.int .i64 ((2*a:Nat):Int),.int .i64 ((2*b:Nat):Int)],AV.agg [.int .i64 ((2*b:Nat):Int),.int .i64 ((2*a:Nat):Int)]].length,[AV.agg [.int .i64 ((2*a:Nat):Int),.int .i64 ((2*b:Nat):Int)],AV.agg [.int .i64 ((2*b:Nat):Int),.int .i64 ((2*a:Nat):Int)]][t]=.agg [.int .i64 (u:Nat),.int .i64 (v:Nat)]:=fun h=>by
      rcases(by omega:t=0∨t=1)with rfl|rfl
      ·rw[←hu,←hv];rfl
      ·rw[←hu,←hv];rfl
     generalize hprs:[AV.agg [.int .i64 ((2*a:Nat):Int),.int .i64 ((2*b:Nat):Int)],AV.agg [.int .i64 ((2*b:Nat):Int),.int .i64 ((2*a:Nat):Int)]]=PRS at hpr ⊢;have hprl:PRS.length=2:=by rw[←hprs];rfl
     (repeat refine AW.seq ?_);refine AW.block ?_;(repeat refine AW.seq_k fun K hK=>?_);refine AW.rg ?_;simp[ht,hprl,hpr,Lc.agg];try (refine hK _ rfl ?_;clear hK K)
     refine Af.intro fun b13 hb13=>?_;refine hK _ rfl ?_;clear hK K;have ones1:∀c y,M0.set br ⟨44,4,Bg (r.map Aq)⟩ c=some y→∀v∈y.l,v.cells.all AV.one=true:=by
      intro c y hy v hv;by_cases e:c=br
      ·rw[e,Ac.set_same]at hy;cases hy;exact Gc _ v hv
      ·rw[Ac.set_other _ _ e]at hy;exact ones0 c y hy v hv
     refine AW.turn [(0,.int .i64 (N:Nat)),(1,.sl 6 (Ff es)),(2,.sl 4 (Bg (p.map Aq))),(8,.osl B 1 0 es.length),(9,.int .i64 (i:Nat)),(11,.osl br 4 0 (2*N)),(20,.sl 6 (Ff es)),(21,.int .i64 (es.length:Nat)),(22,.int .i64 (i:Nat)),(13,.rptr [.int .i64 (u:Nat),.int .i64 (v:Nat)]),(44,.sl 2 PRS),(45,.int .i64 2),(46,.int .i64 (t:Nat))] (M0.set br ⟨44,4,Bg (r.map Aq)⟩) (Ba.drop hb13 ones1)
      (by simp;exact .ptr b13 2 0 0 ⟨121,2,[.agg [.int .i64 (u:Nat),.int .i64 (v:Nat)]]⟩ (.agg [.int .i64 (u:Nat),.int .i64 (v:Nat)]) (Ac.set_same _ _ _) hb13 rfl rfl) ?_
     (repeat refine AW.seq_k fun K hK=>?_);refine AW.rg ?_;simp;try (refine hK _ rfl ?_;clear hK K)
     refine AW.block (AW.loopS (ι:=List Rat × Nat) (fun z=>[(0,.int .i64 (N:Nat)),(1,.sl 6 (Ff es)),(2,.sl 4 (Bg (p.map Aq))),(8,.osl B 1 0 es.length),(9,.int .i64 (i:Nat)),(11,.osl br 4 0 (2*N)),(20,.sl 6 (Ff es)),(21,.int .i64 (es.length:Nat)),(22,.int .i64 (i:Nat)),(13,.rptr [.int .i64 (u:Nat),.int .i64 (v:Nat)]),(44,.sl 2 PRS),(45,.int .i64 2),(46,.int .i64 (t:Nat)),(50,.int .i64 (z.2:Nat))]) (fun z=>M0.set br ⟨44,4,Bg (z.1.map Aq)⟩) (fun z=>z.2≤2∧Ph N p a b (2*t+z.2)=some z.1) (fun z=>2-z.2)
      (r,0) ⟨by simp,k2⟩ rfl (by simp) ?_)
     rintro⟨r,k⟩ ⟨j1,j2⟩;simp only at j1 j2;(repeat refine AW.seq_k fun K hK=>?_);refine AW.rg ?_;simp;try (refine hK _ rfl ?_;clear hK K)
     (repeat refine AW.seq ?_);refine AW.cs (fun hk=>?_) (fun hk=>?_) rfl<;>(try simp at hk)
     ·refine AW.skip ?_;try simp
      try (refine hK _ rfl ?_;clear hK K)
      have wk:=Au (k+1) (by omega);have hul:u+k<2*N:=by rw[←hu];split<;>omega
      have hvl:v+k<2*N:=by rw[←hv];split<;>omega
      have wu:=Au (u+k) (by omega);have wv:=Au (v+k) (by omega);have hpl:p.length=2*N:=hp.1;have hg:∀i,i<2*N→Bu (Cd p i):=fun i hi=>by
       unfold Cd;rw[List.getD_eq_getElem?_getD,List.getElem?_eq_getElem (by omega)];exact hp.2 _ (List.getElem_mem _)
      have hsu:=Mg (Cd p (u+k)) (Cd p (v+k)) (hg _ hul) (hg _ hvl);have hrr:∀i,i<2*N→rr (p.map Aq) i=Aq (Cd p i):=fun i hi=>by
       rw[G6 (by simp;omega)];unfold Cd;simp[hpl,hi]
      (repeat refine AW.seq ?_);refine AW.block ?_;(repeat refine AW.seq_k fun K hK=>?_);refine AW.rg ?_;simp;try (refine hK _ rfl ?_;clear hK K)
      (repeat refine AW.seq_k fun K hK=>?_);refine AW.rd [0,1,2,3,4,5,6,7,8,9,10,11,12,13,14,15,16,17,18,19,20] C6 ?_;simp[-Int.natCast_mul,-Int.natCast_add,wu,wv,hul,hvl,hpl,hrr];cases hd:Cz (Cd p (u+k)) (Cd p (v+k))with
      |none =>
       rw[hd,←Dl,←Dl,C0]at hsu;unfold RR.av B5 at hsu;refine Aa.val hsu ?_;simp[-Int.natCast_add];refine Af.intro fun b15 hb15=>?_;refine hK _ rfl ?_;clear hK K;(repeat refine AW.seq_k fun K hK=>?_);refine AW.rg ?_;simp[-Int.natCast_add];try (refine hK _ rfl ?_;clear hK K)
       refine AW.yes ?_ rfl;(repeat refine AW.seq_k fun K hK=>?_);refine AW.rg ?_;simp[-Int.natCast_add];try (refine hK _ rfl ?_;clear hK K)
       have hno:eqR N es p (.tup [Ap [],.int .i64 2]) Ac.emp:=by
        have hui:uI a b (2*t+k)=u+k:=by unfold uI;rw[←hu];split<;>split<;>omega
        have hvi:vI a b (2*t+k)=v+k:=by unfold vI;rw[←hv];split<;>split<;>omega
        have hs1:Ph N p a b (2*t+k+1)=none:=by rw[Ph,j2,hui,hvi,Option.bind_some,hd];rfl
        have hs4:=Tu (t:=4) hs1 (by omega);have hm:=S5 (t:=es.length) (show Nc N (Ah es) p (i+1)=none by rw[hsc,hs4];rfl) (by omega);unfold eqR;rw[hm];exact⟨rfl,rfl⟩
       exact AW.ret (Ae [Ap [],.int .i64 2] rfl ⟨.nilsl 1,.same _,trivial⟩ hno)
      |some d =>
       rw[hd,←Dl,←Dl,C0,←Dl]at hsu;unfold RR.av at hsu;refine Aa.val hsu ?_;simp[-Int.natCast_add];refine Af.intro fun b15 hb15=>?_;refine hK _ rfl ?_;clear hK K;have hui:uI a b (2*t+k)=u+k:=by unfold uI;rw[←hu];split<;>split<;>omega
       have hvi:vI a b (2*t+k)=v+k:=by unfold vI;rw[←hv];split<;>split<;>omega
       have hst:Ph N p a b (2*t+(k+1))=some (r.set (u+k) d):=by
        rw[show 2*t+(k+1)=(2*t+k)+1 by omega,Ph,j2,hui,hvi,Option.bind_some,hd];rfl
       have ones2:∀c y,M0.set br ⟨44,4,Bg (r.map Aq)⟩ c=some y→∀v∈y.l,v.cells.all AV.one=true:=by
        intro c y hy v hv;by_cases e:c=br
        ·rw[e,Ac.set_same]at hy;cases hy;exact Gc _ v hv
        ·rw[Ac.set_other _ _ e]at hy;exact ones0 c y hy v hv
       have hrl:(Bg (r.map Aq)).length=2*N:=by simp[Bg];exact(H9 j2).1
       refine AW.turn [(0,.int .i64 (N:Nat)),(1,.sl 6 (Ff es)),(2,.sl 4 (Bg (p.map Aq))),(8,.osl B 1 0 es.length),(9,.int .i64 (i:Nat)),(11,.osl br 4 0 (2*N)),(20,.sl 6 (Ff es)),(21,.int .i64 (es.length:Nat)),(22,.int .i64 (i:Nat)),(13,.rptr [.int .i64 (u:Nat),.int .i64 (v:Nat)]),(14,.int .i64 (k:Nat)),(15,.rptr [.bool (Aq d).n1,Ao (Aq d).l1,.bool (Aq d).n2,Ao (Aq d).l2]),(16,.int .i64 0),(44,.sl 2 PRS),(45,.int .i64 2),(46,.int .i64 (t:Nat)),(50,.int .i64 (k:Nat))] (M0.set br ⟨44,4,Bg (r.map Aq)⟩) (Ba.drop hb15 ones2)
        (by simp[-Int.natCast_add];exact De hb15) ?_
       (repeat refine AW.seq_k fun K hK=>?_);refine AW.rg ?_;simp;try (refine hK _ rfl ?_;clear hK K)
       refine AW.no ?_ rfl;refine AW.skip ?_;try simp
       try (refine hK _ rfl ?_;clear hK K)
       (repeat refine AW.seq_k fun K hK=>?_);refine AW.rg ?_;simp[-Int.natCast_mul,-Int.natCast_add,wu,hul,hrl];try (refine hK _ rfl ?_;clear hK K)
       have hset:(Bg (r.map Aq)).set (u+k) (.agg [.bool (Aq d).n1,Ao (Aq d).l1,.bool (Aq d).n2,Ao (Aq d).l2])=Bg ((r.set (u+k) d).map Aq):=by
        unfold Bg;rw[List.map_set,List.map_set];rfl
       rw[hset];(repeat refine AW.seq_k fun K hK=>?_);refine AW.rg ?_;simp[-Int.natCast_add,wk];try (refine hK _ rfl ?_;clear hK K)
       exact⟨r.set (u+k) d,k+1,⟨by omega,hst⟩,by omega,by rw[List.map_set],rfl⟩
     ·refine AW.exit ?_;try simp
      have:k=2:=by omega
      subst this;(repeat refine AW.seq_k fun K hK=>?_);refine AW.rg ?_;simp[-Int.natCast_add,wt];try (refine hK _ rfl ?_;clear hK K)
      exact⟨r,t+1,⟨by omega,by rw[show 2*(t+1)=2*t+2 by omega];exact j2⟩,by omega,rfl,rfl⟩
    ·refine AW.exit ?_;try simp[-Int.natCast_mul]
     have:t=2:=by omega
     subst this;exact⟨r,k2,rfl⟩
   rintro r hr;have hrl:(Bg (r.map Aq)).length=2*N:=by simp[Bg];exact(H9 hr).1
   have hsr:Nc N (Ah es) p (i+1)=some (M++[r]):=by rw[hsc,hr];rfl
   have hbl:(eqB es.length M).length=es.length:=by simp[eqB,Be,gl];omega
   have hpush:(eqB es.length M).set i (.sl 4 (Bg (r.map Aq)))=eqB es.length (M++[r]):=by
    unfold eqB;rw[List.set_append_right _ _ (by simp[Be,gl]),show i-((Be M).map An).length=0 by simp[Be,gl],show es.length-M.length=(es.length-(M.length+1))+1 by omega,List.replicate_succ,List.set_cons_zero];simp[Be,An]
   refine AW.turn [(0,.int .i64 (N:Nat)),(1,.sl 6 (Ff es)),(2,.sl 4 (Bg (p.map Aq))),(8,.osl B 1 0 es.length),(9,.int .i64 (i:Nat)),(11,.sl 4 (Bg (r.map Aq))),(20,.sl 6 (Ff es)),(21,.int .i64 (es.length:Nat)),(22,.int .i64 (i:Nat))] M0 (Ba.drop hbr ones0) ?_ ?_
   ·simp;refine .osl br 4 0 (2*N) _ (Bg (r.map Aq)) (Ac.set_same _ _ _) hbr rfl hrl (by simp[hrl]) (fun k v v' h1 h2=>?_);rw[Nat.zero_add]at h1;rw[h1]at h2;cases h2;exact .same _
   subst hM0;(repeat refine AW.seq_k fun K hK=>?_);refine AW.rg ?_;simp[hi,hbl];try (refine hK _ rfl ?_;clear hK K)
   rw[hpush];(repeat refine AW.seq_k fun K hK=>?_);refine AW.rg ?_;simp[-Int.natCast_add,w1];try (refine hK _ rfl ?_;clear hK K)
   exact⟨_,i+1,⟨by omega,hsr⟩,by omega,rfl,rfl⟩
  ·refine AW.exit ?_;try simp
   have:i=es.length:=by omega
   subst this;exact⟨M,g2,rfl⟩
 rintro M hM;obtain⟨gl,gg⟩:=Gb hM;(repeat refine AW.seq_k fun K hK=>?_);refine AW.rg ?_;simp;try (refine hK _ rfl ?_;clear hK K)
 have e0:eqB es.length M=(Be M).map An:=by unfold eqB;rw[gl];simp
 rw[e0];refine AW.ret (Bo rfl (Du.set (M:=Ac.emp) (fun c y hy=>by cases hy) B (Gt M)) ?_);unfold eqR;rw[hM];exact⟨B,rfl,rfl⟩
end Go.Av
end
section
namespace Go.Av
open Go.Proofs Go.Lam
noncomputable def Gw (m:List (List RR)):AV:=match (K3 m).1,(K3 m).2 with
 |0,v::_=>.tup [An (v.map Aq),.bool true,.int .i64 0]
 |e,_=>.tup [An [],.bool false,.int .i64 e]
theorem Ur (m:List (List RR)) (hm:Sb m):Ai Tryz.prog 70 [Ap m] Ac.emp fun v mm=>v=Gw m∧mm=Ac.emp:=by
 have hk:=X9 m hm;unfold Gw;generalize K3 m=K0 at *;obtain⟨e,V⟩:=K0;simp only at *;refine Ad Tryz.func70 rfl rfl 23 rfl (Nat.le_of_ble_eq_true rfl) ?_;unfold Ap at hk ⊢;(repeat refine AW.seq_k fun K hK=>?_);refine AW.rg ?_;simp[Al];try (refine hK _ rfl ?_;clear hK K)
 (repeat refine AW.seq_k fun K hK=>?_);refine AW.rg ?_;simp;try (refine hK _ rfl ?_;clear hK K)
 refine Aa.val hk ?_;simp;try (refine hK _ rfl ?_;clear hK K)
 by_cases he:e=0
 ·subst he;cases V with
  |nil =>
   (repeat refine AW.seq_k fun K hK=>?_);refine AW.rg ?_;simp[Be];try (refine hK _ rfl ?_;clear hK K)
   refine AW.yes ?_ (by simp[Be]);(repeat refine AW.seq_k fun K hK=>?_);refine AW.rg ?_;simp;try (refine hK _ rfl ?_;clear hK K)
   exact AW.ret (Ae [An [],.bool false,.int .i64 0] rfl ⟨.nilsl 4,.same _,.same _,trivial⟩ ⟨rfl,rfl⟩)
  |cons v t =>
   (repeat refine AW.seq_k fun K hK=>?_);refine AW.rg ?_;simp[-Int.natCast_add,Be];try (refine hK _ rfl ?_;clear hK K)
   refine AW.no ?_ (by simp[-Int.natCast_add,Be]);refine AW.skip ?_;try simp[-Int.natCast_add]
   try (refine hK _ rfl ?_;clear hK K)
   (repeat refine AW.seq_k fun K hK=>?_);refine AW.rg ?_;simp[-Int.natCast_add,Be];try (refine hK _ rfl ?_;clear hK K)
   exact AW.ret (Ae [An (v.map Aq),.bool true,.int .i64 0] rfl ⟨.same _,.same _,.same _,trivial⟩ ⟨rfl,rfl⟩)
 ·(repeat refine AW.seq_k fun K hK=>?_);refine AW.rg ?_;simp[he];try (refine hK _ rfl ?_;clear hK K)
  refine AW.yes ?_ (by simp[he]);(repeat refine AW.seq_k fun K hK=>?_);refine AW.rg ?_;simp;try (refine hK _ rfl ?_;clear hK K)
  exact AW.ret (Ae [An [],.bool false,.int .i64 e] rfl ⟨.nilsl 4,.same _,.same _,trivial⟩ ⟨by cases V<;>(split<;>first | rfl | contradiction | simp_all),rfl⟩)
end Go.Av
end
section
namespace Go.Av
open Go.Proofs Go.Lam
def Jk (n:Nat) (p:List Rat):AV:=match P0 n p with
 |some M=>.tup [Ap (Be M),.int .i64 0]
 |none=>.tup [Ap [],.int .i64 2]
def Mv (p:List Rat) (k:Nat):Prop:=Cd p (2*k)=Cd p 0∧Cd p (2*k+1)=Cd p 1
theorem W0 {n:Nat} {p:List Rat} (h:∀k,1≤k→k<n→Mv p k):Vb n p=none:=by
 unfold Vb;rw[List.find?_range_eq_none];intro k hk;by_cases h1:1≤k
 ·obtain⟨a,b⟩:=h k h1 hk;simp[a,b]
 ·simp[h1]
theorem Wg {n i:Nat} {p:List Rat} (h1:1≤i) (hi:i<n) (hd:¬Mv p i) (h:∀k,1≤k→k<i→Mv p k):Vb n p=some i:=by
 unfold Vb;rw[List.find?_range_eq_some];refine⟨?_,List.mem_range.2 hi,fun k hk=>?_⟩
 ·unfold Mv at hd;by_cases a:Cd p (2*i)=Cd p 0
  ·have b:¬Cd p (2*i+1)=Cd p 1:=fun b=>hd ⟨a,b⟩;simp[h1,b]
  ·simp[h1,a]
 ·by_cases g:1≤k
  ·obtain⟨a,b⟩:=h k g hk;simp[a,b]
  ·simp[g]
def Yd (o:Option Rat):RR:=match o with | some d=>Aq d | none=>⟨false,[],false,[]⟩
def Ze (o:Option Rat):Int:=match o with | some _=>0 | none=>2
theorem Ym (o:Option Rat):C0 o=.tup [(Yd o).av,.int .i64 (Ze o)]:=by cases o<;>rfl
theorem H2 {n i:Nat} {p:List Rat} (h:Vb n p=some i):P0 n p=(Cz (Cd p 1) (Cd p (2*i+1))).bind fun d1=>(Cz (Cd p (2*i)) (Cd p 0)).map fun d2=>[(List.replicate (2*n) (0:Rat)).set 0 1,(List.replicate (2*n) (0:Rat)).set 1 1,((List.replicate (2*n) (0:Rat)).set (2*i) d1).set (2*i+1) d2]:=by
 unfold P0;rw[h]
theorem Ci {M M':Ac} {b n z:Nat} {l:List AV} {e:TypeId} (h:M b=some ⟨e,z,l⟩) (h':M' b=none) (hl:l.length=n):Br M M' (.osl b z 0 n) (.sl z l) :=
 .osl b z 0 n _ l h h' rfl hl (by simp[hl]) (fun k v v' h1 h2=>by rw[Nat.zero_add]at h1;rw[h1]at h2;cases h2;exact .same _)
theorem Qgi (N:Nat) (p:List Rat) (hN:1≤N) (hN12:N≤12) (hp:E3 N p):Ai Tryz.prog 69 [.int .i64 (N:Nat),An (p.map Aq)] Ac.emp fun v m=>v=Jk N p∧m=Ac.emp:=by
 have hzr:=Qx (2*N) (by omega);have hw1:=Q8 1 (by omega) (by omega);rw[Io]at hw1;have w0:=Au (2*N) (by omega);have hpl:p.length=2*N:=hp.1;have hg:∀i,i<2*N→Bu (Cd p i):=fun i hi=>by
  unfold Cd;rw[List.getD_eq_getElem?_getD,List.getElem?_eq_getElem (by omega)];exact hp.2 _ (List.getElem_mem _)
 have hrr:∀i,i<2*N→rr (p.map Aq) i=Aq (Cd p i):=fun i hi=>by
  rw[G6 (by simp;omega)];unfold Cd;simp[hpl,hi]
 have hdf:∀i j,i<2*N→j<2*N→Ai Tryz.prog 105 [(Aq (Cd p i)).av,(Aq (Cd p j)).av] Ac.emp fun v m=>v=.bool (decide (Cd p i≠Cd p j))∧m=Ac.emp:=fun i j hi hj=>by
  have:=X3 (Aq (Cd p i)) (Aq (Cd p j)) (D9 _) (D9 _) (Dq (hg i hi)) (Dq (hg j hj));rw[Hn,Hn]at this;exact this
 refine Ad Tryz.func69 rfl rfl 99 rfl (Nat.le_of_ble_eq_true rfl) ?_;unfold An at *;(repeat refine AW.seq_k fun K hK=>?_);refine AW.rg ?_;simp[Al];try (refine hK _ rfl ?_;clear hK K)
 (repeat refine AW.seq_k fun K hK=>?_);refine AW.rg ?_;simp[-Int.natCast_mul,w0];try (refine hK _ rfl ?_;clear hK K)
 refine Aa.make (R:=fun b v x=>v=.osl b 4 0 (2*N)∧x=⟨44,4,Bg (List.replicate (2*N) (Aq 0))⟩) (hzr.mono fun v m ⟨b,h1,h2⟩=>⟨b,_,⟨h1,rfl⟩,h2⟩) ?_;rintro b0 _ _ ⟨rfl,rfl⟩ hb0 _;simp[-Int.natCast_mul,w0];refine Aa.make (R:=fun b v x=>v=.osl b 4 0 (2*N)∧x=⟨44,4,Bg (List.replicate (2*N) (Aq 0))⟩) (hzr.mono fun v m ⟨b,h1,h2⟩=>⟨b,_,⟨h1,rfl⟩,h2⟩) ?_;rintro b1 _ _ ⟨rfl,rfl⟩ hb1 _;simp[-Int.natCast_mul];refine Af.intro fun B hB=>?_;try (refine hK _ rfl ?_;clear hK K)
 have hz0:Bg (List.replicate (2*N) (Aq 0))=Bg ((List.replicate (2*N) (0:Rat)).map Aq):=by simp
 have hzl:(Bg (List.replicate (2*N) (Aq 0))).length=2*N:=by simp[Bg]
 generalize hz:Bg (List.replicate (2*N) (Aq 0))=Z at *;have n10:b1≠b0:=fun h=>by simp[h]at hb1
 have nB0:B≠b0:=fun h=>by simp[h]at hB
 have nB1:B≠b1:=fun h=>by simp[h]at hB
 have hN2:0<2*N:=by omega
 have hN3:1<2*N:=by omega
 (repeat refine AW.seq_k fun K hK=>?_);refine AW.rdA B [0,1,2,3,4,5,6,7,8,9,10,11] C6 (by simp[-Int.natCast_mul,hzl,hN2,hN3,n10,nB0,nB1]) ?_;simp[-Int.natCast_mul,hzl,hN2,hN3,n10,nB0,nB1];try (refine hK _ rfl ?_;clear hK K)
 refine Aa.val hw1 ?_;simp[-Int.natCast_mul];refine Aa.val hw1 ?_;simp[-Int.natCast_mul,hzl,hN2,hN3,n10,nB0,nB1,Ne.symm nB0,Ne.symm nB1];try (refine hK _ rfl ?_;clear hK K)
 have hr0:Z.set 0 (Aq 1).av=Bg (((List.replicate (2*N) (0:Rat)).set 0 1).map Aq):=by rw[hz0,List.map_set];exact Er _ _ _
 have hr1:Z.set 1 (Aq 1).av=Bg (((List.replicate (2*N) (0:Rat)).set 1 1).map Aq):=by rw[hz0,List.map_set];exact Er _ _ _
 rw[hr0,hr1];have hl0:(Bg (((List.replicate (2*N) (0:Rat)).set 0 1).map Aq)).length=2*N:=by simp[Bg]
 have hl1:(Bg (((List.replicate (2*N) (0:Rat)).set 1 1).map Aq)).length=2*N:=by simp[Bg]
 have hem:∀l,(Be [(List.replicate (2*N) (0:Rat)).set 0 1,(List.replicate (2*N) (0:Rat)).set 1 1,l]).map An=[.sl 4 (Bg (((List.replicate (2*N) (0:Rat)).set 0 1).map Aq)),.sl 4 (Bg (((List.replicate (2*N) (0:Rat)).set 1 1).map Aq)),.sl 4 (Bg (l.map Aq))]:=fun _=>rfl;have hem2:(Be [(List.replicate (2*N) (0:Rat)).set 0 1,(List.replicate (2*N) (0:Rat)).set 1 1]).map An=[.sl 4 (Bg (((List.replicate (2*N) (0:Rat)).set 0 1).map Aq)),.sl 4 (Bg (((List.replicate (2*N) (0:Rat)).set 1 1).map Aq))]:=rfl;have hpN:Vb N p=none→Jk N p=.tup [.sl 1 [.sl 4 (Bg (((List.replicate (2*N) (0:Rat)).set 0 1).map Aq)),.sl 4 (Bg (((List.replicate (2*N) (0:Rat)).set 1 1).map Aq))],.int .i64 0]:=fun h=>by
  unfold Jk P0 Ap;rw[h];rfl
 generalize Bg (((List.replicate (2*N) (0:Rat)).set 0 1).map Aq)=R0 at *;generalize Bg (((List.replicate (2*N) (0:Rat)).set 1 1).map Aq)=R1 at *;generalize hM0:Ac.emp.set B ⟨51,1,[.sl 4 R0,.sl 4 R1]⟩=M0;have hM0B:M0 B=some ⟨51,1,[.sl 4 R0,.sl 4 R1]⟩:=by rw[←hM0];exact Ac.set_same _ _ _
 have hM0n:∀c,c≠B→M0 c=none:=fun c h=>by rw[←hM0];exact Ac.set_other _ _ h
 have ones0:Du M0:=by
  rw[←hM0];exact Du.set (M:=Ac.emp) (fun c y hy=>by cases hy) B (by simp[AV.cells,AV.one])
 refine AW.turn [(0,.int .i64 (N:Nat)),(1,.sl 4 (Bg (p.map Aq))),(6,.osl B 1 0 2)] M0 ⟨fun c x' hx'=>?_⟩ (by simp[-Int.natCast_mul]) ?_
 ·by_cases hc:c=B
  ·subst hc;rw[hM0B]at hx';cases hx';refine⟨⟨51,1,[.osl b0 4 0 (2*N),.osl b1 4 0 (2*N)]⟩,by simp[nB0,nB1],rfl,rfl,rfl,fun k v v' h1 h2=>?_⟩
   match k with
   |0 =>
    cases h1;cases h2;exact⟨Ci (by simp[Ne.symm n10];rfl) (hM0n _ (Ne.symm nB0)) hl0,rfl⟩
   |1 =>
    cases h1;cases h2;exact⟨Ci (by simp;rfl) (hM0n _ (Ne.symm nB1)) hl1,rfl⟩
   |k+2=>cases h1
  ·rw[hM0n c hc]at hx';cases hx'
 refine AW.seq_ex (ι:=Unit) (fun _=>[(6,.osl B 1 0 2)]) (fun _=>M0) (fun _=>Vb N p=none) ?_ ?_
 ·(repeat refine AW.seq_k fun K hK=>?_);refine AW.rg ?_;simp;try (refine hK _ rfl ?_;clear hK K)
  refine AW.block (AW.loopS (ι:=Nat) (fun i=>[(0,.int .i64 (N:Nat)),(1,.sl 4 (Bg (p.map Aq))),(6,.osl B 1 0 2),(7,.int .i64 ((2*i:Nat):Int))]) (fun _=>M0) (fun i=>1≤i∧i≤N∧∀k,1≤k→k<i→Mv p k) (fun i=>N-i) 1 ⟨by omega,by omega,fun k h1 h2=>by omega⟩ rfl (by simp) ?_);rintro i ⟨g1,g2,g3⟩;(repeat refine AW.seq_k fun K hK=>?_);refine AW.rg ?_;simp[-Int.natCast_mul,w0];try (refine hK _ rfl ?_;clear hK K)
  (repeat refine AW.seq ?_);refine AW.cs (fun hi=>?_) (fun hi=>?_) rfl<;>(try simp at hi)
  ·refine AW.skip ?_;try simp[-Int.natCast_mul]
   try (refine hK _ rfl ?_;clear hK K)
   have hi':i<N:=by omega
   have a0:2*i<2*N:=by omega
   have a1:2*i+1<2*N:=by omega
   have w2:=Au (2*i+1) (by omega);have w3:=Au (2*i+2) (by omega);have d0:=hdf (2*i) 0 a0 hN2;have d1:=hdf (2*i+1) 1 a1 hN3;unfold RR.av at d0 d1;have hr0:=hrr _ a0;have hr1:=hrr _ a1;have hr2:=hrr 0 hN2;have hr3:=hrr 1 hN3;obtain⟨T,hT⟩:∃T:Bool,(T=true↔Mv p i):=⟨(decide (Cd p (2*i)=Cd p 0)&&decide (Cd p (2*i+1)=Cd p 1)),by simp[Mv]⟩;(repeat refine AW.seq ?_);refine AW.block ?_;refine AW.seq_k fun K hK=>?_;refine AW.seq_ex (ι:=Unit) (fun _=>[(0,.int .i64 (N:Nat)),(1,.sl 4 (Bg (p.map Aq))),(6,.osl B 1 0 2),(7,.int .i64 ((2*i:Nat):Int)),(54,.bool T)]) (fun _=>M0) (fun _=>True) ?_ ?_
   ·refine AW.rd [0,1,2,3,4,5,6,7,8,9,10,11,12,13,14,15,16,17,18,19,20] C6 ?_;simp[-Int.natCast_mul,hpl,a0,hN2,hr0,hr2];refine Aa.val d0 ?_;by_cases e0:Cd p (2*i)=Cd p 0
    ·simp[-Int.natCast_add,-Int.natCast_mul,e0,w2,hpl,a1,hN3,hr1,hr3];refine Aa.val d1 ?_;simp[-Int.natCast_add,-Int.natCast_mul];rw[Bool.eq_iff_iff,hT];simp[Mv,e0]
    ·simp[-Int.natCast_mul,e0];rw[←Bool.not_eq_true,hT];simp[Mv,e0]
   rintro _ _;cases T with
   |true =>
    have hs:=hT.1 rfl;refine AW.yes ?_ rfl;refine AW.exit ?_;try simp[-Int.natCast_mul]
    (repeat refine AW.seq_k fun K hK=>?_);refine AW.rg ?_;simp[-Int.natCast_add,-Int.natCast_mul,w3];try (refine hK _ rfl ?_;clear hK K)
    exact⟨i+1,⟨by omega,by omega,fun k h1 h2=>by
     rcases Nat.lt_or_ge k i with h|h
     ·exact g3 k h1 h
     ·rw[show k=i by omega];exact hs⟩,by omega,rfl⟩
   |false =>
    have hns:¬Mv p i:=fun h=>by have:=hT.2 h;cases this
    have hpj:=Wg g1 hi' hns g3;have s1:=Mg (Cd p 1) (Cd p (2*i+1)) (hg _ hN3) (hg _ a1);have s2:=Mg (Cd p (2*i)) (Cd p 0) (hg _ a0) (hg _ hN2);rw[Ym,←Dl,←Dl]at s1 s2;unfold RR.av at s1 s2;refine AW.no ?_ rfl;refine AW.skip ?_;try simp[-Int.natCast_mul]
    try (refine hK _ rfl ?_;clear hK K)
    (repeat refine AW.seq_k fun K hK=>?_);refine AW.rg ?_;simp[-Int.natCast_mul,w0];try (refine hK _ rfl ?_;clear hK K)
    refine Aa.make (R:=fun b v x=>v=.osl b 4 0 (2*N)∧x=⟨44,4,Z⟩) (hzr.mono fun v m ⟨b,h1,h2⟩=>⟨b,_,⟨h1,rfl⟩,h2⟩) ?_;rintro br _ _ ⟨rfl,rfl⟩ hbr _;simp[-Int.natCast_mul];try (refine hK _ rfl ?_;clear hK K)
    (repeat refine AW.seq_k fun K hK=>?_);refine AW.rg ?_;simp[-Int.natCast_mul];try (refine hK _ rfl ?_;clear hK K)
    (repeat refine AW.seq_k fun K hK=>?_);refine AW.rd [0,1,2,3,4,5,6,7,8,9,10,11,12,13,14,15,16] C6 ?_;simp[-Int.natCast_add,-Int.natCast_mul,hpl,w2,a1,hN3,hr1,hr3];try (refine hK _ rfl ?_;clear hK K)
    refine Aa.val s1 ?_;simp[-Int.natCast_add,-Int.natCast_mul,hzl,a0];try (refine hK _ rfl ?_;clear hK K)
    (repeat refine AW.seq_k fun K hK=>?_);refine AW.rd [0,1,2,3,4,5,6,7,8,9,10,11,12,13,14,15,16] C6 ?_;simp[-Int.natCast_add,-Int.natCast_mul,hpl,w2,a0,hN2,hr0,hr2];try (refine hK _ rfl ?_;clear hK K)
    refine Aa.val s2 ?_;simp[-Int.natCast_add,-Int.natCast_mul,hzl,a1];try (refine hK _ rfl ?_;clear hK K)
    cases h1:Cz (Cd p 1) (Cd p (2*i+1))with
    |none =>
     have hno:Jk N p=.tup [Ap [],.int .i64 2]:=by unfold Jk;rw[H2 hpj,h1];rfl
     (repeat refine AW.seq_k fun K hK=>?_);refine AW.rg ?_;simp[-Int.natCast_add,-Int.natCast_mul,Ze];try (refine hK _ rfl ?_;clear hK K)
     refine AW.yes ?_ rfl;(repeat refine AW.seq_k fun K hK=>?_);refine AW.rg ?_;simp[-Int.natCast_add,-Int.natCast_mul];try (refine hK _ rfl ?_;clear hK K)
     exact AW.ret (Ae [Ap [],.int .i64 2] rfl ⟨.nilsl 1,.same _,trivial⟩ ⟨by rw[hno];rfl,rfl⟩)
    |some x1 =>
     cases h2:Cz (Cd p (2*i)) (Cd p 0)with
     |none =>
      have hno:Jk N p=.tup [Ap [],.int .i64 2]:=by unfold Jk;rw[H2 hpj,h1,h2];rfl
      (repeat refine AW.seq_k fun K hK=>?_);refine AW.rg ?_;simp[-Int.natCast_add,-Int.natCast_mul,Ze];try (refine hK _ rfl ?_;clear hK K)
      refine AW.no ?_ rfl;refine AW.skip ?_;try simp[-Int.natCast_add,-Int.natCast_mul]
      try (refine hK _ rfl ?_;clear hK K)
      (repeat refine AW.seq_k fun K hK=>?_);refine AW.rg ?_;simp[-Int.natCast_add,-Int.natCast_mul,Ze];try (refine hK _ rfl ?_;clear hK K)
      refine AW.yes ?_ rfl;(repeat refine AW.seq_k fun K hK=>?_);refine AW.rg ?_;simp[-Int.natCast_add,-Int.natCast_mul];try (refine hK _ rfl ?_;clear hK K)
      exact AW.ret (Ae [Ap [],.int .i64 2] rfl ⟨.nilsl 1,.same _,trivial⟩ ⟨by rw[hno];rfl,rfl⟩)
     |some x2 =>
      (repeat refine AW.seq_k fun K hK=>?_);refine AW.rg ?_;simp[-Int.natCast_add,-Int.natCast_mul,Ze];try (refine hK _ rfl ?_;clear hK K)
      refine AW.no ?_ rfl;refine AW.skip ?_;try simp[-Int.natCast_add,-Int.natCast_mul]
      try (refine hK _ rfl ?_;clear hK K)
      (repeat refine AW.seq_k fun K hK=>?_);refine AW.rg ?_;simp[-Int.natCast_add,-Int.natCast_mul,Ze];try (refine hK _ rfl ?_;clear hK K)
      refine AW.no ?_ rfl;refine AW.skip ?_;try simp[-Int.natCast_add,-Int.natCast_mul]
      try (refine hK _ rfl ?_;clear hK K)
      have hrow:(Z.set (2*i) (.agg [.bool (Yd (some x1)).n1,Ao (Yd (some x1)).l1,.bool (Yd (some x1)).n2,Ao (Yd (some x1)).l2])).set (2*i+1) (.agg [.bool (Yd (some x2)).n1,Ao (Yd (some x2)).l1,.bool (Yd (some x2)).n2,Ao (Yd (some x2)).l2])=Bg ((((List.replicate (2*N) (0:Rat)).set (2*i) x1).set (2*i+1) x2).map Aq):=by
       rw[hz0,List.map_set,List.map_set];exact(congrArg (fun l=>List.set l (2*i+1) (Aq x2).av) (Er _ _ (Aq x1))).trans (Er _ _ (Aq x2))
      have hyes:Jk N p=.tup [.sl 1 [.sl 4 R0,.sl 4 R1,.sl 4 (Bg ((((List.replicate (2*N) (0:Rat)).set (2*i) x1).set (2*i+1) x2).map Aq))],.int .i64 0]:=by
       unfold Jk;rw[H2 hpj,h1,h2];unfold Ap;simp only[Option.bind_some,Option.map_some];rw[hem]
      rw[hrow];have hrl:(Bg ((((List.replicate (2*N) (0:Rat)).set (2*i) x1).set (2*i+1) x2).map Aq)).length=2*N:=by simp[Bg]
      generalize Bg ((((List.replicate (2*N) (0:Rat)).set (2*i) x1).set (2*i+1) x2).map Aq)=RW at *;refine AW.turn [(6,.osl B 1 0 2),(8,.sl 4 RW)] M0 (Ba.drop hbr ones0) (by simp[-Int.natCast_add,-Int.natCast_mul];exact Ci (Ac.set_same _ _ _) hbr hrl) ?_;(repeat refine AW.seq_k fun K hK=>?_);refine AW.rgR [96] ?_;simp[-Int.natCast_mul,hM0B];try (refine hK _ rfl ?_;clear hK K)
      refine⟨by unfold maxLen;omega,Af.intro fun b' hb'=>?_⟩;refine hK _ rfl ?_;clear hK K;exact AW.ret (Ae [.sl 1 [.sl 4 R0,.sl 4 R1,.sl 4 RW],.int .i64 0] rfl ⟨Ci (Ac.set_same _ _ _) rfl rfl,.same _,trivial⟩ ⟨by rw[hyes];rfl,rfl⟩)
  ·refine AW.exit ?_;try simp[-Int.natCast_mul]
   have:i=N:=by omega
   subst this;exact W0 g3
 ·rintro _ hj;(repeat refine AW.seq_k fun K hK=>?_);refine AW.rg ?_;simp;try (refine hK _ rfl ?_;clear hK K)
  have hV:Br M0 Ac.emp (.osl B 1 0 2) (.sl 1 [.sl 4 R0,.sl 4 R1]):=Ci hM0B rfl rfl;exact AW.ret (Ae [.sl 1 [.sl 4 R0,.sl 4 R1],.int .i64 0] rfl ⟨hV,.same _,trivial⟩ ⟨by rw[hpN hj];rfl,rfl⟩)
end Go.Av
end
section
namespace Go.Av
open Go.Proofs Go.Lam
theorem Re (n:Int) (h1:-9223372036854775808≤n) (h2:n<9223372036854775808):Ai Tryz.prog 75 [.int .i64 n] Ac.emp fun v m=>v=(Aq (Kw n)).av∧m=Ac.emp:=by
 have ho:=T0 n 1 h1 h2 (by omega) (by omega) (by omega);have e:Rat.divInt n 1=Kw n:=rfl;rw[e,C0]at ho;generalize Kw n=q at *;rw[Dl];unfold Gl at *;refine Ad Tryz.func75 rfl rfl 11 rfl (Nat.le_of_ble_eq_true rfl) ?_;(repeat refine AW.seq_k fun K hK=>?_);refine AW.rg ?_;simp[Al];try (refine hK _ rfl ?_;clear hK K)
 refine Af.intro fun b2 hb2=>?_;refine hK _ rfl ?_;clear hK K;(repeat refine AW.seq_k fun K hK=>?_);refine AW.rg ?_;simp;try (refine hK _ rfl ?_;clear hK K)
 refine Aa.val ho ?_;simp;refine Af.intro fun b3 hb3=>?_;simp only[Am,Aw,and_true]at hb3;try simp[hb3]
 refine hK _ rfl ?_;clear hK K;(repeat refine AW.seq_k fun K hK=>?_);refine AW.rg ?_;simp[hb3];try (refine hK _ rfl ?_;clear hK K)
 exact AW.ret (Ae (vs:=[.agg [.bool (decide (q.num<0)),Ao (Ar q.num.natAbs),.bool false,Ao (Ar q.den)]]) [.agg [.bool (decide (q.num<0)),Ao (Ar q.num.natAbs),.bool false,Ao (Ar q.den)]] (by simp[hb3]) (by simp) ⟨rfl,rfl⟩)
theorem Qgx (n:Nat) (hn:n<2^30):Ai Tryz.prog 64 [.int .i64 n] Ac.emp (Qbi n):=by
 have hw:=Re 0 (by omega) (by omega);rw[F7]at hw;refine Ad Tryz.func64 rfl rfl 15 rfl (Nat.le_of_ble_eq_true rfl) ?_;(repeat refine AW.seq_k fun K hK=>?_);refine AW.rg ?_;simp[Al];try (refine hK _ rfl ?_;clear hK K)
 (repeat refine AW.seq_k fun K hK=>?_);refine AW.rg ?_;simp;try (refine hK _ rfl ?_;clear hK K)
 refine AW.seq_ex (ι:=AV × Ac) (fun z=>[(3,z.1)]) (fun z=>z.2) (fun z=>Qbi n z.1 z.2) ?_ ?_
 ·(repeat refine AW.seq_k fun K hK=>?_);refine AW.rg ?_;simp;try (refine hK _ rfl ?_;clear hK K)
  refine AW.block (AW.loopS (ι:=Nat × AV × Ac) (fun z=>[(0,.int .i64 n),(3,z.2.1),(4,.int .i64 (z.1:Nat))]) (fun z=>z.2.2) (fun z=>z.1≤n∧Qbi z.1 z.2.1 z.2.2) (fun z=>n-z.1) (0,.nil,Ac.emp) ⟨by simp,.inl ⟨rfl,rfl,rfl⟩⟩ rfl (by simp) ?_);rintro⟨i,v,M⟩ ⟨g1,g2⟩;simp only at g1 g2;(repeat refine AW.seq_k fun K hK=>?_);refine AW.rg ?_;simp;try (refine hK _ rfl ?_;clear hK K)
  (repeat refine AW.seq ?_);refine AW.cs (fun hi=>?_) (fun hi=>?_) rfl<;>(try simp at hi)
  ·refine AW.skip ?_;try simp
   refine hK _ rfl ?_;clear hK K;have w1:=Au (i+1) (by omega);refine AW.seq_ex (ι:=AV × Ac) (fun z=>[(0,.int .i64 n),(3,z.1),(4,.int .i64 (i:Nat))]) (fun z=>z.2) (fun z=>Qbi (i+1) z.1 z.2) ?_ ?_
   ·(repeat refine AW.seq ?_);refine AW.block ?_;rcases g2 with⟨z1,z2,z3⟩ | ⟨b0,z2,z3⟩
    ·subst z1 z2 z3;(repeat refine AW.seq_k fun K hK=>?_);refine AW.rgR [12] ?_;simp;try (refine hK _ rfl ?_;clear hK K)
     refine Aa.val hw ?_;simp;exact⟨by unfold maxLen;omega,Af.intro fun b hb=>⟨_,_,.inr ⟨b,rfl,rfl⟩,rfl,rfl⟩⟩
    ·subst z2 z3;(repeat refine AW.seq_k fun K hK=>?_);refine AW.rgR [12] ?_;simp;try (refine hK _ rfl ?_;clear hK K)
     refine Aa.val hw ?_;simp;exact⟨by omega,by unfold maxLen;omega,Af.intro fun b hb=>⟨_,_,.inr ⟨b,rfl,rfl⟩,by rw[List.replicate_succ'];simp[Bg],rfl⟩⟩
   rintro⟨v,M⟩ hs;(repeat refine AW.seq_k fun K hK=>?_);refine AW.rg ?_;simp[-Int.natCast_add,w1];try (refine hK _ rfl ?_;clear hK K)
   exact⟨i+1,v,M,⟨hi,hs⟩,by omega,by simp⟩
  ·refine AW.exit ?_;try simp
   have:i=n:=by omega
   subst this;exact⟨v,M,g2,rfl,rfl⟩
 rintro⟨v,M⟩ hs;simp only at hs;(repeat refine AW.seq_k fun K hK=>?_);refine AW.rg ?_;simp;try (refine hK _ rfl ?_;clear hK K)
 refine AW.ret (Bo rfl ?_ hs);rcases hs with⟨_,_,z3⟩ | ⟨b,_,z3⟩
 ·intro b y hy;rw[z3]at hy;cases hy
 ·rw[z3];exact Du.set (fun c y hy=>by cases hy) b (Gc _)
theorem Qbe (n:Nat) (h0:0<n) (hn:n<2^30):Ai Tryz.prog 64 [.int .i64 n] Ac.emp fun v m=>∃b x,(v=.osl b 4 0 n∧x=⟨44,4,Bg (List.replicate n (Aq 0))⟩)∧m=Ac.emp.set b x:=by
 refine(Qgx n hn).mono ?_;rintro v m (⟨h,_⟩ | ⟨b,h1,h2⟩)
 ·omega
 ·exact⟨b,_,⟨h1,rfl⟩,h2⟩
theorem Nw {a b:Rat} (ha:Bu a):Ai Tryz.prog 33 [(Aq a).av,(Aq b).av] Ac.emp fun v m=>v=.bool (decide (a=b))∧m=Ac.emp:=by
 refine(Wa (Aq a) (Aq b) (Up ha)).mono ?_;rintro v m ⟨⟨t,rfl,ht⟩,h2⟩;refine⟨?_,h2⟩;have e:Aq a=Aq b↔a=b:=⟨fun h=>by rw[←Hn a,h,Hn],fun h=>by rw[h]⟩;rw[e]at ht;cases t<;>simp_all
theorem O0 (r:List Rat) (i:Nat) (d:Rat):(Bg (r.map Aq)).set i (.agg [.bool (Aq d).n1,Ao (Aq d).l1,.bool (Aq d).n2,Ao (Aq d).l2])=Bg ((r.set i d).map Aq):=by
 rw[List.map_set];exact Er _ _ (Aq d)
end Go.Av
end
section
namespace Go.Av
open Go.Proofs Go.Lam
def Qbo (n:Nat) (es:List RE) (p:List Rat) (v:AV) (m:Ac):Prop:=match Nc n (Ah es) p es.length with
 |some M=>∃ov ob,v=.tup [ov,.int .i64 0]∧Fj m 51 1 ov ob ((Be M).map An)
 |none=>v=.tup [Ap [],.int .i64 2]∧m=Ac.emp
structure EqS where
 M:Ac
 ov:AV
 ob:List Nat
 E:List (List Rat)
theorem Qb (N:Nat) (es:List RE) (p:List Rat) (hN:1≤N) (hN12:N≤12) (hok:Ly N es) (h3:es.length≤40) (hp:E3 N p):Ai Tryz.prog 30 [.int .i64 (N:Nat),A8 es,An (p.map Aq)] Ac.emp (Qbo N es p):=by
 have hzr:=Qbe (2*N) (by omega) (by omega);have w0:=Au (2*N) (by omega);have hpl:p.length=2*N:=hp.1;have hg:∀i,i<2*N→Bu (Cd p i):=fun i hi=>by
  unfold Cd;rw[List.getD_eq_getElem?_getD,List.getElem?_eq_getElem (by omega)];exact hp.2 _ (List.getElem_mem _)
 have hrr:∀i,i<2*N→rr (p.map Aq) i=Aq (Cd p i):=fun i hi=>by
  rw[G6 (by simp;omega)];unfold Cd;simp[hpl,hi]
 refine Ad Tryz.func30 rfl rfl 103 rfl (Nat.le_of_ble_eq_true rfl) ?_;unfold A8 An at *;(repeat refine AW.seq_k fun K hK=>?_);refine AW.rg ?_;simp[Al];try (refine hK _ rfl ?_;clear hK K)
 (repeat refine AW.seq_k fun K hK=>?_);refine AW.rg ?_;simp;try (refine hK _ rfl ?_;clear hK K)
 refine AW.seq_ex (ι:=EqS) (fun z=>[(8,z.ov)]) (fun z=>z.M) (fun z=>Nc N (Ah es) p es.length=some z.E∧Fj z.M 51 1 z.ov z.ob ((Be z.E).map An)) ?_ ?_
 ·(repeat refine AW.seq_k fun K hK=>?_);refine AW.rg ?_;simp;try (refine hK _ rfl ?_;clear hK K)
  refine AW.block (AW.loopS (ι:=EqS × Nat) (fun z=>[(0,.int .i64 (N:Nat)),(1,.sl 6 (Ff es)),(2,.sl 4 (Bg (p.map Aq))),(8,z.1.ov),(9,.int .i64 (z.2:Nat))]) (fun z=>z.1.M) (fun z=>z.2≤es.length∧Nc N (Ah es) p z.2=some z.1.E∧Fj z.1.M 51 1 z.1.ov z.1.ob ((Be z.1.E).map An)) (fun z=>es.length-z.2) (⟨Ac.emp,.nil,[],[]⟩,0) ⟨by simp,rfl,Fj.start _ _⟩ rfl (by simp) ?_);rintro⟨⟨M,ov,ob,E⟩,i⟩ ⟨g1,g2,g3⟩;simp only at g1 g2 g3;obtain⟨gl,gg⟩:=Gb g2;(repeat refine AW.seq_k fun K hK=>?_);refine AW.rg ?_;simp;try (refine hK _ rfl ?_;clear hK K)
  (repeat refine AW.seq ?_);refine AW.cs (fun hi=>?_) (fun hi=>?_) rfl<;>(try simp at hi)
  ·refine AW.skip ?_;try simp
   try (refine hK _ rfl ?_;clear hK K)
   have w1:=Au (i+1) (by omega);obtain⟨e1,e2,e3⟩:=hok i hi;obtain⟨a,ha⟩:∃a,(Ah es i).1=a:=⟨_,rfl⟩;obtain⟨b,hb⟩:∃b,(Ah es i).2=b:=⟨_,rfl⟩;have hsc:Nc N (Ah es) p (i+1)=(Ph N p a b 4).map fun r=>E++[r]:=by rw[Nc,g2,ha,hb];rfl
   rw[ha]at e1;rw[hb]at e2;have han:a<N:=ha ▸ e3.1;have hbn:b<N:=hb ▸ e3.2.1;have wa:=Au (2*a) (by omega);have wb:=Au (2*b) (by omega);have ones0:Du M:=g3.ones (Gt _);(repeat refine AW.seq ?_);refine AW.block ?_;(repeat refine AW.seq_k fun K hK=>?_);refine AW.rg ?_;simp[-Int.natCast_mul,hi,C1,e1,e2,wa];try (refine hK _ rfl ?_;clear hK K)
   (repeat refine AW.seq_k fun K hK=>?_);refine AW.rg ?_;simp[-Int.natCast_mul,hi,C1,e1,e2,wb];try (refine hK _ rfl ?_;clear hK K)
   (repeat refine AW.seq_k fun K hK=>?_);refine AW.rg ?_;simp[-Int.natCast_mul,w0];try (refine hK _ rfl ?_;clear hK K)
   refine Aa.make hzr ?_;rintro br _ _ ⟨rfl,rfl⟩ hbr _;simp[-Int.natCast_mul];try (refine hK _ rfl ?_;clear hK K)
   have hz0:Bg (List.replicate (2*N) (Aq 0))=Bg ((List.replicate (2*N) (0:Rat)).map Aq):=by simp
   rw[hz0];refine AW.seq_ex (ι:=List Rat) (fun _=>[(0,.int .i64 (N:Nat)),(1,.sl 6 (Ff es)),(2,.sl 4 (Bg (p.map Aq))),(8,ov),(9,.int .i64 (i:Nat)),(10,.int .i64 ((2*a:Nat):Int)),(11,.int .i64 ((2*b:Nat):Int)),(12,.osl br 4 0 (2*N))]) (fun r=>M.set br ⟨44,4,Bg (r.map Aq)⟩) (fun r=>Ph N p a b 2=some r) ?_ ?_
   ·(repeat refine AW.seq_k fun K hK=>?_);refine AW.rg ?_;simp[-Int.natCast_mul];try (refine hK _ rfl ?_;clear hK K)
    refine AW.block (AW.loopS (ι:=List Rat × Nat) (fun z=>[(0,.int .i64 (N:Nat)),(1,.sl 6 (Ff es)),(2,.sl 4 (Bg (p.map Aq))),(8,ov),(9,.int .i64 (i:Nat)),(10,.int .i64 ((2*a:Nat):Int)),(11,.int .i64 ((2*b:Nat):Int)),(12,.osl br 4 0 (2*N)),(13,.int .i64 (z.2:Nat))]) (fun z=>M.set br ⟨44,4,Bg (z.1.map Aq)⟩) (fun z=>z.2≤2∧Ph N p a b (0+z.2)=some z.1) (fun z=>2-z.2)
     (List.replicate (2*N) 0,0) ⟨by simp,rfl⟩ (by simp) (by simp[-Int.natCast_mul]) ?_)
    rintro⟨r,k⟩ ⟨j1,j2⟩;simp only at j1 j2;(repeat refine AW.seq_k fun K hK=>?_);refine AW.rg ?_;simp[-Int.natCast_mul];try (refine hK _ rfl ?_;clear hK K)
    (repeat refine AW.seq ?_);refine AW.cs (fun hk=>?_) (fun hk=>?_) rfl<;>(try simp at hk)
    ·refine AW.skip ?_;try simp[-Int.natCast_mul]
     try (refine hK _ rfl ?_;clear hK K)
     have wk:=Au (k+1) (by omega);have hul:2*a+k<2*N:=by omega
     have hvl:2*b+k<2*N:=by omega
     have wu:=Au (2*a+k) (by omega);have wv:=Au (2*b+k) (by omega);have hsu:=H1 (Cd p (2*a+k)) (Cd p (2*b+k)) (hg _ hul) (hg _ hvl);have hui:uI a b (0+k)=2*a+k:=by unfold uI;split<;>omega
     have hvi:vI a b (0+k)=2*b+k:=by unfold vI;split<;>omega
     have ones2:Du (M.set br ⟨44,4,Bg (r.map Aq)⟩):=ones0.set br (Gc _);have hrl:(Bg (r.map Aq)).length=2*N:=by simp[Bg];exact(H9 j2).1
     (repeat refine AW.seq ?_);refine AW.block ?_;(repeat refine AW.seq_k fun K hK=>?_);refine AW.rd [0,1,2,3,4,5,6,7,8,9,10,11,12,13,14,15,16,17,18] C6 ?_;simp[-Int.natCast_add,-Int.natCast_mul,wu,wv,hul,hvl,hpl,hrr];try (refine hK _ rfl ?_;clear hK K)
     cases hd:Cz (Cd p (2*a+k)) (Cd p (2*b+k))with
     |none =>
      rw[hd,←Dl,←Dl,C0]at hsu;unfold RR.av B5 at hsu;refine Aa.val hsu ?_;simp[-Int.natCast_add,-Int.natCast_mul];refine Af.intro fun b15 hb15=>?_;refine hK _ rfl ?_;clear hK K;(repeat refine AW.seq_k fun K hK=>?_);refine AW.rg ?_;simp[-Int.natCast_add,-Int.natCast_mul];try (refine hK _ rfl ?_;clear hK K)
      refine AW.yes ?_ rfl;(repeat refine AW.seq_k fun K hK=>?_);refine AW.rg ?_;simp[-Int.natCast_add,-Int.natCast_mul];try (refine hK _ rfl ?_;clear hK K)
      have hno:Qbo N es p (.tup [Ap [],.int .i64 2]) Ac.emp:=by
       have hs1:Ph N p a b (0+k+1)=none:=by rw[Ph,j2,hui,hvi,Option.bind_some,hd];rfl
       have hs4:=Tu (t:=4) hs1 (by omega);have hm:=S5 (t:=es.length) (show Nc N (Ah es) p (i+1)=none by rw[hsc,hs4];rfl) (by omega);unfold Qbo;rw[hm];exact⟨rfl,rfl⟩
      exact AW.ret (Ae [Ap [],.int .i64 2] rfl ⟨.nilsl 1,.same _,trivial⟩ hno)
     |some d =>
      rw[hd,←Dl,←Dl,C0,←Dl]at hsu;unfold RR.av at hsu;refine Aa.val hsu ?_;simp[-Int.natCast_add,-Int.natCast_mul];refine Af.intro fun b15 hb15=>?_;refine hK _ rfl ?_;clear hK K;have hst:Ph N p a b (0+(k+1))=some (r.set (2*a+k) d):=by
       rw[show 0+(k+1)=(0+k)+1 by omega,Ph,j2,hui,hvi,Option.bind_some,hd];rfl
      refine AW.turn [(0,.int .i64 (N:Nat)),(1,.sl 6 (Ff es)),(2,.sl 4 (Bg (p.map Aq))),(8,ov),(9,.int .i64 (i:Nat)),(10,.int .i64 ((2*a:Nat):Int)),(11,.int .i64 ((2*b:Nat):Int)),(12,.osl br 4 0 (2*N)),(13,.int .i64 (k:Nat)),(14,.rptr [.bool (Aq d).n1,Ao (Aq d).l1,.bool (Aq d).n2,Ao (Aq d).l2]),(15,.int .i64 0)] (M.set br ⟨44,4,Bg (r.map Aq)⟩) (Ba.drop hb15 ones2)
       (by simp[-Int.natCast_add,-Int.natCast_mul];exact De hb15) ?_
      (repeat refine AW.seq_k fun K hK=>?_);refine AW.rg ?_;simp[-Int.natCast_mul];try (refine hK _ rfl ?_;clear hK K)
      refine AW.no ?_ rfl;refine AW.skip ?_;try simp[-Int.natCast_mul]
      try (refine hK _ rfl ?_;clear hK K)
      (repeat refine AW.seq_k fun K hK=>?_);refine AW.rg ?_;simp[-Int.natCast_add,-Int.natCast_mul,wu,hul,hrl];try (refine hK _ rfl ?_;clear hK K)
      rw[O0];(repeat refine AW.seq_k fun K hK=>?_);refine AW.rg ?_;simp[-Int.natCast_add,-Int.natCast_mul,wk];try (refine hK _ rfl ?_;clear hK K)
      exact⟨r.set (2*a+k) d,k+1,⟨by omega,by simpa using hst⟩,by omega,by rw[List.map_set],rfl⟩
    ·refine AW.exit ?_;try simp[-Int.natCast_mul]
     have:k=2:=by omega
     subst this;exact⟨r,j2,rfl⟩
   rintro r2 hr2;refine AW.seq_ex (ι:=List Rat) (fun _=>[(0,.int .i64 (N:Nat)),(1,.sl 6 (Ff es)),(2,.sl 4 (Bg (p.map Aq))),(8,ov),(9,.int .i64 (i:Nat)),(10,.int .i64 ((2*a:Nat):Int)),(11,.int .i64 ((2*b:Nat):Int)),(12,.osl br 4 0 (2*N))]) (fun r=>M.set br ⟨44,4,Bg (r.map Aq)⟩) (fun r=>Ph N p a b 4=some r) ?_ ?_
   ·(repeat refine AW.seq_k fun K hK=>?_);refine AW.rg ?_;simp[-Int.natCast_mul];try (refine hK _ rfl ?_;clear hK K)
    refine AW.block (AW.loopS (ι:=List Rat × Nat) (fun z=>[(0,.int .i64 (N:Nat)),(1,.sl 6 (Ff es)),(2,.sl 4 (Bg (p.map Aq))),(8,ov),(9,.int .i64 (i:Nat)),(10,.int .i64 ((2*a:Nat):Int)),(11,.int .i64 ((2*b:Nat):Int)),(12,.osl br 4 0 (2*N)),(16,.int .i64 (z.2:Nat))]) (fun z=>M.set br ⟨44,4,Bg (z.1.map Aq)⟩) (fun z=>z.2≤2∧Ph N p a b (2+z.2)=some z.1) (fun z=>2-z.2)
     (r2,0) ⟨by simp,hr2⟩ (by simp) (by simp[-Int.natCast_mul]) ?_)
    rintro⟨r,k⟩ ⟨j1,j2⟩;simp only at j1 j2;(repeat refine AW.seq_k fun K hK=>?_);refine AW.rg ?_;simp[-Int.natCast_mul];try (refine hK _ rfl ?_;clear hK K)
    (repeat refine AW.seq ?_);refine AW.cs (fun hk=>?_) (fun hk=>?_) rfl<;>(try simp at hk)
    ·refine AW.skip ?_;try simp[-Int.natCast_mul]
     try (refine hK _ rfl ?_;clear hK K)
     have wk:=Au (k+1) (by omega);have hul:2*b+k<2*N:=by omega
     have hvl:2*a+k<2*N:=by omega
     have wu:=Au (2*b+k) (by omega);have wv:=Au (2*a+k) (by omega);have hsu:=H1 (Cd p (2*b+k)) (Cd p (2*a+k)) (hg _ hul) (hg _ hvl);have hui:uI a b (2+k)=2*b+k:=by unfold uI;split<;>omega
     have hvi:vI a b (2+k)=2*a+k:=by unfold vI;split<;>omega
     have ones2:Du (M.set br ⟨44,4,Bg (r.map Aq)⟩):=ones0.set br (Gc _);have hrl:(Bg (r.map Aq)).length=2*N:=by simp[Bg];exact(H9 j2).1
     (repeat refine AW.seq ?_);refine AW.block ?_;(repeat refine AW.seq_k fun K hK=>?_);refine AW.rd [0,1,2,3,4,5,6,7,8,9,10,11,12,13,14,15,16,17,18] C6 ?_;simp[-Int.natCast_add,-Int.natCast_mul,wu,wv,hul,hvl,hpl,hrr];try (refine hK _ rfl ?_;clear hK K)
     cases hd:Cz (Cd p (2*b+k)) (Cd p (2*a+k))with
     |none =>
      rw[hd,←Dl,←Dl,C0]at hsu;unfold RR.av B5 at hsu;refine Aa.val hsu ?_;simp[-Int.natCast_add,-Int.natCast_mul];refine Af.intro fun b15 hb15=>?_;refine hK _ rfl ?_;clear hK K;(repeat refine AW.seq_k fun K hK=>?_);refine AW.rg ?_;simp[-Int.natCast_add,-Int.natCast_mul];try (refine hK _ rfl ?_;clear hK K)
      refine AW.yes ?_ rfl;(repeat refine AW.seq_k fun K hK=>?_);refine AW.rg ?_;simp[-Int.natCast_add,-Int.natCast_mul];try (refine hK _ rfl ?_;clear hK K)
      have hno:Qbo N es p (.tup [Ap [],.int .i64 2]) Ac.emp:=by
       have hs1:Ph N p a b (2+k+1)=none:=by rw[Ph,j2,hui,hvi,Option.bind_some,hd];rfl
       have hs4:=Tu (t:=4) hs1 (by omega);have hm:=S5 (t:=es.length) (show Nc N (Ah es) p (i+1)=none by rw[hsc,hs4];rfl) (by omega);unfold Qbo;rw[hm];exact⟨rfl,rfl⟩
      exact AW.ret (Ae [Ap [],.int .i64 2] rfl ⟨.nilsl 1,.same _,trivial⟩ hno)
     |some d =>
      rw[hd,←Dl,←Dl,C0,←Dl]at hsu;unfold RR.av at hsu;refine Aa.val hsu ?_;simp[-Int.natCast_add,-Int.natCast_mul];refine Af.intro fun b15 hb15=>?_;refine hK _ rfl ?_;clear hK K;have hst:Ph N p a b (2+(k+1))=some (r.set (2*b+k) d):=by
       rw[show 2+(k+1)=(2+k)+1 by omega,Ph,j2,hui,hvi,Option.bind_some,hd];rfl
      refine AW.turn [(0,.int .i64 (N:Nat)),(1,.sl 6 (Ff es)),(2,.sl 4 (Bg (p.map Aq))),(8,ov),(9,.int .i64 (i:Nat)),(10,.int .i64 ((2*a:Nat):Int)),(11,.int .i64 ((2*b:Nat):Int)),(12,.osl br 4 0 (2*N)),(16,.int .i64 (k:Nat)),(17,.rptr [.bool (Aq d).n1,Ao (Aq d).l1,.bool (Aq d).n2,Ao (Aq d).l2]),(18,.int .i64 0)] (M.set br ⟨44,4,Bg (r.map Aq)⟩) (Ba.drop hb15 ones2)
       (by simp[-Int.natCast_add,-Int.natCast_mul];exact De hb15) ?_
      (repeat refine AW.seq_k fun K hK=>?_);refine AW.rg ?_;simp[-Int.natCast_mul];try (refine hK _ rfl ?_;clear hK K)
      refine AW.no ?_ rfl;refine AW.skip ?_;try simp[-Int.natCast_mul]
      try (refine hK _ rfl ?_;clear hK K)
      (repeat refine AW.seq_k fun K hK=>?_);refine AW.rg ?_;simp[-Int.natCast_add,-Int.natCast_mul,wu,hul,hrl];try (refine hK _ rfl ?_;clear hK K)
      rw[O0];(repeat refine AW.seq_k fun K hK=>?_);refine AW.rg ?_;simp[-Int.natCast_add,-Int.natCast_mul,wk];try (refine hK _ rfl ?_;clear hK K)
      exact⟨r.set (2*b+k) d,k+1,⟨by omega,by simpa using hst⟩,by omega,by rw[List.map_set],rfl⟩
    ·refine AW.exit ?_;try simp[-Int.natCast_mul]
     have:k=2:=by omega
     subst this;exact⟨r,j2,rfl⟩
   rintro r hr;have hrl:(Bg (r.map Aq)).length=2*N:=by simp[Bg];exact(H9 hr).1
   have hsr:Nc N (Ah es) p (i+1)=some (E++[r]):=by rw[hsc,hr];rfl
   refine AW.turn [(0,.int .i64 (N:Nat)),(1,.sl 6 (Ff es)),(2,.sl 4 (Bg (p.map Aq))),(8,ov),(9,.int .i64 (i:Nat)),(12,.sl 4 (Bg (r.map Aq)))] M (Ba.drop hbr ones0) ?_ ?_
   ·simp[-Int.natCast_mul];exact Ci (Ac.set_same _ _ _) hbr hrl
   have hll:((Be E).map An).length≤40:=by simp[Be];omega
   have hem:(Be (E++[r])).map An=(Be E).map An++[.sl 4 (Bg (r.map Aq))]:=by simp[Be,An]
   have hfin:∀ov' ob' M',Fj M' 51 1 ov' ob' ((Be E).map An++[.sl 4 (Bg (r.map Aq))])→Fj M' 51 1 ov' ob' ((Be (E++[r])).map An):=fun _ _ _ h=>by rw[hem];exact h
   generalize(Be E).map An=l at *;rcases g3.lst with⟨z1,z2,z3⟩ | ⟨b0,z2,z3,z4⟩
   ·subst z1 z2 z3;(repeat refine AW.seq_k fun K hK=>?_);refine AW.rgR [100] ?_;simp;try (refine hK _ rfl ?_;clear hK K)
    refine⟨by unfold maxLen;omega,Af.intro fun b' hb'=>?_⟩;(repeat refine AW.seq_k fun K hK=>?_);refine AW.rg ?_;simp[-Int.natCast_add,w1];try (refine hK _ rfl ?_;clear hK K)
    exact⟨⟨_,_,[b'],E++[r]⟩,i+1,⟨by omega,hsr,hfin _ _ _ (g3.push0 b' _)⟩,by omega,rfl,rfl,rfl⟩
   ·subst z2 z3;(repeat refine AW.seq_k fun K hK=>?_);refine AW.rgR [100] ?_;simp[z4];try (refine hK _ rfl ?_;clear hK K)
    refine⟨by omega,by unfold maxLen;omega,Af.intro fun b' hb'=>?_⟩;(repeat refine AW.seq_k fun K hK=>?_);refine AW.rg ?_;simp[-Int.natCast_add,w1];try (refine hK _ rfl ?_;clear hK K)
    exact⟨⟨_,_,[b'],E++[r]⟩,i+1,⟨by omega,hsr,hfin _ _ _ (g3.push1 b' _)⟩,by omega,rfl,rfl,rfl⟩
  ·refine AW.exit ?_;try simp
   have:i=es.length:=by omega
   subst this;exact⟨⟨M,ov,ob,E⟩,⟨g2,g3⟩,by simp⟩
 rintro⟨M,ov,ob,E⟩ ⟨g2,g3⟩;simp only at g2 g3;(repeat refine AW.seq_k fun K hK=>?_);refine AW.rg ?_;simp;try (refine hK _ rfl ?_;clear hK K)
 refine AW.ret (Bo rfl (g3.ones (Gt _)) ?_);unfold Qbo;rw[g2];exact⟨ov,ob,rfl,g3⟩
end Go.Av
end
section
namespace Go.Av
open Go.Proofs Go.Lam
theorem Qdf (N:Nat) (p:List Rat) (hN:1≤N) (hN12:N≤12) (hp:E3 N p):Ai Tryz.prog 39 [.int .i64 (N:Nat),An (p.map Aq)] Ac.emp fun v m=>v=Jk N p∧m=Ac.emp:=by
 have hzr:=Qbe (2*N) (by omega) (by omega);have hw1:=Re 1 (by omega) (by omega);rw[Io]at hw1;have w0:=Au (2*N) (by omega);have hpl:p.length=2*N:=hp.1;have hg:∀i,i<2*N→Bu (Cd p i):=fun i hi=>by
  unfold Cd;rw[List.getD_eq_getElem?_getD,List.getElem?_eq_getElem (by omega)];exact hp.2 _ (List.getElem_mem _)
 have hrr:∀i,i<2*N→rr (p.map Aq) i=Aq (Cd p i):=fun i hi=>by
  rw[G6 (by simp;omega)];unfold Cd;simp[hpl,hi]
 refine Ad Tryz.func39 rfl rfl 106 rfl (Nat.le_of_ble_eq_true rfl) ?_;unfold An at *;(repeat refine AW.seq_k fun K hK=>?_);refine AW.rg ?_;simp[Al];try (refine hK _ rfl ?_;clear hK K)
 (repeat refine AW.seq_k fun K hK=>?_);refine AW.rg ?_;simp[-Int.natCast_mul,w0];try (refine hK _ rfl ?_;clear hK K)
 refine Aa.make hzr ?_;rintro b0 _ _ ⟨rfl,rfl⟩ hb0 _;simp[-Int.natCast_mul];try (refine hK _ rfl ?_;clear hK K)
 (repeat refine AW.seq_k fun K hK=>?_);refine AW.rg ?_;simp[-Int.natCast_mul,w0];try (refine hK _ rfl ?_;clear hK K)
 refine Aa.make hzr ?_;rintro b1 _ _ ⟨rfl,rfl⟩ hb1 _;simp[-Int.natCast_mul];try (refine hK _ rfl ?_;clear hK K)
 have hz0:Bg (List.replicate (2*N) (Aq 0))=Bg ((List.replicate (2*N) (0:Rat)).map Aq):=by simp
 have hzl:(Bg (List.replicate (2*N) (Aq 0))).length=2*N:=by simp[Bg]
 generalize hz:Bg (List.replicate (2*N) (Aq 0))=Z at *;have n10:b1≠b0:=fun h=>by simp[h]at hb1
 have hN2:0<2*N:=by omega
 have hN3:1<2*N:=by omega
 (repeat refine AW.seq_k fun K hK=>?_);refine AW.rg ?_;simp[-Int.natCast_mul,hzl,hN2,hN3,n10,Ne.symm n10];try (refine hK _ rfl ?_;clear hK K)
 refine Aa.val hw1 ?_;simp[-Int.natCast_mul,hzl,hN2,hN3,n10,Ne.symm n10];try (refine hK _ rfl ?_;clear hK K)
 (repeat refine AW.seq_k fun K hK=>?_);refine AW.rg ?_;simp[-Int.natCast_mul,hzl,hN2,hN3,n10,Ne.symm n10];try (refine hK _ rfl ?_;clear hK K)
 refine Aa.val hw1 ?_;simp[-Int.natCast_mul,hzl,hN2,hN3,n10,Ne.symm n10];try (refine hK _ rfl ?_;clear hK K)
 (repeat refine AW.seq_k fun K hK=>?_);refine AW.rg ?_;simp[-Int.natCast_mul];try (refine hK _ rfl ?_;clear hK K)
 refine Af.intro fun B hB=>?_;try (refine hK _ rfl ?_;clear hK K)
 have nB0:B≠b0:=fun h=>by rw[h]at hB;simp[n10,Ne.symm n10]at hB
 have nB1:B≠b1:=fun h=>by rw[h]at hB;simp[n10,Ne.symm n10]at hB
 have hr0:Z.set 0 (Aq 1).av=Bg (((List.replicate (2*N) (0:Rat)).set 0 1).map Aq):=by rw[hz0,List.map_set];exact Er _ _ _
 have hr1:Z.set 1 (Aq 1).av=Bg (((List.replicate (2*N) (0:Rat)).set 1 1).map Aq):=by rw[hz0,List.map_set];exact Er _ _ _
 rw[hr0,hr1];have hl0:(Bg (((List.replicate (2*N) (0:Rat)).set 0 1).map Aq)).length=2*N:=by simp[Bg]
 have hl1:(Bg (((List.replicate (2*N) (0:Rat)).set 1 1).map Aq)).length=2*N:=by simp[Bg]
 have hem:∀l,(Be [(List.replicate (2*N) (0:Rat)).set 0 1,(List.replicate (2*N) (0:Rat)).set 1 1,l]).map An=[.sl 4 (Bg (((List.replicate (2*N) (0:Rat)).set 0 1).map Aq)),.sl 4 (Bg (((List.replicate (2*N) (0:Rat)).set 1 1).map Aq)),.sl 4 (Bg (l.map Aq))]:=fun _=>rfl;have hem2:(Be [(List.replicate (2*N) (0:Rat)).set 0 1,(List.replicate (2*N) (0:Rat)).set 1 1]).map An=[.sl 4 (Bg (((List.replicate (2*N) (0:Rat)).set 0 1).map Aq)),.sl 4 (Bg (((List.replicate (2*N) (0:Rat)).set 1 1).map Aq))]:=rfl;have hpN:Vb N p=none→Jk N p=.tup [.sl 1 [.sl 4 (Bg (((List.replicate (2*N) (0:Rat)).set 0 1).map Aq)),.sl 4 (Bg (((List.replicate (2*N) (0:Rat)).set 1 1).map Aq))],.int .i64 0]:=fun h=>by
  unfold Jk P0 Ap;rw[h];rfl
 generalize Bg (((List.replicate (2*N) (0:Rat)).set 0 1).map Aq)=R0 at *;generalize Bg (((List.replicate (2*N) (0:Rat)).set 1 1).map Aq)=R1 at *;generalize hM0:Ac.emp.set B ⟨51,1,[.sl 4 R0,.sl 4 R1]⟩=M0;have hM0B:M0 B=some ⟨51,1,[.sl 4 R0,.sl 4 R1]⟩:=by rw[←hM0];exact Ac.set_same _ _ _
 have hM0n:∀c,c≠B→M0 c=none:=fun c h=>by rw[←hM0];exact Ac.set_other _ _ h
 have ones0:Du M0:=by
  rw[←hM0];exact Du.set (M:=Ac.emp) (fun c y hy=>by cases hy) B (by simp[AV.cells,AV.one])
 refine AW.turn [(0,.int .i64 (N:Nat)),(1,.sl 4 (Bg (p.map Aq))),(8,.osl B 1 0 2)] M0 ⟨fun c x' hx'=>?_⟩ (by simp[-Int.natCast_mul]) ?_
 ·by_cases hc:c=B
  ·subst hc;rw[hM0B]at hx';cases hx';refine⟨⟨51,1,[.osl b0 4 0 (2*N),.osl b1 4 0 (2*N)]⟩,by simp[nB0,nB1],rfl,rfl,rfl,fun k v v' h1 h2=>?_⟩
   match k with
   |0 =>
    cases h1;cases h2;exact⟨Ci (by simp[Ne.symm n10,Ne.symm nB0];rfl) (hM0n _ (Ne.symm nB0)) hl0,rfl⟩
   |1 =>
    cases h1;cases h2;exact⟨Ci (by simp[Ne.symm nB1];rfl) (hM0n _ (Ne.symm nB1)) hl1,rfl⟩
   |k+2=>cases h1
  ·rw[hM0n c hc]at hx';cases hx'
 refine AW.seq_ex (ι:=Unit) (fun _=>[(8,.osl B 1 0 2)]) (fun _=>M0) (fun _=>Vb N p=none) ?_ ?_
 ·(repeat refine AW.seq_k fun K hK=>?_);refine AW.rg ?_;simp;try (refine hK _ rfl ?_;clear hK K)
  refine AW.block (AW.loopS (ι:=Nat) (fun i=>[(0,.int .i64 (N:Nat)),(1,.sl 4 (Bg (p.map Aq))),(8,.osl B 1 0 2),(9,.int .i64 (i:Nat))]) (fun _=>M0) (fun i=>1≤i∧i≤N∧∀k,1≤k→k<i→Mv p k) (fun i=>N-i) 1 ⟨by omega,by omega,fun k h1 h2=>by omega⟩ rfl (by simp) ?_);rintro i ⟨g1,g2,g3⟩;(repeat refine AW.seq_k fun K hK=>?_);refine AW.rg ?_;simp;try (refine hK _ rfl ?_;clear hK K)
  (repeat refine AW.seq ?_);refine AW.cs (fun hi=>?_) (fun hi=>?_) rfl<;>(try simp at hi)
  ·refine AW.skip ?_;try simp
   try (refine hK _ rfl ?_;clear hK K)
   have a0:2*i<2*N:=by omega
   have a1:2*i+1<2*N:=by omega
   have w1:=Au (2*i) (by omega);have w2:=Au (2*i+1) (by omega);have w3:=Au (i+1) (by omega);have d0:=Nw (b:=Cd p 0) (hg _ a0);have d1:=Nw (b:=Cd p 1) (hg _ a1);unfold RR.av at d0 d1;have hr0:=hrr _ a0;have hr1:=hrr _ a1;have hr2:=hrr 0 hN2;have hr3:=hrr 1 hN3;obtain⟨T,hT⟩:∃T:Bool,(T=true↔Mv p i):=⟨(decide (Cd p (2*i)=Cd p 0)&&decide (Cd p (2*i+1)=Cd p 1)),by simp[Mv]⟩;(repeat refine AW.seq ?_);refine AW.block ?_;refine AW.seq_k fun K hK=>?_;refine AW.seq_ex (ι:=Unit) (fun _=>[(0,.int .i64 (N:Nat)),(1,.sl 4 (Bg (p.map Aq))),(8,.osl B 1 0 2),(9,.int .i64 (i:Nat)),(55,.bool T)]) (fun _=>M0) (fun _=>True) ?_ ?_
   ·refine AW.rd [0,1,2,3,4,5,6,7,8,9,10,11,12,13,14,15,16,17,18,19,20] C6 ?_;simp[-Int.natCast_mul,hpl,a0,hN2,hr0,hr2,w1];refine Aa.val d0 ?_;by_cases e0:Cd p (2*i)=Cd p 0
    ·simp[-Int.natCast_add,-Int.natCast_mul,e0,w1,w2,hpl,a1,hN3,hr1,hr3];refine Aa.val d1 ?_;simp[-Int.natCast_add,-Int.natCast_mul];rw[Bool.eq_iff_iff,hT];simp[Mv,e0]
    ·simp[-Int.natCast_mul,e0];rw[←Bool.not_eq_true,hT];simp[Mv,e0]
   rintro _ _;cases T with
   |true =>
    have hs:=hT.1 rfl;refine AW.yes ?_ rfl;refine AW.exit ?_;try simp
    (repeat refine AW.seq_k fun K hK=>?_);refine AW.rg ?_;simp[-Int.natCast_add,w3];try (refine hK _ rfl ?_;clear hK K)
    exact⟨⟨by omega,fun k h1 h2=>by
     rcases Nat.lt_or_ge k i with h|h
     ·exact g3 k h1 h
     ·rw[show k=i by omega];exact hs⟩,by omega⟩
   |false =>
    have hns:¬Mv p i:=fun h=>by have:=hT.2 h;cases this
    have hpj:=Wg g1 hi hns g3;have s1:=H1 (Cd p 1) (Cd p (2*i+1)) (hg _ hN3) (hg _ a1);have s2:=H1 (Cd p (2*i)) (Cd p 0) (hg _ a0) (hg _ hN2);rw[Ym,←Dl,←Dl]at s1 s2;unfold RR.av at s1 s2;refine AW.no ?_ rfl;refine AW.skip ?_;try simp
    try (refine hK _ rfl ?_;clear hK K)
    (repeat refine AW.seq_k fun K hK=>?_);refine AW.rg ?_;simp[-Int.natCast_mul,w0];try (refine hK _ rfl ?_;clear hK K)
    refine Aa.make hzr ?_;rintro br _ _ ⟨rfl,rfl⟩ hbr _;simp[-Int.natCast_mul];try (refine hK _ rfl ?_;clear hK K)
    have ones1:Du (M0.set br ⟨44,4,Z⟩):=ones0.set br (by rw[←hz];exact Gc _);(repeat refine AW.seq_k fun K hK=>?_);refine AW.rd [0,1,2,3,4,5,6,7,8,9,10,11,12,13,14,15] C6 ?_;simp[-Int.natCast_add,-Int.natCast_mul,hpl,w1,w2,a1,hN3,hr1,hr3];try (refine hK _ rfl ?_;clear hK K)
    refine Aa.val s1 ?_;simp[-Int.natCast_add,-Int.natCast_mul];refine Af.intro fun b11 hb11=>?_;refine hK _ rfl ?_;clear hK K;cases h1:Cz (Cd p 1) (Cd p (2*i+1))with
    |none =>
     have hno:Jk N p=.tup [Ap [],.int .i64 2]:=by unfold Jk;rw[H2 hpj,h1];rfl
     (repeat refine AW.seq_k fun K hK=>?_);refine AW.rg ?_;simp[-Int.natCast_add,-Int.natCast_mul,Ze];try (refine hK _ rfl ?_;clear hK K)
     refine AW.yes ?_ rfl;(repeat refine AW.seq_k fun K hK=>?_);refine AW.rg ?_;simp[-Int.natCast_add,-Int.natCast_mul];try (refine hK _ rfl ?_;clear hK K)
     exact AW.ret (Ae [Ap [],.int .i64 2] rfl ⟨.nilsl 1,.same _,trivial⟩ ⟨by rw[hno];rfl,rfl⟩)
    |some x1 =>
     refine AW.turn [(0,.int .i64 (N:Nat)),(1,.sl 4 (Bg (p.map Aq))),(8,.osl B 1 0 2),(9,.int .i64 (i:Nat)),(10,.osl br 4 0 (2*N)),(11,.rptr [.bool (Aq x1).n1,Ao (Aq x1).l1,.bool (Aq x1).n2,Ao (Aq x1).l2]),(12,.int .i64 0)] (M0.set br ⟨44,4,Z⟩) (Ba.drop hb11 ones1) (by simp[-Int.natCast_add,-Int.natCast_mul];exact⟨De hb11,.same _⟩) ?_;(repeat refine AW.seq_k fun K hK=>?_);refine AW.rg ?_;simp;try (refine hK _ rfl ?_;clear hK K)
     refine AW.no ?_ rfl;refine AW.skip ?_;try simp
     try (refine hK _ rfl ?_;clear hK K)
     (repeat refine AW.seq_k fun K hK=>?_);refine AW.rd [0,1,2,3,4,5,6,7,8,9,10,11,12,13,14] C6 ?_;simp[-Int.natCast_mul,hpl,w1,w2,a0,hN2,hr0,hr2];try (refine hK _ rfl ?_;clear hK K)
     refine Aa.val s2 ?_;simp[-Int.natCast_mul];refine Af.intro fun b13 hb13=>?_;refine hK _ rfl ?_;clear hK K;cases h2:Cz (Cd p (2*i)) (Cd p 0)with
     |none =>
      have hno:Jk N p=.tup [Ap [],.int .i64 2]:=by unfold Jk;rw[H2 hpj,h1,h2];rfl
      (repeat refine AW.seq_k fun K hK=>?_);refine AW.rg ?_;simp[-Int.natCast_mul,Ze];try (refine hK _ rfl ?_;clear hK K)
      refine AW.yes ?_ rfl;(repeat refine AW.seq_k fun K hK=>?_);refine AW.rg ?_;simp[-Int.natCast_mul];try (refine hK _ rfl ?_;clear hK K)
      exact AW.ret (Ae [Ap [],.int .i64 2] rfl ⟨.nilsl 1,.same _,trivial⟩ ⟨by rw[hno];rfl,rfl⟩)
     |some x2 =>
      refine AW.turn [(0,.int .i64 (N:Nat)),(1,.sl 4 (Bg (p.map Aq))),(8,.osl B 1 0 2),(9,.int .i64 (i:Nat)),(10,.osl br 4 0 (2*N)),(11,.rptr [.bool (Aq x1).n1,Ao (Aq x1).l1,.bool (Aq x1).n2,Ao (Aq x1).l2]),(13,.rptr [.bool (Aq x2).n1,Ao (Aq x2).l1,.bool (Aq x2).n2,Ao (Aq x2).l2]),(14,.int .i64 0)] (M0.set br ⟨44,4,Z⟩) (Ba.drop hb13 ones1) (by simp[-Int.natCast_mul];exact⟨De hb13,.same _⟩) ?_;(repeat refine AW.seq_k fun K hK=>?_);refine AW.rg ?_;simp;try (refine hK _ rfl ?_;clear hK K)
      refine AW.no ?_ rfl;refine AW.skip ?_;try simp
      try (refine hK _ rfl ?_;clear hK K)
      (repeat refine AW.seq_k fun K hK=>?_);refine AW.rg ?_;simp[-Int.natCast_mul,w1,hzl,a0];try (refine hK _ rfl ?_;clear hK K)
      (repeat refine AW.seq_k fun K hK=>?_);refine AW.rg ?_;simp[-Int.natCast_add,-Int.natCast_mul,w1,w2,hzl,a1];try (refine hK _ rfl ?_;clear hK K)
      have hrow:(Z.set (2*i) (.agg [.bool (Aq x1).n1,Ao (Aq x1).l1,.bool (Aq x1).n2,Ao (Aq x1).l2])).set (2*i+1) (.agg [.bool (Aq x2).n1,Ao (Aq x2).l1,.bool (Aq x2).n2,Ao (Aq x2).l2])=Bg ((((List.replicate (2*N) (0:Rat)).set (2*i) x1).set (2*i+1) x2).map Aq):=by
       rw[hz0,O0,O0]
      have hyes:Jk N p=.tup [.sl 1 [.sl 4 R0,.sl 4 R1,.sl 4 (Bg ((((List.replicate (2*N) (0:Rat)).set (2*i) x1).set (2*i+1) x2).map Aq))],.int .i64 0]:=by
       unfold Jk;rw[H2 hpj,h1,h2];unfold Ap;simp only[Option.bind_some,Option.map_some];rw[hem]
      rw[hrow];have hrl:(Bg ((((List.replicate (2*N) (0:Rat)).set (2*i) x1).set (2*i+1) x2).map Aq)).length=2*N:=by simp[Bg]
      generalize Bg ((((List.replicate (2*N) (0:Rat)).set (2*i) x1).set (2*i+1) x2).map Aq)=RW at *;refine AW.turn [(8,.osl B 1 0 2),(10,.sl 4 RW)] M0 (Ba.drop hbr ones0) (by simp[-Int.natCast_add,-Int.natCast_mul];exact Ci (Ac.set_same _ _ _) hbr hrl) ?_;(repeat refine AW.seq_k fun K hK=>?_);refine AW.rgR [103] ?_;simp[hM0B];try (refine hK _ rfl ?_;clear hK K)
      refine⟨by unfold maxLen;omega,Af.intro fun b' hb'=>?_⟩;refine hK _ rfl ?_;clear hK K;exact AW.ret (Ae [.sl 1 [.sl 4 R0,.sl 4 R1,.sl 4 RW],.int .i64 0] rfl ⟨Ci (Ac.set_same _ _ _) rfl rfl,.same _,trivial⟩ ⟨by rw[hyes];rfl,rfl⟩)
  ·refine AW.exit ?_;try simp
   have:i=N:=by omega
   subst this;exact W0 g3
 ·rintro _ hj;(repeat refine AW.seq_k fun K hK=>?_);refine AW.rg ?_;simp;try (refine hK _ rfl ?_;clear hK K)
  have hV:Br M0 Ac.emp (.osl B 1 0 2) (.sl 1 [.sl 4 R0,.sl 4 R1]):=Ci hM0B rfl rfl;exact AW.ret (Ae [.sl 1 [.sl 4 R0,.sl 4 R1],.int .i64 0] rfl ⟨hV,.same _,trivial⟩ ⟨by rw[hpN hj];rfl,rfl⟩)
end Go.Av
end
section
namespace Go.Av
open Go.Proofs Go.Lam
theorem Qi (m:List (List RR)) (hm:Sb m):Ai Tryz.prog 74 [Ap m] Ac.emp fun v mm=>v=Gw m∧mm=Ac.emp:=by
 have hk:=Yi m hm;unfold Gw;generalize K3 m=K0 at *;obtain⟨e,V⟩:=K0;simp only at *;refine Ad Tryz.func74 rfl rfl 23 rfl (Nat.le_of_ble_eq_true rfl) ?_;unfold Ap at hk ⊢;(repeat refine AW.seq_k fun K hK=>?_);refine AW.rg ?_;simp[Al];try (refine hK _ rfl ?_;clear hK K)
 (repeat refine AW.seq_k fun K hK=>?_);refine AW.rg ?_;simp;try (refine hK _ rfl ?_;clear hK K)
 refine Aa.val hk ?_;simp;try (refine hK _ rfl ?_;clear hK K)
 by_cases he:e=0
 ·subst he;cases V with
  |nil =>
   (repeat refine AW.seq_k fun K hK=>?_);refine AW.rg ?_;simp[Be];try (refine hK _ rfl ?_;clear hK K)
   refine AW.yes ?_ (by simp[Be]);(repeat refine AW.seq_k fun K hK=>?_);refine AW.rg ?_;simp;try (refine hK _ rfl ?_;clear hK K)
   exact AW.ret (Ae [An [],.bool false,.int .i64 0] rfl ⟨.nilsl 4,.same _,.same _,trivial⟩ ⟨rfl,rfl⟩)
  |cons v t =>
   (repeat refine AW.seq_k fun K hK=>?_);refine AW.rg ?_;simp[-Int.natCast_add,Be];try (refine hK _ rfl ?_;clear hK K)
   refine AW.no ?_ (by simp[-Int.natCast_add,Be]);refine AW.skip ?_;try simp[-Int.natCast_add]
   try (refine hK _ rfl ?_;clear hK K)
   (repeat refine AW.seq_k fun K hK=>?_);refine AW.rg ?_;simp[-Int.natCast_add,Be];try (refine hK _ rfl ?_;clear hK K)
   exact AW.ret (Ae [An (v.map Aq),.bool true,.int .i64 0] rfl ⟨.same _,.same _,.same _,trivial⟩ ⟨rfl,rfl⟩)
 ·(repeat refine AW.seq_k fun K hK=>?_);refine AW.rg ?_;simp[he];try (refine hK _ rfl ?_;clear hK K)
  refine AW.yes ?_ (by simp[he]);(repeat refine AW.seq_k fun K hK=>?_);refine AW.rg ?_;simp;try (refine hK _ rfl ?_;clear hK K)
  exact AW.ret (Ae [An [],.bool false,.int .i64 e] rfl ⟨.nilsl 4,.same _,.same _,trivial⟩ ⟨by cases V<;>(split<;>first | rfl | contradiction | simp_all),rfl⟩)
def Z4 (n:Int) (p:List RR):Bool:=p.all RR.ok&&decide ((p.length:Int)=2*n)
theorem Mj (n:Int) (es:List RE) (p:List RR):D1 n es p=(Ds n es&&Z4 n p):=by
 unfold D1 Z4;cases Ds n es<;>cases p.all RR.ok<;>simp
theorem Uk (n:Int) (p:List RR) (h1:1≤n) (h2:n≤12) (hp:∀x∈p,x.Lb) (hl:p.length<2^63):Ai Tryz.prog 73 [.int .i64 n,An p] Ac.emp fun v m=>v=.bool (Z4 n p)∧m=Ac.emp:=by
 have w2:IntKind.i64.wrap (2*n)=2*n:=Oc (by omega);refine Ad Tryz.func73 rfl rfl 23 rfl (Nat.le_of_ble_eq_true rfl) ?_;unfold An at *;(repeat refine AW.seq_k fun K hK=>?_);refine AW.rg ?_;simp[Al];try (refine hK _ rfl ?_;clear hK K)
 refine AW.seq_ex (ι:=Unit) (fun _=>[(0,.int .i64 n),(1,.sl 4 (Bg p))]) (fun _=>Ac.emp) (fun _=>p.all RR.ok=true) ?_ ?_
 ·(repeat refine AW.seq_k fun K hK=>?_);refine AW.rg ?_;simp;try (refine hK _ rfl ?_;clear hK K)
  refine AW.block (AW.loopS (ι:=Nat) (fun i=>[(0,.int .i64 n),(1,.sl 4 (Bg p)),(5,.int .i64 (i:Nat))]) (fun i=>Ac.emp)
   (fun i=>i≤p.length∧(p.take i).all RR.ok=true) (fun i=>p.length-i) 0 ⟨by simp,by simp⟩ rfl (by simp) ?_)
  rintro i ⟨g1,g2⟩;(repeat refine AW.seq_k fun K hK=>?_);refine AW.rg ?_;simp;try (refine hK _ rfl ?_;clear hK K)
  (repeat refine AW.seq ?_);refine AW.cs (fun hi=>?_) (fun hi=>?_) rfl<;>(try simp at hi)
  ·refine AW.skip ?_;try simp
   try (refine hK _ rfl ?_;clear hK K)
   have w1:=Au (i+1) (by omega);have hxm:rr p i∈p:=by rw[G6 hi];exact List.getElem_mem hi
   have hv:=F5 (rr p i).n1 (rr p i).l1 (rr p i).n2 (rr p i).l2 (hp _ hxm).1 (hp _ hxm).2;have hst:(p.take (i+1)).all RR.ok=(rr p i).ok:=by
    rw[List.take_add_one,List.getElem?_eq_getElem hi,List.all_append,g2,G6 hi];simp
   have hv:Ai Tryz.prog 42 [(rr p i).av] Ac.emp fun v m=>v=.bool (rr p i).ok∧m=Ac.emp:=hv;unfold RR.av at hv;(repeat refine AW.seq ?_);refine AW.block ?_;(repeat refine AW.seq_k fun K hK=>?_);refine AW.rg ?_;simp[hi];try (refine hK _ rfl ?_;clear hK K)
   refine Aa.val hv ?_;simp;try (refine hK _ rfl ?_;clear hK K)
   cases hok:(rr p i).ok with
   |false =>
    have e2:Z4 n p=false:=by
     have:p.all RR.ok=false:=List.all_eq_false.2 ⟨rr p i,hxm,by rw[hok];simp⟩;unfold Z4;rw[this];rfl
    refine AW.yes ?_ rfl;(repeat refine AW.seq_k fun K hK=>?_);refine AW.rg ?_;simp;try (refine hK _ rfl ?_;clear hK K)
    exact AW.ret (Ag rfl _ (.same _) ⟨by rw[e2];rfl,rfl⟩)
   |true =>
    refine AW.no ?_ rfl;refine AW.skip ?_;try simp
    try (refine hK _ rfl ?_;clear hK K)
    (repeat refine AW.seq_k fun K hK=>?_);refine AW.rg ?_;simp[-Int.natCast_add,w1];try (refine hK _ rfl ?_;clear hK K)
    exact⟨⟨by omega,by rw[hok]at hst;simpa using hst⟩,by omega⟩
  ·refine AW.exit ?_;try simp
   have:i=p.length:=by omega
   subst this;rw[List.take_length]at g2;simpa using g2
 ·rintro _ h;(repeat refine AW.seq_k fun K hK=>?_);refine AW.rg ?_;simp[w2];try (refine hK _ rfl ?_;clear hK K)
  exact AW.ret (Ag rfl _ (.same _) ⟨by unfold Z4;rw[h];rfl,rfl⟩)
noncomputable def Tx (n:Int) (es:List RE) (p:List RR):AV :=
 if D1 n es p=true then
  match (Nc n.toNat (Ah es) (p.map RR.q) es.length).bind fun M=>(P0 n.toNat (p.map RR.q)).bind fun P=>some (M++P)with
  |some M=>Gw (Be M)
  |none=>.tup [An [],.bool false,.int .i64 2]
 else .tup [An [],.bool false,.int .i64 1]
theorem Sw {n:Int} {es:List RE} {p:List RR} (h:¬D1 n es p=true):Tx n es p=.tup [An [],.bool false,.int .i64 1]:=by unfold Tx;rw[if_neg h]
theorem W8 {n:Int} {es:List RE} {p:List RR} (h:D1 n es p=true):Tx n es p=match (Nc n.toNat (Ah es) (p.map RR.q) es.length).bind fun M=>(P0 n.toNat (p.map RR.q)).bind fun P=>some (M++P)with
  |some M=>Gw (Be M)
  |none=>.tup [An [],.bool false,.int .i64 2]:=by unfold Tx;rw[if_pos h]
theorem Tm (m:List (List RR)):∃a b c,Gw m=.tup [a,b,c]:=by
 unfold Gw;split<;>exact⟨_,_,_,rfl⟩
theorem Yy (n:Int) (es:List RE) (p:List RR):∃a b c,Tx n es p=.tup [a,b,c]:=by
 unfold Tx;split
 ·split
  ·exact Tm _
  ·exact⟨_,_,_,rfl⟩
 ·exact⟨_,_,_,rfl⟩
theorem Km {n:Int} {es:List RE} {p:List RR} (hp:∀x∈p,x.Lb) (h:D1 n es p=true):∃N:Nat,n=(N:Nat)∧1≤N∧N≤12∧Ly (N:Int).toNat es∧es.length≤40∧E3 N (p.map RR.q)∧p=(p.map RR.q).map Aq:=by
 unfold D1 at h;simp only[Bool.and_eq_true,decide_eq_true_eq,List.all_eq_true]at h;obtain⟨⟨hk,h2⟩,h3⟩:=h;obtain⟨⟨q1,q2,q3⟩,_⟩:=El hk;obtain⟨N,rfl⟩:=Int.eq_ofNat_of_zero_le (show 0≤n by omega);refine⟨N,rfl,by omega,by omega,Sd hk,q3,⟨by simp;omega,fun q hq=>?_⟩,?_⟩
 ·obtain⟨x,hx,rfl⟩:=List.mem_map.1 hq;exact(Ez (hp x hx) (h3 x hx)).1
 ·rw[List.map_map]
  conv=>lhs;rw[←List.map_id p]
  exact List.map_congr_left fun x hx=>(Ez (hp x hx) (h3 x hx)).2
theorem Zw {n:Nat} {p:List Rat} {P:List (List Rat)} (h:P0 n p=some P):1≤P.length∧P.length≤3:=by
 unfold P0 at h;split at h
 ·cases h;simp
 ·obtain⟨d1,_,h2⟩:=Option.bind_eq_some_iff.1 h;obtain⟨d2,_,rfl⟩:=Option.map_eq_some_iff.1 h2;simp
theorem O2 (n:Int) (es:List RE) (p:List RR) (hb:LbE es) (hp:∀x∈p,x.Lb) (hpl:p.length<2^63):Ai Tryz.prog 32 [.int .i64 n,A8 es,An p] Ac.emp fun v m=>v=Tx n es p∧m=Ac.emp:=by
 have hc:=Q3 n es p hb hp;by_cases hpl:D1 n es p=true;rotate_left
 ·have e1:Hf n es p=.int .i64 1:=by unfold Hf;rw[if_neg hpl]
  have hz:=Sw hpl;rw[e1]at hc;refine Ad Tryz.func32 rfl rfl 46 rfl (Nat.le_of_ble_eq_true rfl) ?_;unfold A8 An at *;(repeat refine AW.seq_k fun K hK=>?_);refine AW.rg ?_;simp[Al];try (refine hK _ rfl ?_;clear hK K)
  (repeat refine AW.seq_k fun K hK=>?_);refine AW.rg ?_;simp;try (refine hK _ rfl ?_;clear hK K)
  refine Aa.val hc ?_;simp;try (refine hK _ rfl ?_;clear hK K)
  (repeat refine AW.seq_k fun K hK=>?_);refine AW.rg ?_;simp;try (refine hK _ rfl ?_;clear hK K)
  refine AW.yes ?_ rfl;(repeat refine AW.seq_k fun K hK=>?_);refine AW.rg ?_;simp;try (refine hK _ rfl ?_;clear hK K)
  exact AW.ret (Ae [An [],.bool false,.int .i64 1] rfl ⟨.nilsl 4,.same _,.same _,trivial⟩ ⟨by rw[hz];rfl,rfl⟩)
 have e1:Hf n es p=.int .i64 0:=by unfold Hf;rw[if_pos hpl]
 rw[e1]at hc;obtain⟨N,rfl,N1,N2,hok,h3,hrow,hpe⟩:=Km hp hpl;have hS:=W8 hpl;simp only[Int.toNat_natCast]at hok hS;have heq:=K7 N es (p.map RR.q) N1 N2 hok h3 hrow;have hpi:=Qgi N (p.map RR.q) N1 N2 hrow;generalize p.map RR.q=q at *;subst hpe;unfold eqR at heq;refine Ad Tryz.func32 rfl rfl 46 rfl (Nat.le_of_ble_eq_true rfl) ?_;unfold A8 An at hc;unfold A8 An;(repeat refine AW.seq_k fun K hK=>?_);refine AW.rg ?_;simp[Al];try (refine hK _ rfl ?_;clear hK K)
 (repeat refine AW.seq_k fun K hK=>?_);refine AW.rg ?_;simp;try (refine hK _ rfl ?_;clear hK K)
 refine Aa.val hc ?_;simp;try (refine hK _ rfl ?_;clear hK K)
 (repeat refine AW.seq_k fun K hK=>?_);refine AW.rg ?_;simp;try (refine hK _ rfl ?_;clear hK K)
 refine AW.no ?_ rfl;refine AW.skip ?_;try simp
 try (refine hK _ rfl ?_;clear hK K)
 cases hE:Nc N (Ah es) q es.length with
 |none =>
  rw[hE]at heq hS;simp only[Option.bind_none]at hS;unfold Ap at heq;(repeat refine AW.seq_k fun K hK=>?_);refine AW.rg ?_;simp;try (refine hK _ rfl ?_;clear hK K)
  refine Aa.val heq ?_;simp;try (refine hK _ rfl ?_;clear hK K)
  (repeat refine AW.seq_k fun K hK=>?_);refine AW.rg ?_;simp;try (refine hK _ rfl ?_;clear hK K)
  refine AW.yes ?_ rfl;(repeat refine AW.seq_k fun K hK=>?_);refine AW.rg ?_;simp;try (refine hK _ rfl ?_;clear hK K)
  exact AW.ret (Ae [An [],.bool false,.int .i64 2] rfl ⟨.nilsl 4,.same _,.same _,trivial⟩ ⟨by rw[hS];rfl,rfl⟩)
 |some M =>
  rw[hE]at heq hS;simp only[Option.bind_some]at hS;obtain⟨gl,gg⟩:=Gb hE;have hMl:((Be M).map An).length=es.length:=by simp[Be,gl]
  (repeat refine AW.seq_k fun K hK=>?_);refine AW.rg ?_;simp;try (refine hK _ rfl ?_;clear hK K)
  refine Aa.whole (fun _ h=>h) heq ?_;rintro _ X ⟨B,rfl,rfl⟩;simp;try (refine hK _ rfl ?_;clear hK K)
  (repeat refine AW.seq_k fun K hK=>?_);refine AW.rg ?_;simp;try (refine hK _ rfl ?_;clear hK K)
  refine AW.no ?_ rfl;refine AW.skip ?_;try simp
  try (refine hK _ rfl ?_;clear hK K)
  unfold Jk at hpi;cases hP:P0 N q with
  |none =>
   rw[hP]at hpi hS;simp only at hpi;simp only[Option.bind_none]at hS;unfold Ap at hpi;(repeat refine AW.seq_k fun K hK=>?_);refine AW.rg ?_;simp;try (refine hK _ rfl ?_;clear hK K)
   refine Aa.val hpi ?_;simp;try (refine hK _ rfl ?_;clear hK K)
   (repeat refine AW.seq_k fun K hK=>?_);refine AW.rg ?_;simp;try (refine hK _ rfl ?_;clear hK K)
   refine AW.yes ?_ rfl;(repeat refine AW.seq_k fun K hK=>?_);refine AW.rg ?_;simp;try (refine hK _ rfl ?_;clear hK K)
   exact AW.ret (Ae [An [],.bool false,.int .i64 2] rfl ⟨.nilsl 4,.same _,.same _,trivial⟩ ⟨by rw[hS];rfl,rfl⟩)
  |some P =>
   rw[hP]at hpi hS;simp only at hpi;simp only[Option.bind_some]at hS;have hPl:=Zw hP;have hPl2:((Be P).map An).length≤3:=by simpa[Be]using hPl.2
   have hPl1:1≤((Be P).map An).length:=by simpa[Be]using hPl.1
   have hone:∀x∈(Be P).map An,x.cells.length=1∧∀y∈x.cells,y.one=true:=fun x hx=>by
    obtain⟨y,_,rfl⟩:=List.mem_map.1 hx;exact⟨rfl,by simp[An,AV.cells,AV.one]⟩
   have hfi:=Ur (Be (M++P)) (I7 _);rw[←hS]at hfi;have happ:Ap (Be (M++P))=.sl 1 ((Be M).map An++(Be P).map An):=by unfold Ap Be;rw[List.map_append,List.map_append]
   rw[happ]at hfi;obtain⟨r1,r2,r3,hr⟩:=Yy N es (q.map Aq);rw[hr]at hfi ⊢;unfold Ap at hpi;generalize(Be M).map An=LM at *;generalize(Be P).map An=LP at *;(repeat refine AW.seq_k fun K hK=>?_);refine AW.rg ?_;simp;try (refine hK _ rfl ?_;clear hK K)
   refine Aa.val hpi ?_;simp;try (refine hK _ rfl ?_;clear hK K)
   (repeat refine AW.seq_k fun K hK=>?_);refine AW.rg ?_;simp;try (refine hK _ rfl ?_;clear hK K)
   refine AW.no ?_ rfl;refine AW.skip ?_;try simp
   try (refine hK _ rfl ?_;clear hK K)
   (repeat refine AW.seq_k fun K hK=>?_);refine AW.rg ?_;simp[hone];try (refine hK _ rfl ?_;clear hK K)
   (repeat refine⟨by first | omega | exact hone | (unfold maxLen;omega),?_⟩);refine Af.intro fun b' hb'=>?_;refine Aa.whole (fun _ h=>h) (Ai.view (args':=[.sl 1 (LM++LP)]) ⟨rfl,fun j u u' h1 h2=>?_⟩ hfi) ?_
   ·match j with
    |0=>cases h1;cases h2;exact Ci (Ac.set_same _ _ _) rfl (by simp[hMl])
    |k+1=>cases h1
   rintro _ _ ⟨rfl,rfl⟩;simp;try (refine hK _ rfl ?_;clear hK K)
   exact AW.ret (Ae [r1,r2,r3] rfl ⟨.same _,.same _,.same _,trivial⟩ ⟨rfl,rfl⟩)
theorem Xa (n:Int) (es:List RE) (p:List RR) (hb:LbE es) (hp:∀x∈p,x.Lb) (hpl:p.length<2^63):Ai Tryz.prog 35 [.int .i64 n,A8 es,An p] Ac.emp fun v m=>v=Tx n es p∧m=Ac.emp:=by
 have hc:=N5 n es hb;by_cases hk:Ds n es=true;rotate_left
 ·have e1:Cg n es=.int .i64 1:=by unfold Cg;rw[if_neg hk]
  have hz:=Sw (p:=p) (show ¬D1 n es p=true by unfold D1;simp[hk]);rw[e1]at hc;refine Ad Tryz.func35 rfl rfl 50 rfl (Nat.le_of_ble_eq_true rfl) ?_;unfold A8 An at *;(repeat refine AW.seq_k fun K hK=>?_);refine AW.rg ?_;simp[Al];try (refine hK _ rfl ?_;clear hK K)
  (repeat refine AW.seq_k fun K hK=>?_);refine AW.rg ?_;simp;try (refine hK _ rfl ?_;clear hK K)
  refine Aa.val hc ?_;simp;try (refine hK _ rfl ?_;clear hK K)
  (repeat refine AW.seq_k fun K hK=>?_);refine AW.rg ?_;simp;try (refine hK _ rfl ?_;clear hK K)
  refine AW.yes ?_ rfl;(repeat refine AW.seq_k fun K hK=>?_);refine AW.rg ?_;simp;try (refine hK _ rfl ?_;clear hK K)
  exact AW.ret (Ae [An [],.bool false,.int .i64 1] rfl ⟨.nilsl 4,.same _,.same _,trivial⟩ ⟨by rw[hz];rfl,rfl⟩)
 obtain⟨⟨h1,h2,h3⟩,_⟩:=El hk;have hpo:=Uk n p (by omega) h2 hp hpl;have e1:Cg n es=.int .i64 0:=by unfold Cg;rw[if_pos hk]
 rw[e1]at hc;by_cases hpb:Z4 n p=true;rotate_left
 ·have hz:=Sw (p:=p) (show ¬D1 n es p=true by rw[Mj,hk];simpa using hpb);rw[Bool.not_eq_true]at hpb;rw[hpb]at hpo;refine Ad Tryz.func35 rfl rfl 50 rfl (Nat.le_of_ble_eq_true rfl) ?_;unfold A8 An at *;(repeat refine AW.seq_k fun K hK=>?_);refine AW.rg ?_;simp[Al];try (refine hK _ rfl ?_;clear hK K)
  (repeat refine AW.seq_k fun K hK=>?_);refine AW.rg ?_;simp;try (refine hK _ rfl ?_;clear hK K)
  refine Aa.val hc ?_;simp;try (refine hK _ rfl ?_;clear hK K)
  (repeat refine AW.seq_k fun K hK=>?_);refine AW.rg ?_;simp;try (refine hK _ rfl ?_;clear hK K)
  refine AW.no ?_ rfl;refine AW.skip ?_;try simp
  try (refine hK _ rfl ?_;clear hK K)
  (repeat refine AW.seq_k fun K hK=>?_);refine AW.rg ?_;simp;try (refine hK _ rfl ?_;clear hK K)
  refine Aa.val hpo ?_;simp;try (refine hK _ rfl ?_;clear hK K)
  refine AW.yes ?_ rfl;(repeat refine AW.seq_k fun K hK=>?_);refine AW.rg ?_;simp;try (refine hK _ rfl ?_;clear hK K)
  exact AW.ret (Ae [An [],.bool false,.int .i64 1] rfl ⟨.nilsl 4,.same _,.same _,trivial⟩ ⟨by rw[hz];rfl,rfl⟩)
 have hpl:D1 n es p=true:=by rw[Mj,hk,hpb];rfl
 rw[hpb]at hpo;obtain⟨N,rfl,N1,N2,hok,h3,hrow,hpe⟩:=Km hp hpl;have hS:=W8 hpl;simp only[Int.toNat_natCast]at hok hS;have heq:=Qb N es (p.map RR.q) N1 N2 hok h3 hrow;have hpi:=Qdf N (p.map RR.q) N1 N2 hrow;generalize p.map RR.q=q at *;subst hpe;unfold Qbo at heq;refine Ad Tryz.func35 rfl rfl 50 rfl (Nat.le_of_ble_eq_true rfl) ?_;unfold A8 at hc;unfold A8 An;(repeat refine AW.seq_k fun K hK=>?_);refine AW.rg ?_;simp[Al];try (refine hK _ rfl ?_;clear hK K)
 (repeat refine AW.seq_k fun K hK=>?_);refine AW.rg ?_;simp;try (refine hK _ rfl ?_;clear hK K)
 refine Aa.val hc ?_;simp;try (refine hK _ rfl ?_;clear hK K)
 (repeat refine AW.seq_k fun K hK=>?_);refine AW.rg ?_;simp;try (refine hK _ rfl ?_;clear hK K)
 refine AW.no ?_ rfl;refine AW.skip ?_;try simp
 try (refine hK _ rfl ?_;clear hK K)
 (repeat refine AW.seq_k fun K hK=>?_);refine AW.rg ?_;simp;try (refine hK _ rfl ?_;clear hK K)
 refine Aa.val hpo ?_;simp;try (refine hK _ rfl ?_;clear hK K)
 refine AW.no ?_ rfl;refine AW.skip ?_;try simp
 try (refine hK _ rfl ?_;clear hK K)
 cases hE:Nc N (Ah es) q es.length with
 |none =>
  rw[hE]at heq hS;simp only[Option.bind_none]at hS;unfold Ap at heq;(repeat refine AW.seq_k fun K hK=>?_);refine AW.rg ?_;simp;try (refine hK _ rfl ?_;clear hK K)
  refine Aa.val heq ?_;simp;try (refine hK _ rfl ?_;clear hK K)
  (repeat refine AW.seq_k fun K hK=>?_);refine AW.rg ?_;simp;try (refine hK _ rfl ?_;clear hK K)
  refine AW.yes ?_ rfl;(repeat refine AW.seq_k fun K hK=>?_);refine AW.rg ?_;simp;try (refine hK _ rfl ?_;clear hK K)
  exact AW.ret (Ae [An [],.bool false,.int .i64 2] rfl ⟨.nilsl 4,.same _,.same _,trivial⟩ ⟨by rw[hS];rfl,rfl⟩)
 |some M =>
  rw[hE]at heq hS;simp only[Option.bind_some]at hS;obtain⟨gl,gg⟩:=Gb hE;have hMl:((Be M).map An).length=es.length:=by simp[Be,gl]
  (repeat refine AW.seq_k fun K hK=>?_);refine AW.rg ?_;simp;try (refine hK _ rfl ?_;clear hK K)
  refine Aa.whole (fun _ h=>h) heq ?_;rintro _ X ⟨ov,ob,rfl,hX⟩;simp;try (refine hK _ rfl ?_;clear hK K)
  (repeat refine AW.seq_k fun K hK=>?_);refine AW.rg ?_;simp;try (refine hK _ rfl ?_;clear hK K)
  refine AW.no ?_ rfl;refine AW.skip ?_;try simp
  try (refine hK _ rfl ?_;clear hK K)
  unfold Jk at hpi;cases hP:P0 N q with
  |none =>
   rw[hP]at hpi hS;simp only at hpi;simp only[Option.bind_none]at hS;unfold Ap at hpi;(repeat refine AW.seq_k fun K hK=>?_);refine AW.rg ?_;simp;try (refine hK _ rfl ?_;clear hK K)
   refine Aa.val hpi ?_;simp;try (refine hK _ rfl ?_;clear hK K)
   (repeat refine AW.seq_k fun K hK=>?_);refine AW.rg ?_;simp;try (refine hK _ rfl ?_;clear hK K)
   refine AW.yes ?_ rfl;(repeat refine AW.seq_k fun K hK=>?_);refine AW.rg ?_;simp;try (refine hK _ rfl ?_;clear hK K)
   exact AW.ret (Ae [An [],.bool false,.int .i64 2] rfl ⟨.nilsl 4,.same _,.same _,trivial⟩ ⟨by rw[hS];rfl,rfl⟩)
  |some P =>
   rw[hP]at hpi hS;simp only at hpi;simp only[Option.bind_some]at hS;have hPl:=Zw hP;have hPl2:((Be P).map An).length≤3:=by simpa[Be]using hPl.2
   have hPl1:1≤((Be P).map An).length:=by simpa[Be]using hPl.1
   have hone:∀x∈(Be P).map An,x.cells.length=1∧∀y∈x.cells,y.one=true:=fun x hx=>by
    obtain⟨y,_,rfl⟩:=List.mem_map.1 hx;exact⟨rfl,by simp[An,AV.cells,AV.one]⟩
   have hfi:=Qi (Be (M++P)) (I7 _);rw[←hS]at hfi;have happ:Ap (Be (M++P))=.sl 1 ((Be M).map An++(Be P).map An):=by unfold Ap Be;rw[List.map_append,List.map_append]
   rw[happ]at hfi;obtain⟨r1,r2,r3,hr⟩:=Yy N es (q.map Aq);rw[hr]at hfi ⊢;unfold Ap at hpi;generalize(Be M).map An=LM at *;generalize(Be P).map An=LP at *;(repeat refine AW.seq_k fun K hK=>?_);refine AW.rg ?_;simp;try (refine hK _ rfl ?_;clear hK K)
   refine Aa.val hpi ?_;simp;try (refine hK _ rfl ?_;clear hK K)
   (repeat refine AW.seq_k fun K hK=>?_);refine AW.rg ?_;simp;try (refine hK _ rfl ?_;clear hK K)
   refine AW.no ?_ rfl;refine AW.skip ?_;try simp
   try (refine hK _ rfl ?_;clear hK K)
   rcases hX.lst with⟨z1,z2,z3⟩|⟨b0,z2,z3,z4⟩
   ·subst z1 z2 z3;have hne:LP≠[]:=fun h=>by rw[h]at hPl1;simp at hPl1
    rw[List.nil_append]at hfi;(repeat refine AW.seq_k fun K hK=>?_);refine AW.rg ?_;simp[hone,hne];try (refine hK _ rfl ?_;clear hK K)
    (repeat refine⟨by first | omega | exact hone | (unfold maxLen;omega),?_⟩);refine Af.intro fun b' hb'=>?_;refine Aa.whole (fun _ h=>h) (Ai.view (args':=[.sl 1 (LP)]) ⟨rfl,fun j u u' h1 h2=>?_⟩ hfi) ?_
    ·match j with
     |0=>cases h1;cases h2;exact Ci (Ac.set_same _ _ _) rfl (by simp)
     |k+1=>cases h1
    rintro _ _ ⟨rfl,rfl⟩;simp;try (refine hK _ rfl ?_;clear hK K)
    exact AW.ret (Ae [r1,r2,r3] rfl ⟨.same _,.same _,.same _,trivial⟩ ⟨rfl,rfl⟩)
   ·subst z2 z3;(repeat refine AW.seq_k fun K hK=>?_);refine AW.rg ?_;simp[hone,z4];try (refine hK _ rfl ?_;clear hK K)
    (repeat refine⟨by first | omega | exact hone | (unfold maxLen;omega),?_⟩);refine Af.intro fun b' hb'=>?_;refine Aa.whole (fun _ h=>h) (Ai.view (args':=[.sl 1 (LM++LP)]) ⟨rfl,fun j u u' h1 h2=>?_⟩ hfi) ?_
    ·match j with
     |0=>cases h1;cases h2;exact Ci (Ac.set_same _ _ _) rfl (by simp[hMl])
     |k+1=>cases h1
    rintro _ _ ⟨rfl,rfl⟩;simp;try (refine hK _ rfl ?_;clear hK K)
    exact AW.ret (Ae [r1,r2,r3] rfl ⟨.same _,.same _,.same _,trivial⟩ ⟨rfl,rfl⟩)
end Go.Av
end
section
namespace Go.Av
open Go.Proofs Go.Lam
def eI (l:List Nat) (k:Nat):List RE:=(List.range k).map fun j=>⟨(l.getD (2*j) 0:Nat),(l.getD (2*j+1) 0:Nat),Aq 1⟩
def Si (l:List Nat):List RE:=eI l (l.length / 2)
theorem Qlz (l:List Nat) (k:Nat):eI l (k+1)=eI l k++[⟨(l.getD (2*k) 0:Nat),(l.getD (2*k+1) 0:Nat),Aq 1⟩]:=by
 unfold eI;rw[List.range_succ,List.map_append];rfl
theorem S4 (l:List Nat) (hl:l.length≤100):Ai Tryz.prog 47 [.sl 1 (Ax l)] Ac.emp fun v m=>v=A8 (Si l)∧m=Ac.emp:=by
 have hw:=Lp 1 (by omega) (by omega);rw[Io]at hw;unfold RR.av at hw;refine Ad Tryz.func47 rfl rfl 27 rfl (Nat.le_of_ble_eq_true rfl) ?_;(repeat refine AW.seq_k fun K hK=>?_);refine AW.rg ?_;simp[Al];try (refine hK _ rfl ?_;clear hK K)
 (repeat refine AW.seq_k fun K hK=>?_);refine AW.rg ?_;simp;try (refine hK _ rfl ?_;clear hK K)
 refine AW.seq_ex (ι:=Qg) (fun z=>[(3,z.ov)]) (fun z=>z.M) (fun z=>Fj z.M 46 6 z.ov z.ob (Ff (Si l))) ?_ ?_
 ·(repeat refine AW.seq_k fun K hK=>?_);refine AW.rg ?_;simp;try (refine hK _ rfl ?_;clear hK K)
  refine AW.block (AW.loopS (ι:=Nat × Qg) (fun z=>[(0,.sl 1 (Ax l)),(3,z.2.ov),(4,.int .i64 ((2*z.1:Nat):Int))]) (fun z=>z.2.M) (fun z=>2*z.1≤l.length∧Fj z.2.M 46 6 z.2.ov z.2.ob (Ff (eI l z.1))) (fun z=>l.length-z.1) (0,⟨Ac.emp,.nil,[]⟩) ⟨by simp,Fj.start _ _⟩ rfl (by simp) ?_);rintro⟨i,M,ov,ob⟩ ⟨g1,g2⟩;simp only at g1 g2;simp only;have w1:=Au (2*i+1) (by omega);have w2:=Au (2*i+2) (by omega);(repeat refine AW.seq_k fun K hK=>?_);refine AW.rg ?_;simp[-Int.natCast_add,-Int.natCast_mul,w1];try (refine hK _ rfl ?_;clear hK K)
  (repeat refine AW.seq ?_);refine AW.cs (fun hi=>?_) (fun hi=>?_) rfl<;>(try simp at hi)
  ·refine AW.skip ?_;try simp[-Int.natCast_add,-Int.natCast_mul]
   try (refine hK _ rfl ?_;clear hK K)
   have h0:2*i<l.length:=by omega
   have e0:l.getD (2*i) 0=l[2*i]:=by rw[List.getD_eq_getElem?_getD,List.getElem?_eq_getElem h0];rfl
   have e1:l.getD (2*i+1) 0=l[2*i+1]:=by rw[List.getD_eq_getElem?_getD,List.getElem?_eq_getElem hi];rfl
   have hst:Ff (eI l (i+1))=Ff (eI l i)++[.agg [.int .i64 (l[2*i]:Nat),.int .i64 (l[2*i+1]:Nat),.bool (Aq 1).n1,Ao (Aq 1).l1,.bool (Aq 1).n2,Ao (Aq 1).l2]]:=by
    rw[Qlz,e0,e1];unfold Ff;rw[List.map_append];rfl
   have hfin:∀s:Qg,Fj s.M 46 6 s.ov s.ob (Ff (eI l i)++[.agg [.int .i64 (l[2*i]:Nat),.int .i64 (l[2*i+1]:Nat),.bool (Aq 1).n1,Ao (Aq 1).l1,.bool (Aq 1).n2,Ao (Aq 1).l2]])→Fj s.M 46 6 s.ov s.ob (Ff (eI l (i+1))):=fun s h=>by rw[hst];exact h
   have hll:(Ff (eI l i)).length≤100:=by simp[eI];omega
   generalize Ff (eI l i)=LL at *;(repeat refine AW.seq ?_);refine AW.block ?_;rcases g2.lst with⟨z1,z2,z3⟩ | ⟨b0,z2,z3,z4⟩
   ·subst z1 z2 z3;refine AW.rdR [24] [0,1,2,3,4,5,6,7,8,9,10,11,12,13,14] C6 ?_;simp[-Int.natCast_add,-Int.natCast_mul,h0,hi,w1];refine Aa.val hw ?_;simp[-Int.natCast_add,-Int.natCast_mul];refine⟨by unfold maxLen;omega,Af.intro fun b hb=>?_⟩;(repeat refine AW.seq_k fun K hK=>?_);refine AW.rg ?_;simp[-Int.natCast_add,-Int.natCast_mul,w2];try (refine hK _ rfl ?_;clear hK K)
    exact⟨i+1,⟨_,_,[b]⟩,⟨by omega,hfin _ (g2.push0 b _)⟩,by omega,rfl,rfl,rfl⟩
   ·subst z2 z3;refine AW.rdR [24] [0,1,2,3,4,5,6,7,8,9,10,11,12,13,14] C6 ?_;simp[-Int.natCast_add,-Int.natCast_mul,h0,hi,w1,z4];refine Aa.val hw ?_;simp[-Int.natCast_add,-Int.natCast_mul,z4];refine⟨by omega,by unfold maxLen;omega,Af.intro fun b hb=>?_⟩;(repeat refine AW.seq_k fun K hK=>?_);refine AW.rg ?_;simp[-Int.natCast_add,-Int.natCast_mul,w2];try (refine hK _ rfl ?_;clear hK K)
    exact⟨i+1,⟨_,_,[b]⟩,⟨by omega,hfin _ (g2.push1 b _)⟩,by omega,rfl,rfl,rfl⟩
  ·refine AW.exit ?_;try simp[-Int.natCast_add,-Int.natCast_mul]
   have:i=l.length / 2:=by omega
   exact⟨⟨M,ov,ob⟩,by unfold Si;rw[←this];exact g2,by simp⟩
 rintro⟨M,ov,ob⟩ g1;(repeat refine AW.seq_k fun K hK=>?_);refine AW.rg ?_;simp;try (refine hK _ rfl ?_;clear hK K)
 have hv:=g1.lst.view (M':=Ac.emp) (fun _ _=>rfl);exact AW.ret (Ae [A8 (Si l)] rfl ⟨hv,trivial⟩ ⟨rfl,rfl⟩)
end Go.Av
end
section
namespace Go.Av
open Go.Proofs Go.Lam
def l4:List Nat:=[0,1,1,2,2,3,3,0]
def l6:List Nat:=[0,1,1,2,2,3,3,0,0,2,1,3]
def exP:List Rat:=[0,0,1,0,1,1,0,1]
def exM:List (List Rat):=((Nc 4 (Ah (Si l4)) exP 4).bind fun M=>(P0 4 exP).bind fun P=>some (M++P)).getD []
def exZ:List (List Rat) × List Nat:=(Ep exM).getD ([],[])
theorem Xg:Ds 4 (Si l4)=true:=by decide +kernel
theorem Qma:Ho 4 (Si l4)=[0,1,2,3]:=by decide +kernel
theorem Qm3:Ua 4 (Si l4)=.int .i64 1:=by unfold Ua;rw[if_pos Xg,Qma];rfl
theorem Qbc:Cg 4 (Si l4)=.int .i64 0:=by unfold Cg;rw[if_pos Xg]
theorem Qlf:(Td 4 (Si l4)).length=4:=by decide +kernel
theorem Qnb:∃l,Lt 4 (Si l6) 5=.tup [.sl 1 (Ax l),.int .i64 0]∧l.length=6:=by
 have h:It 4 (Si l6) 5=0:=by decide +kernel
 refine⟨_,by unfold Lt;rw[h],?_⟩;decide +kernel
theorem Qzc:((Nc 4 (Ah (Si l4)) exP 4).bind fun M=>(P0 4 exP).bind fun P=>some (M++P))=some exM:=by decide +kernel
theorem Qkd:Bp 7 8 exM:=⟨by unfold Ee Bu;decide +kernel,by unfold J3;decide +kernel,by decide +kernel⟩
theorem Qpq:Ep exM=some exZ:=by decide +kernel
theorem Qrn:∃v V,F9 exZ.1 exZ.2 8 8=v::V∧v.length=8∧Cd v 4=1:=by
 have h:(match F9 exZ.1 exZ.2 8 8 with | v::_=>decide (v.length=8∧Cd v 4=1) | []=>false)=true:=by decide +kernel
 cases hk:F9 exZ.1 exZ.2 8 8 with
 |nil=>rw[hk]at h;cases h
 |cons v V=>rw[hk]at h;simp only[decide_eq_true_eq]at h;exact⟨v,V,rfl,h.1,h.2⟩
theorem Qr1:(exP.map Aq).all RR.ok=true:=by decide +kernel
theorem Qpr:∃v:List Rat,Tx 4 (Si l4) (exP.map Aq)=.tup [An (v.map Aq),.bool true,.int .i64 0]∧v.length=8∧Cd v 4=1:=by
 obtain⟨v,V,h1,h2,h3⟩:=Qrn;refine⟨v,?_,h2,h3⟩;have hp:D1 4 (Si l4) (exP.map Aq)=true:=by unfold D1;rw[Xg,Qr1];rfl
 have hq:(exP.map Aq).map RR.q=exP:=by
  rw[List.map_map]
  conv=>rhs;rw[←List.map_id exP]
  exact List.map_congr_left fun q _=>Hn q
 rw[W8 hp,hq];have e4:(Si l4).length=4:=by decide +kernel
 have hc:=Qic Qkd (by decide +kernel) (by omega) (by omega);have hw:(Aj (Be exM) 0).length=8:=by rw[Bq,List.length_map];decide +kernel
 have hr:Ei (Be exM)=(0,exZ.1,exZ.2):=by
  unfold Ei;rw[if_neg (by simp[hc]),Qmo,Qpq]
 have hR:K3 (Be exM)=(0,v::V):=by
  unfold K3;rw[hr,if_neg (by simp),hw,h1]
 rw[e4,show(4:Int).toNat=4 from rfl,Qzc];simp only;unfold Gw;rw[hR];rfl
theorem Aa.eat {P:Program} {av:Nat→Prop} {f:FuncId} {args:List AV} {M:Ac} {k:AV→Ac→Prop} {v:AV} {args':List AV} (h:Ai P f args' Ac.emp fun v' m'=>v'=v∧m'=Ac.emp) (hv:D8 M Ac.emp args args') (hk:k v Ac.emp) (hav:∀b,¬av b:=by exact fun _ h=>h):Aa P av f args M k :=
 Aa.whole hav (Ai.view (Da hv) h) (by rintro _ _ ⟨rfl,rfl⟩;exact hk)
theorem Yg:Ai Tryz.prog 17 [] Ac.emp fun v m=>v=.bool true∧m=Ac.emp:=by
 have hlb:∀l,LbE (Si l):=fun l x hx=>by
  unfold Si eI at hx;obtain⟨j,_,rfl⟩:=List.mem_map.1 hx;exact D9 _
 have hln:True:=trivial;have he4:=S4 l4 (by decide);have he6:=S4 l6 (by decide);have hfr:=Vj 4 (Si l4) (hlb _);have hcl:=Qea 4 (Si l4) (hlb _) (fun _=>by omega);have hmo:=O2 4 (Si l4) (exP.map Aq) (hlb _) (fun x hx=>by obtain⟨q,_,rfl⟩:=List.mem_map.1 hx;exact D9 _) (by decide);have hci:=Qck 4 (Si l6) 5 (hlb _);obtain⟨cl,c1,c2⟩:=Qnb;obtain⟨v,m1,m2,m3⟩:=Qpr;have hcn:=Qlf;have hv4:Bu (Cd v 4):=by rw[m3];exact Yq
 have hs:=Nw (a:=Cd v 4) (b:=1) hv4;rw[decide_eq_true m3]at hs;rw[Qm3,Qbc]at hfr;rw[Qbc]at hcl;rw[m1]at hmo;rw[c1]at hci;have hw0:=Lp 0 (by omega) (by omega);have hw1:=Lp 1 (by omega) (by omega);rw[F7]at hw0;rw[Io]at hw1;have hrow:An (exP.map Aq)=.sl 4 [(Aq 0).av,(Aq 0).av,(Aq 1).av,(Aq 0).av,(Aq 1).av,(Aq 1).av,(Aq 0).av,(Aq 1).av]:=rfl;rw[hrow]at hmo;have hi4:AV.sl 1 (Ax l4)=.sl 1 [.int .i64 0,.int .i64 1,.int .i64 1,.int .i64 2,.int .i64 2,.int .i64 3,.int .i64 3,.int .i64 0]:=rfl
 have hi6:AV.sl 1 (Ax l6)=.sl 1 [.int .i64 0,.int .i64 1,.int .i64 1,.int .i64 2,.int .i64 2,.int .i64 3,.int .i64 3,.int .i64 0,.int .i64 0,.int .i64 2,.int .i64 1,.int .i64 3]:=rfl;rw[hi4]at he4;rw[hi6]at he6;generalize Si l4=E4 at *;generalize Si l6=E6 at *;generalize Td 4 E4=CS at *;generalize(Aq 0)=Q0 at *;generalize hQ1:(Aq 1)=Q1 at *;refine Ad Tryz.func17 rfl rfl 89 rfl (Nat.le_of_ble_eq_true rfl) ?_;(repeat refine AW.seq_k fun K hK=>?_);refine AW.rg ?_;simp[Al];try (refine hK _ rfl ?_;clear hK K)
 (repeat refine AW.seq_k fun K hK=>?_);refine AW.rg ?_;simp;try (refine hK _ rfl ?_;clear hK K)
 refine Af.intro fun b1 hb1=>?_;refine Aa.eat he4 ⟨Ci (Ac.set_same _ _ _) rfl rfl,trivial⟩ ?_;simp;try (refine hK _ rfl ?_;clear hK K)
 unfold A8 at *;(repeat refine AW.seq_k fun K hK=>?_);refine AW.rg ?_;simp;try (refine hK _ rfl ?_;clear hK K)
 refine Aa.val hfr ?_;simp;try (refine hK _ rfl ?_;clear hK K)
 (repeat refine AW.seq_k fun K hK=>?_);refine AW.rg ?_;simp;try (refine hK _ rfl ?_;clear hK K)
 refine Aa.val hcl ?_;simp;try (refine hK _ rfl ?_;clear hK K)
 (repeat refine AW.seq_k fun K hK=>?_);refine AW.rg ?_;simp;try (refine hK _ rfl ?_;clear hK K)
 refine Aa.val hw0 ?_;simp;refine Aa.val hw0 ?_;simp;refine Aa.val hw1 ?_;simp;refine Aa.val hw0 ?_;simp;refine Aa.val hw1 ?_;simp;refine Aa.val hw1 ?_;simp;refine Aa.val hw0 ?_;simp;refine Aa.val hw1 ?_;simp;refine Af.intro fun b2 hb2=>?_;try (refine hK _ rfl ?_;clear hK K)
 (repeat refine AW.seq_k fun K hK=>?_);refine AW.rg ?_;simp;try (refine hK _ rfl ?_;clear hK K)
 refine Aa.eat hmo ⟨.same _,.same _,Ci (Ac.set_same _ _ _) rfl rfl,trivial⟩ ?_;simp;try (refine hK _ rfl ?_;clear hK K)
 (repeat refine AW.seq_k fun K hK=>?_);refine AW.rg ?_;simp;try (refine hK _ rfl ?_;clear hK K)
 refine Af.intro fun b3 hb3=>?_;refine Aa.eat he6 ⟨Ci (Ac.set_same _ _ _) rfl rfl,trivial⟩ ?_;simp;refine Aa.val hci ?_;simp;try (refine hK _ rfl ?_;clear hK K)
 have hcl4:(Gk CS).length=4:=by unfold Gk;simpa using hcn
 have hr4:rr (v.map Aq) 4=Aq (Cd v 4):=by rw[G6 (by simp[m2])];unfold Cd;simp[m2]
 generalize Aq (Cd v 4)=q4 at *;unfold RR.av at hs hw1;unfold An;(repeat refine AW.seq_k fun K hK=>?_);refine AW.rd [0,1,2,3,4,5,6,7,8,9,10,11,12,13,14,15,16,17,18,19,20,21,22,23,24,25,26,27,28,29,30,31,32,33,34,35,36,37,38,39,40,41,42,43] C6 ?_;simp[hcl4,m2,c2,hr4];try (refine hK _ rfl ?_;clear hK K)
 refine Aa.val hw1 ?_;simp[hcl4,m2,c2,hr4];refine Aa.val hs ?_;simp[hcl4,m2,c2,hr4];try (refine hK _ rfl ?_;clear hK K)
 exact AW.ret (Ag rfl _ (.same _) ⟨rfl,rfl⟩)
end Go.Av
end
section
namespace Go.Av
open Go.Proofs
theorem Qah (r:List RR) (x:RR):Bg (r++[x])=Bg r++[x.av]:=by simp[Bg]
structure Ja (M:Ac) (ov:AV) (ob:List Nat) (l:List AV) (rv:AV) (rb:List Nat) (r:List AV):Prop where
 lst:Kz M 51 1 ov ob l
 row:Kz M 44 4 rv rb r
 only:Dc M (ob++rb)
 dis:∀b∈ob,b ∉ rb
section
variable {M:Ac} {ov rv:AV} {ob rb:List Nat} {l r:List AV}
theorem L5 {M:Ac} {ty:TypeId} {z:Nat} {ov:AV} {ob:List Nat} {l:List AV} (h:Kz M ty z ov ob l) {b:Nat} (hb:b∈ob):M b=some ⟨ty,z,l⟩:=by
 rcases h with⟨_,h1,_⟩|⟨b',h1,_,h3⟩
 ·rw[h1]at hb;cases hb
 ·rw[h1]at hb;simp at hb;subst hb;exact h3
theorem Ja.start {M:Ac} {ov:AV} {ob:List Nat} {l:List AV} (h:Fj M 51 1 ov ob l):Ja M ov ob l .nil [] [] :=
 ⟨h.lst,.inl ⟨rfl,rfl,rfl⟩,by simpa using h.only,by simp⟩
theorem Ja.fresh (h:Ja M ov ob l rv rb r) {b:Nat} (hb:M b=none):b ∉ ob∧b ∉ rb :=
 ⟨fun h'=>(by rw[L5 h.lst h']at hb;cases hb),fun h'=>(by rw[L5 h.row h']at hb;cases hb)⟩
theorem Ja.push0 (h:Ja M ov ob l .nil [] []) {b:Nat} (hb:M b=none) (v:AV):Ja (M.set b ⟨44,4,[v]⟩) ov ob l (.osl b 4 0 1) [b] [v]:=by
 obtain⟨f1,_⟩:=h.fresh hb;refine⟨h.lst.keep fun a ha=>by simp only[A6];rw[if_neg (by rintro rfl;exact f1 ha)],.inr ⟨b,rfl,rfl,by simp⟩,Dc.set (h.only.sub fun a ha=>by simp at ha ⊢;exact .inl ha) (by simp) _,fun a ha=>by simp;rintro rfl;exact f1 ha⟩
theorem Ja.push1 {b0:Nat} (h:Ja M ov ob l (.osl b0 4 0 r.length) [b0] r) {b:Nat} (hb:(M.del b0) b=none) (v:AV):Ja ((M.del b0).set b ⟨44,4,r++[v]⟩) ov ob l (.osl b 4 0 (r.length+1)) [b] (r++[v]):=by
 have hd:∀a,a≠b0→(M.del b0) a=M a:=fun a ha=>if_neg ha;have h0:∀a∈ob,a≠b0:=fun a ha e=>h.dis a ha (by simp[e]);have hh:Ja (M.del b0) ov ob l .nil [] []:=by
  refine⟨h.lst.keep fun a ha=>hd a (h0 a ha),.inl ⟨rfl,rfl,rfl⟩,fun a ha=>?_,by simp⟩;have h1:a≠b0:=by rintro rfl;exact ha (if_pos rfl)
  rw[hd a h1]at ha;have:=h.only a ha;simp at this ⊢;exact this.resolve_right h1
 have:=hh.push0 hb v;obtain⟨f1,_⟩:=hh.fresh hb;refine⟨hh.lst.keep fun a ha=>by simp only[A6];rw[if_neg (by rintro rfl;exact f1 ha)],.inr ⟨b,rfl,by simp,by simp⟩,Dc.set (hh.only.sub fun a ha=>by simp at ha ⊢;exact .inl ha) (by simp) _,fun a ha=>by simp;rintro rfl;exact f1 ha⟩
theorem Ja.ones (h:Ja M ov ob l rv rb r) (h1:∀v∈l,v.cells.all AV.one=true) (h2:∀v∈r,v.cells.all AV.one=true):Du M:=by
 intro b y hy;rcases List.mem_append.1 (h.only b (by rw[hy];simp))with hb | hb
 ·rw[L5 h.lst hb]at hy;cases hy;exact h1
 ·rw[L5 h.row hb]at hy;cases hy;exact h2
theorem Ja.done (h:Ja M ov ob l rv rb r) (h1:∀v∈l,v.cells.all AV.one=true):∃M',Ba M M'∧Fj M' 51 1 ov ob l∧Br M M' rv (.sl 4 r)∧Br M M' ov ov:=by
 refine⟨fun b=>if b∈rb then none else M b,Ba.sub fun b y hy=>?_,⟨h.lst.keep fun b hb=>if_neg (h.dis b hb),fun b hb=>?_⟩,?_,.same _⟩
 ·by_cases hb:b∈rb
  ·simp[hb]at hy
  ·simp[hb]at hy;refine⟨hy,?_⟩;have:=h.only b (by rw[hy];simp);simp[hb]at this;rw[L5 h.lst this]at hy;cases hy;exact h1
 ·by_cases hm:b∈rb
  ·simp[hm]at hb
  ·simp[hm]at hb;have:=h.only b hb;simpa[hm]using this
 ·exact h.row.view fun b hb=>if_pos hb
end
end Go.Av
end
section
namespace Go.Av
open Go.Proofs
def Ng:Nat→(Nat→Rat)→Rat
 |0,_=>0
 |n+1,f=>Ng n f+f n
theorem Gz (n:Nat) (f:Nat→Rat):Ng (n+1) f=Ng n f+f n:=rfl
theorem Nv {n:Nat} {f g:Nat→Rat} (h:∀i,i<n→f i=g i):Ng n f=Ng n g:=by
 induction n with
 |zero=>rfl
 |succ n ih=>rw[Gz,Gz,ih (fun i hi=>h i (by omega)),h n (by omega)]
theorem Qh6 (n:Nat) (f g:Nat→Rat):Ng n (fun i=>f i+g i)=Ng n f+Ng n g:=by
 induction n with
 |zero=>show(0:Rat)=0+0;grind
 |succ n ih=>rw[Gz,Gz,Gz,ih];grind
theorem Sl (n:Nat) (c:Rat) (f:Nat→Rat):Ng n (fun i=>c*f i)=c*Ng n f:=by
 induction n with
 |zero=>show(0:Rat)=c*0;grind
 |succ n ih=>rw[Gz,Gz,ih];grind
def Jy (w:Nat) (r v:Nat→Rat):Rat:=Ng w fun l=>r l*v l
theorem Sm {w:Nat} {r r' v v':Nat→Rat} (h:∀l,l<w→r l=r' l) (h2:∀l,l<w→v l=v' l):Jy w r v=Jy w r' v':=Nv fun l hl=>by rw[h l hl,h2 l hl]
theorem Qh7 (w:Nat) (r s v:Nat→Rat) (c:Rat):Jy w (fun l=>r l-s l*c) v=Jy w r v-c*Jy w s v:=by
 unfold Jy;rw[←Sl];have:Ng w (fun l=>(r l-s l*c)*v l)=Ng w (fun l=>r l*v l+(-1)*(c*(s l*v l))):=Nv fun l _=>by grind
 rw[this,Qh6,Sl];grind
theorem Qas (w:Nat) (r v:Nat→Rat) (c:Rat):Jy w (fun l=>r l / c) v=Jy w r v / c:=by
 unfold Jy;have:Ng w (fun l=>r l / c*v l)=Ng w (fun l=>c⁻¹*(r l*v l)):=Nv fun l _=>by grind
 rw[this,Sl];grind
/-! ### Exact results -/
theorem Qlx {a b c:Rat} (h:Cz a b=some c):c=a-b:=by unfold Cz at h;split at h<;>cases h;rfl
theorem Qmv {a b c:Rat} (h:D4 a b=some c):c=a*b:=by unfold D4 at h;split at h<;>cases h;rfl
theorem Qmy {a b c:Rat} (h:Ft a b=some c):c=a / b:=by unfold Ft at h;split at h<;>cases h;rfl
theorem Qig {a f b c:Rat} (h:I0 a f b=some c):c=a-b*f:=by
 unfold I0 at h;cases hm:D4 b f with
 |none=>rw[hm]at h;cases h
 |some p=>rw[hm]at h;rw[Qlx h,Qmv hm]
theorem Qe5 {r:List Rat} {k:Nat} (hk:k<r.length) (x:Rat) (i:Nat):Cd (r.set k x) i=if i=k then x else Cd r i:=by
 unfold Cd;rw[List.getD_eq_getElem?_getD,List.getElem?_set];by_cases e:k=i
 ·subst e;rw[if_pos rfl,if_pos hk,if_pos rfl];rfl
 ·rw[if_neg e,if_neg (Ne.symm e),←List.getD_eq_getElem?_getD]
theorem Yb {op:Rat→Nat→Option Rat} {f:Nat→List Rat→Option (List Rat)} {o:Nat} (hf:∀t r,f t r=Gf op (o+t) r):∀{n:Nat} {row row':List Rat},o+n≤row.length→A3 f n row=some row' →
  row'.length=row.length∧(∀k,k<n→op (Cd row (o+k)) (o+k)=some (Cd row' (o+k)))∧∀k,k<o∨o+n≤k→Cd row' k=Cd row k
 |0,row,row',_,h=>by cases h;exact⟨rfl,fun k hk=>by omega,fun _ _=>rfl⟩
 |n+1,row,row',hl,h=>by
  rw[Cq]at h;cases hs:A3 f n row with
  |none=>rw[hs]at h;cases h
  |some u =>
   rw[hs]at h;obtain⟨h1,h2,h3⟩:=Yb hf (by omega) hs;replace h:f n u=some row':=h;rw[hf]at h;unfold Gf at h;cases ho:op (Cd u (o+n)) (o+n)with
   |none=>rw[ho]at h;cases h
   |some x =>
    rw[ho]at h;cases h;have hk:o+n<u.length:=by omega
    refine⟨by rw[List.length_set,h1],fun k hk'=>?_,fun k hk'=>?_⟩
    ·rw[Qe5 hk];by_cases e:k=n
     ·subst e;rw[if_pos rfl,←h3 (o+k) (by omega)];exact ho
     ·rw[if_neg (by omega)];exact h2 k (by omega)
    ·rw[Qe5 hk,if_neg (by omega)];exact h3 k (by omega)
theorem Qe1 {M:List (List Rat)} {i:Nat} (hi:i<M.length) (r:List Rat) (a b:Nat):B4 (M.set i r) a b=if a=i then Cd r b else B4 M a b:=by
 unfold B4;rw[Fo hi];split<;>rfl
theorem Zc {M:List (List Rat)} {i r:Nat} (hi:i<M.length) (hr:r<M.length) (a b:Nat):B4 (Cl M i r) a b=if a=r then B4 M i b else if a=i then B4 M r b else B4 M a b:=by
 unfold B4;rw[H4 hi hr];split
 ·rfl
 ·split<;>rfl
theorem Qgn {n w r j i:Nat} {M M':List (List Rat)} (h:Bp n w M) (hi:i<n) (he:Bi r j i M=some M'):M'.length=n∧∀a b,b<w→B4 M' a b=if a=i∧i≠r then B4 M a b-B4 M r b*B4 M a j else B4 M a b:=by
 unfold Bi at he;by_cases hc:i=r∨B4 M i j=0
 ·rw[if_pos hc]at he;cases he;refine⟨h.2.2,fun a b hb=>?_⟩;split
  ·rename_i hh
   rw[hh.1,hc.resolve_left hh.2];grind
  ·rfl
 ·rw[if_neg hc]at he;have hl:(Aj M i).length=w:=(h.row hi).2;rw[hl]at he;cases hm:A3 (Dy (Aj M r) (B4 M i j)) w (Aj M i)with
  |none=>rw[hm]at he;cases he
  |some row =>
   rw[hm]at he;cases he;obtain⟨k1,k2,k3⟩:=Yb (o:=0) (op:=fun q k=>I0 q (B4 M i j) (Cd (Aj M r) k)) (fun t r=>by rw[Nat.zero_add];rfl) (by omega) hm;refine⟨by rw[List.length_set];exact h.2.2,fun a b hb=>?_⟩;rw[Qe1 (by rw[h.2.2];exact hi)];by_cases e:a=i
   ·subst e;rw[if_pos rfl,if_pos ⟨rfl,fun h=>hc (.inl h)⟩];have:=k2 b hb;rw[Nat.zero_add]at this;exact Qig this
   ·rw[if_neg e,if_neg (fun h=>e h.1)]
theorem Qdm {n w r j:Nat} {M Y:List (List Rat)} (h:Bp n w M) (hr:r<n) (hd:B4 M r j≠0) (hj:j<w) (he:Fh M j r=some Y):Bp n w Y∧∀a b,a<n→b<w→B4 Y a b=if a=r then B4 M r b / B4 M r j else B4 M a b-B4 M r b / B4 M r j*B4 M a j:=by
 refine⟨N0 hr h hd he,?_⟩;unfold Fh at he;have hl:(Aj M r).length=w:=(h.row hr).2;rw[hl]at he;cases hm:A3 (Ca (B4 M r j)) w (Aj M r)with
 |none=>rw[hm]at he;cases he
 |some row =>
  rw[hm]at he;replace he:A3 (Bi r j) M.length (M.set r row)=some Y:=he;rw[h.2.2]at he;obtain⟨k1,k2,k3⟩:=Yb (o:=0) (op:=fun q _=>Ft q (B4 M r j)) (fun t r=>by rw[Nat.zero_add];rfl) (by omega) hm;have hrow:∀b,b<w→Cd row b=B4 M r b / B4 M r j:=fun b hb=>by
   have:=k2 b hb;rw[Nat.zero_add]at this;exact Qmy this
  have hg1:Bp n w (M.set r row):=h.set r (Jw (p:=fun row=>C8 row∧row.length=w) (fun k s t hs hst=>Hv (fun q k x hx=>Od hd hx) hs hst) (h.row hr) hm);have h1:∀a b,B4 (M.set r row) a b=if a=r then Cd row b else B4 M a b:=fun a b=>Qe1 (by rw[h.2.2];exact hr) row a b
  have key:∀(i:Nat) (Z:List (List Rat)),i≤n→A3 (Bi r j) i (M.set r row)=some Z→Bp n w Z∧∀a b,b<w→B4 Z a b=if a=r then Cd row b else if a<i then B4 M a b-Cd row b*B4 M a j else B4 M a b:=by
   intro i
   induction i with
   |zero =>
    intro Z _ hZ;cases hZ;refine⟨hg1,fun a b _=>?_⟩;rw[h1,if_neg (show ¬a<0 by omega)]
   |succ i ih =>
    intro Z hi hZ;rw[Cq]at hZ;cases hs:A3 (Bi r j) i (M.set r row)with
    |none=>rw[hs]at hZ;cases hZ
    |some U =>
     rw[hs]at hZ;obtain⟨g1,g2⟩:=ih U (by omega) hs;have hZ':Bi r j i U=some Z:=hZ;refine⟨Vm (by omega) g1 hZ',fun a b hb=>?_⟩;rw[(Qgn g1 (by omega) hZ').2 a b hb];by_cases e:a=i∧i≠r
     ·obtain⟨rfl,e2⟩:=e;rw[if_pos ⟨rfl,e2⟩,if_neg e2,if_pos (by omega),g2 a b hb,g2 r b hb,g2 a j hj,if_neg e2,if_neg (by omega),if_pos rfl,if_neg e2,if_neg (by omega)]
     ·rw[if_neg e,g2 a b hb];by_cases e1:a=r
      ·rw[if_pos e1,if_pos e1]
      ·rw[if_neg e1,if_neg e1];by_cases e2:a<i
       ·rw[if_pos e2,if_pos (by omega)]
       ·rw[if_neg e2,if_neg];intro h3;exact e ⟨by omega,by omega⟩
  intro a b ha hb;rw[(key n Y (Nat.le_refl _) he).2 a b hb];by_cases e:a=r
  ·rw[if_pos e,if_pos e,hrow b hb]
  ·rw[if_neg e,if_neg e,if_pos ha,hrow b hb]
end Go.Av
end
section
namespace Go.Av
open Go.Proofs
def Wz (n w:Nat) (M:List (List Rat)) (v:Nat→Rat):Prop:=∀i,i<n→Jy w (B4 M i) v=0
theorem Qf1 {n w:Nat} {M:List (List Rat)} {i r:Nat} (hM:M.length=n) (hi:i<n) (hr:r<n) (v:Nat→Rat):Wz n w (Cl M i r) v↔Wz n w M v:=by
 have e:∀a,Jy w (B4 (Cl M i r) a) v=if a=r then Jy w (B4 M i) v else if a=i then Jy w (B4 M r) v else Jy w (B4 M a) v:=fun a=>by
  have:B4 (Cl M i r) a=fun b=>if a=r then B4 M i b else if a=i then B4 M r b else B4 M a b:=funext fun b=>Zc (by omega) (by omega) a b
  rw[this];split
  ·rfl
  ·split<;>rfl
 constructor
 ·intro h a ha;by_cases e1:a=r
  ·by_cases e2:i=r
   ·have:=h r hr;rw[e,if_pos rfl,e2]at this;rw[e1];exact this
   ·have:=h i hi;rw[e,if_neg e2,if_pos rfl]at this;rw[e1];exact this
  ·by_cases e2:a=i
   ·have:=h r hr;rw[e,if_pos rfl]at this;rw[e2];exact this
   ·have:=h a ha;rw[e,if_neg e1,if_neg e2]at this;exact this
 ·intro h a ha;rw[e];split
  ·exact h i hi
  ·split
   ·exact h r hr
   ·exact h a ha
theorem Qcd {n w r j:Nat} {M Y:List (List Rat)} (hr:r<n) (hd:B4 M r j≠0) (hs:∀a b,a<n→b<w→B4 Y a b=if a=r then B4 M r b / B4 M r j else B4 M a b-B4 M r b / B4 M r j*B4 M a j) (v:Nat→Rat):Wz n w Y v↔Wz n w M v:=by
 have e1:Jy w (B4 Y r) v=Jy w (B4 M r) v / B4 M r j:=by
  rw[←Qas];exact Sm (fun l hl=>by rw[hs r l hr hl,if_pos rfl]) fun _ _=>rfl
 have e2:∀a,a<n→a≠r→Jy w (B4 Y a) v=Jy w (B4 M a) v-B4 M a j*(Jy w (B4 M r) v / B4 M r j):=fun a ha hne=>by
  rw[←Qas,←Qh7];exact Sm (fun l hl=>by rw[hs a l ha hl,if_neg hne]) fun _ _=>rfl
 constructor
 ·intro h a ha;have h0:Jy w (B4 M r) v=0:=by have:=h r hr;rw[e1]at this;grind
  by_cases e:a=r
  ·rw[e];exact h0
  ·have:=h a ha;rw[e2 a ha e,h0]at this;grind
 ·intro h a ha;by_cases e:a=r
  ·subst e;rw[e1,h a ha];grind
  ·rw[e2 a ha e,h a ha,h r hr];grind
theorem Qhe {M:List (List Rat)} {j r:Nat} (h:Ts M j r=none):∀i,r≤i→i<M.length→B4 M i j=0:=by
 unfold Ts at h;rw[List.find?_eq_none]at h;intro i hr hi;have:=h i (List.mem_range.2 hi);simp[hr]at this;exact this
structure Qfo (n w j:Nat) (M:List (List Rat)) (ps:List Nat):Prop where
 good:Bp n w M
 len:ps.length≤n
 srt:ps.Pairwise (·<·)
 lt:∀p∈ps,p<j
 one:∀k,k<ps.length→∀i,i<n→B4 M i (ps.getD k 0)=if i=k then 1 else 0
 zer:∀i,i<n→∀c,c<j→(i<ps.length→c<ps.getD i 0)→B4 M i c=0
theorem Ta {ps:List Nat} {k:Nat} (h:k<ps.length):ps.getD k 0∈ps:=by rw[List.getD_eq_getElem?_getD,List.getElem?_eq_getElem h];exact List.getElem_mem h
theorem Mq (ps:List Nat) (j k:Nat):(ps++[j]).getD k 0=if k<ps.length then ps.getD k 0 else if k=ps.length then j else 0:=by
 rw[List.getD_eq_getElem?_getD];by_cases h:k<ps.length
 ·rw[if_pos h,List.getElem?_append_left h,←List.getD_eq_getElem?_getD]
 ·rw[if_neg h,List.getElem?_append_right (by omega)];by_cases e:k=ps.length
  ·rw[if_pos e,e,Nat.sub_self];rfl
  ·rw[if_neg e,List.getElem?_eq_none (by simp;omega)];rfl
theorem Qfo.start {n w:Nat} {M:List (List Rat)} (h:Bp n w M):Qfo n w 0 M [] :=
 ⟨h,Nat.zero_le _,List.Pairwise.nil,fun p hp=>(by cases hp),fun k hk=>(by cases hk),fun i _ c hc=>by omega⟩
theorem Qfo.step {n w j:Nat} {M:List (List Rat)} {ps:List Nat} (h:Qfo n w j M ps) (hj:j<w) {z:List (List Rat) × List Nat} (he:Cb j (M,ps)=some z):Qfo n w (j+1) z.1 z.2∧∀v,Wz n w z.1 v↔Wz n w M v:=by
 have hl:=h.good.2.2;unfold Cb at he;simp only at he;cases hp:Ts M j ps.length with
 |none =>
  rw[hp]at he;simp only[Option.some.injEq]at he;subst he;have h0:=Qhe hp;show Qfo n w (j+1) M ps∧_
  refine⟨⟨h.good,h.len,h.srt,fun p hp=>by have:=h.lt p hp;omega,h.one,fun i hi c hc hcl=>?_⟩,fun _=>Iff.rfl⟩;by_cases e:c=j
  ·subst e;by_cases hil:i<ps.length
   ·have:=hcl hil;have:=h.lt _ (Ta hil);omega
   ·exact h0 i (by omega) (by omega)
  ·exact h.zer i hi c (by omega) hcl
 |some i0 =>
  rw[hp]at he;obtain⟨p1,p2,p3⟩:=Mf hp;rw[hl]at p1;have hr:ps.length<n:=by omega
  simp only at he;cases hc:Fh (Cl M i0 ps.length) j ps.length with
  |none=>rw[hc]at he;cases he
  |some Y =>
   rw[hc]at he;cases he;have hG:=h.good.swap p1 hr;have hsw:∀a b,B4 (Cl M i0 ps.length) a b=if a=ps.length then B4 M i0 b else if a=i0 then B4 M ps.length b else B4 M a b:=fun a b=>Zc (by omega) (by omega) a b
   have hd:B4 (Cl M i0 ps.length) ps.length j≠0:=by rw[hsw,if_pos rfl];exact p3
   obtain⟨hY,hs⟩:=Qdm hG hr hd hj hc;refine⟨⟨hY,by simp;omega,?_,fun p hp=>?_,fun k hk i hi=>?_,fun i hi c hc hcl=>?_⟩,fun v=>?_⟩
   ·rw[List.pairwise_append];exact⟨h.srt,by simp,fun a ha b hb=>by simp at hb;subst hb;exact h.lt a ha⟩
   ·simp at hp;rcases hp with hp | rfl
    ·have:=h.lt p hp;omega
    ·omega
   ·rw[Mq];by_cases hkl:k<ps.length
    ·rw[if_pos hkl];have hpj:=h.lt _ (Ta hkl);have o:=h.one k hkl;have z1:B4 (Cl M i0 ps.length) ps.length (ps.getD k 0)=0:=by rw[hsw,if_pos rfl,o i0 p1,if_neg (by omega)]
     rw[hs i _ hi (by omega),z1];by_cases e1:i=ps.length
     ·rw[if_pos e1,if_neg (by omega)];grind
     ·rw[if_neg e1,hsw,if_neg e1];by_cases e2:i=i0
      ·rw[if_pos e2,o _ hr,if_neg (by omega),if_neg (by omega)];grind
      ·rw[if_neg e2,o i hi];grind
    ·have hk2:k=ps.length:=by simp at hk;omega
     rw[if_neg hkl,if_pos hk2,hs i j hi hj];by_cases e1:i=ps.length
     ·rw[if_pos e1,if_pos (by omega)];grind
     ·rw[if_neg e1,if_neg (by omega)];grind
   ·have hcj:c<j∨c=j:=by omega
    have zr:c<j→B4 (Cl M i0 ps.length) ps.length c=0:=fun hc=>by
     rw[hsw,if_pos rfl];exact h.zer i0 p1 c hc (fun h=>by omega)
    rw[hs i c hi (by omega)];by_cases e1:i=ps.length
    ·have:c<j:=by
      have:=hcl (by simp;omega);rw[Mq,if_neg (by omega),if_pos e1]at this;exact this
     rw[if_pos e1,zr this];grind
    ·rw[if_neg e1];rcases hcj with hcj | hcj
     ·rw[zr hcj,hsw,if_neg e1];have hz:i≠i0→B4 M i c=0:=fun hne=>h.zer i hi c hcj fun hil=>by
       have:=hcl (by simp;omega)
       rwa [Mq,if_pos hil]at this
      by_cases e2:i=i0
      ·rw[if_pos e2,h.zer _ hr c hcj (fun h=>by omega)];grind
      ·rw[if_neg e2,hz e2];grind
     ·subst hcj;have:¬i<ps.length:=fun hil=>by
       have h1:=hcl (by simp;omega);rw[Mq,if_pos hil]at h1;have:=h.lt _ (Ta hil);omega
      grind
   ·rw[Qcd hr hd hs v,Qf1 hl p1 hr v]
end Go.Av
end
section
namespace Go.Av
open Go.Proofs Go.Lam
def Di (X:List (List Rat)) (n j:Nat):List Rat:=(List.range n).map fun i=>B4 X i j
def Xy (X:List (List Rat)) (n w:Nat):List (List Rat):=(List.range w).map fun j=>Di X n j
theorem Uh (X:List (List Rat)) (n j:Nat):Di X (n+1) j=Di X n j++[B4 X n j]:=by unfold Di;rw[List.range_succ,List.map_append];rfl
theorem Qjs (X:List (List Rat)) (n w:Nat):Xy X n (w+1)=Xy X n w++[Di X n w]:=by unfold Xy;rw[List.range_succ,List.map_append];rfl
structure TrS where
 M:Ac
 rv:AV
 rb:List Nat
theorem Qep {n k:Nat} {E:Nat→Ed} {p:List Rat} {M:List (List Rat)} (h:Nc n E p k=some M):Bp k (2*n) M:=by
 obtain⟨h1,h2⟩:=Gb h;refine⟨fun r hr=>(h2 r hr).2,fun i hi=>?_,h1⟩;have:Aj M i∈M:=by rw[Ea hi];exact List.getElem_mem hi
 exact(h2 _ this).1
noncomputable def U6 (n:Int) (es:List RE) (p:List RR):AV :=
 if D1 n es p=true then
  match Nc n.toNat (Ah es) (p.map RR.q) es.length with
  |some M=>Gw (Be (Xy M es.length (2*n.toNat)))
  |none=>.tup [An [],.bool false,.int .i64 2]
 else .tup [An [],.bool false,.int .i64 1]
theorem Tz {n:Int} {es:List RE} {p:List RR} (h:¬D1 n es p=true):U6 n es p=.tup [An [],.bool false,.int .i64 1]:=by unfold U6;rw[if_neg h]
theorem Qe7 {n:Int} {es:List RE} {p:List RR} (h:D1 n es p=true):U6 n es p=match Nc n.toNat (Ah es) (p.map RR.q) es.length with
  |some M=>Gw (Be (Xy M es.length (2*n.toNat)))
  |none=>.tup [An [],.bool false,.int .i64 2]:=by unfold U6;rw[if_pos h]
theorem Zj (n:Int) (es:List RE) (p:List RR):∃a b c,U6 n es p=.tup [a,b,c]:=by
 unfold U6;split
 ·split
  ·exact Tm _
  ·exact⟨_,_,_,rfl⟩
 ·exact⟨_,_,_,rfl⟩
def tB (w:Nat) (X:List (List Rat)) (n k:Nat):List AV:=((List.range k).map fun j=>AV.sl 4 (Bg ((Di X n j).map Aq)))++List.replicate (w-k) .nil
theorem Pr {w:Nat} {X:List (List Rat)} {n k:Nat} (h:k≤w):(tB w X n k).length=w:=by simp[tB];omega
theorem Qiy {w:Nat} {X:List (List Rat)} {n k:Nat} (h:k<w) (v:AV):(tB w X n k).set k v=((List.range k).map fun j=>AV.sl 4 (Bg ((Di X n j).map Aq)))++v::List.replicate (w-(k+1)) .nil:=by
 unfold tB;rw[List.set_append_right _ _ (by simp),List.length_map,List.length_range,Nat.sub_self,show w-k=(w-(k+1))+1 by omega,List.replicate_succ,List.set_cons_zero]
theorem Qdd {w:Nat} {X:List (List Rat)} {n k:Nat} (h:k<w):(tB w X n k).set k .nil=tB w X n k:=by
 rw[Qiy h];unfold tB;rw[show w-k=(w-(k+1))+1 by omega,List.replicate_succ]
theorem Qmq {w:Nat} {X:List (List Rat)} {n k:Nat} (h:k<w):(tB w X n k).set k (.sl 4 (Bg ((Di X n k).map Aq)))=tB w X n (k+1):=by
 rw[Qiy h];unfold tB;rw[List.range_succ,List.map_append,List.append_assoc];rfl
theorem Qwp {w:Nat} {X:List (List Rat)} {n k:Nat} (h:k<w) (v:AV):((tB w X n k).set k v)[k]?=some v:=by
 rw[List.getElem?_set_self];rw[Pr (by omega)];exact h
theorem Qjh {w:Nat} {X:List (List Rat)} {n k:Nat}:∀v∈tB w X n k,v.cells.all AV.one=true:=by
 intro v hv;unfold tB at hv;rcases List.mem_append.1 hv with h | h
 ·obtain⟨j,_,rfl⟩:=List.mem_map.1 h;rfl
 ·rw[List.eq_of_mem_replicate h];rfl
theorem Qiu {T b:Nat} {x x' y:Ev} (h:b≠T):((Ac.emp.set T x).set b y).set T x'=(Ac.emp.set T x').set b y:=by
 funext c
 simp only[A6,Aw];by_cases h1:c=T<;>by_cases h2:c=b<;>simp_all
theorem Qhi {T b b0:Nat} {x x' y:Ev} (h:b≠T) (h0:b0≠T):(((Ac.emp.set T x).del b0).set b y).set T x'=(Ac.emp.set T x').set b y:=by
 funext c
 simp only[A6,Aw,Ac.del];by_cases h1:c=T<;>by_cases h2:c=b<;>by_cases h3:c=b0<;>simp_all
def Yw (T w:Nat) (X:List (List Rat)) (n k:Nat) (o:Option Nat) (i:Nat):Ac:=match o with
 |none=>Ac.emp.set T ⟨51,1,(tB w X n k).set k .nil⟩
 |some b=>(Ac.emp.set T ⟨51,1,(tB w X n k).set k (.osl b 4 0 i)⟩).set b ⟨44,4,Bg ((Di X i k).map Aq)⟩
theorem Q7 {M:Ac} {T e z k:Nat} {l:List AV} {v v':AV} (hM:M T=some ⟨e,z,l.set k v⟩) (hk:k<l.length) (hv:Br M (Ac.emp.set T ⟨e,z,l.set k v'⟩) v v') (h1:∀x∈l,x.cells.all AV.one=true) (h2:v'.cells.all AV.one=true):Ba M (Ac.emp.set T ⟨e,z,l.set k v'⟩):=by
 refine⟨fun c x' hx'=>?_⟩;by_cases hc:c=T
 ·subst hc;rw[Ac.set_same]at hx';cases hx';refine⟨_,hM,rfl,rfl,by simp,fun j u u' hu hu'=>?_⟩;by_cases hj:j=k
  ·subst hj;simp only[List.getElem?_set_self hk]at hu hu';cases hu;cases hu';exact⟨hv,h2⟩
  ·simp only[List.getElem?_set_ne (Ne.symm hj)]at hu hu';rw[hu]at hu';cases hu';exact⟨.same _,h1 _ (List.mem_of_getElem? hu)⟩
 ·rw[Ac.set_other _ _ hc]at hx';cases hx'
theorem W9 (n:Int) (es:List RE) (p:List RR) (hb:LbE es) (hp:∀x∈p,x.Lb) (hpl:p.length<2^63):Ai Tryz.prog 37 [.int .i64 n,A8 es,An p] Ac.emp fun v m=>v=U6 n es p∧m=Ac.emp:=by
 have hc:=N5 n es hb;by_cases hk:Ds n es=true;rotate_left
 ·have e1:Cg n es=.int .i64 1:=by unfold Cg;rw[if_neg hk]
  have hz:=Tz (p:=p) (show ¬D1 n es p=true by unfold D1;simp[hk]);rw[e1]at hc;refine Ad Tryz.func37 rfl rfl 67 rfl (Nat.le_of_ble_eq_true rfl) ?_;unfold A8 An at *;(repeat refine AW.seq_k fun K hK=>?_);refine AW.rg ?_;simp[Al];try (refine hK _ rfl ?_;clear hK K)
  (repeat refine AW.seq_k fun K hK=>?_);refine AW.rg ?_;simp;try (refine hK _ rfl ?_;clear hK K)
  refine Aa.val hc ?_;simp;try (refine hK _ rfl ?_;clear hK K)
  (repeat refine AW.seq_k fun K hK=>?_);refine AW.rg ?_;simp;try (refine hK _ rfl ?_;clear hK K)
  refine AW.yes ?_ rfl;(repeat refine AW.seq_k fun K hK=>?_);refine AW.rg ?_;simp;try (refine hK _ rfl ?_;clear hK K)
  exact AW.ret (Ae [An [],.bool false,.int .i64 1] rfl ⟨.nilsl 4,.same _,.same _,trivial⟩ ⟨by rw[hz];rfl,rfl⟩)
 obtain⟨⟨h1,h2,h3⟩,_⟩:=El hk;have hpo:=Uk n p (by omega) h2 hp hpl;have e1:Cg n es=.int .i64 0:=by unfold Cg;rw[if_pos hk]
 rw[e1]at hc;by_cases hpb:Z4 n p=true;rotate_left
 ·have hz:=Tz (p:=p) (show ¬D1 n es p=true by rw[Mj,hk];simpa using hpb);rw[Bool.not_eq_true]at hpb;rw[hpb]at hpo;refine Ad Tryz.func37 rfl rfl 67 rfl (Nat.le_of_ble_eq_true rfl) ?_;unfold A8 An at *;(repeat refine AW.seq_k fun K hK=>?_);refine AW.rg ?_;simp[Al];try (refine hK _ rfl ?_;clear hK K)
  (repeat refine AW.seq_k fun K hK=>?_);refine AW.rg ?_;simp;try (refine hK _ rfl ?_;clear hK K)
  refine Aa.val hc ?_;simp;try (refine hK _ rfl ?_;clear hK K)
  (repeat refine AW.seq_k fun K hK=>?_);refine AW.rg ?_;simp;try (refine hK _ rfl ?_;clear hK K)
  refine AW.no ?_ rfl;refine AW.skip ?_;try simp
  try (refine hK _ rfl ?_;clear hK K)
  (repeat refine AW.seq_k fun K hK=>?_);refine AW.rg ?_;simp;try (refine hK _ rfl ?_;clear hK K)
  refine Aa.val hpo ?_;simp;try (refine hK _ rfl ?_;clear hK K)
  refine AW.yes ?_ rfl;(repeat refine AW.seq_k fun K hK=>?_);refine AW.rg ?_;simp;try (refine hK _ rfl ?_;clear hK K)
  exact AW.ret (Ae [An [],.bool false,.int .i64 1] rfl ⟨.nilsl 4,.same _,.same _,trivial⟩ ⟨by rw[hz];rfl,rfl⟩)
 have hpl:D1 n es p=true:=by rw[Mj,hk,hpb];rfl
 rw[hpb]at hpo;obtain⟨N,rfl,N1,N2,hok,h3,hrow,hpe⟩:=Km hp hpl;have hS:=Qe7 hpl;simp only[Int.toNat_natCast]at hok hS;have heq:=Qb N es (p.map RR.q) N1 N2 hok h3 hrow;generalize p.map RR.q=q at *;subst hpe;unfold Qbo at heq;refine Ad Tryz.func37 rfl rfl 67 rfl (Nat.le_of_ble_eq_true rfl) ?_;unfold A8 at hc;unfold A8 An;(repeat refine AW.seq_k fun K hK=>?_);refine AW.rg ?_;simp[Al];try (refine hK _ rfl ?_;clear hK K)
 (repeat refine AW.seq_k fun K hK=>?_);refine AW.rg ?_;simp;try (refine hK _ rfl ?_;clear hK K)
 refine Aa.val hc ?_;simp;try (refine hK _ rfl ?_;clear hK K)
 (repeat refine AW.seq_k fun K hK=>?_);refine AW.rg ?_;simp;try (refine hK _ rfl ?_;clear hK K)
 refine AW.no ?_ rfl;refine AW.skip ?_;try simp
 try (refine hK _ rfl ?_;clear hK K)
 (repeat refine AW.seq_k fun K hK=>?_);refine AW.rg ?_;simp;try (refine hK _ rfl ?_;clear hK K)
 refine Aa.val hpo ?_;simp;try (refine hK _ rfl ?_;clear hK K)
 refine AW.no ?_ rfl;refine AW.skip ?_;try simp
 try (refine hK _ rfl ?_;clear hK K)
 cases hE:Nc N (Ah es) q es.length with
 |none =>
  rw[hE]at heq hS;simp only at hS;unfold Ap at heq;(repeat refine AW.seq_k fun K hK=>?_);refine AW.rg ?_;simp;try (refine hK _ rfl ?_;clear hK K)
  refine Aa.val heq ?_;simp;try (refine hK _ rfl ?_;clear hK K)
  (repeat refine AW.seq_k fun K hK=>?_);refine AW.rg ?_;simp;try (refine hK _ rfl ?_;clear hK K)
  refine AW.yes ?_ rfl;(repeat refine AW.seq_k fun K hK=>?_);refine AW.rg ?_;simp;try (refine hK _ rfl ?_;clear hK K)
  exact AW.ret (Ae [An [],.bool false,.int .i64 2] rfl ⟨.nilsl 4,.same _,.same _,trivial⟩ ⟨by rw[hS];rfl,rfl⟩)
 |some M =>
  rw[hE]at heq hS;simp only at hS;obtain⟨gl,gg⟩:=Gb hE;have hMl:((Be M).map An).length=es.length:=by simp[Be,gl]
  have hX:Bp es.length (2*N) M:=Qep hE;have hfi:=Qi (Be (Xy M es.length (2*N))) (I7 _);rw[←hS]at hfi;obtain⟨r1,r2,r3,hr⟩:=Zj (N:Nat) es (q.map Aq);rw[hr]at hfi ⊢;have w0:=Au (2*N) (by omega);(repeat refine AW.seq_k fun K hK=>?_);refine AW.rg ?_;simp;try (refine hK _ rfl ?_;clear hK K)
  refine Aa.whole (fun _ h=>h) heq ?_;rintro _ X ⟨ov,ob,rfl,hXo⟩;simp;try (refine hK _ rfl ?_;clear hK K)
  refine AW.toEmp [(0,.int .i64 (N:Nat)),(10,Ap (Be M)),(11,.int .i64 0)] (by simp;exact hXo.lst.view (M':=Ac.emp) (fun _ _=>rfl)) ?_;(repeat refine AW.seq_k fun K hK=>?_);refine AW.rg ?_;simp;try (refine hK _ rfl ?_;clear hK K)
  refine AW.no ?_ rfl;refine AW.skip ?_;try simp
  try (refine hK _ rfl ?_;clear hK K)
  generalize es.length=n at *;generalize hw:2*N=w at *;have hEl:(Be M).length=n:=by rw[A1];exact hX.2.2
  (repeat refine AW.seq_k fun K hK=>?_);refine AW.rg ?_;simp;try (refine hK _ rfl ?_;clear hK K)
  refine AW.seq_ex (ι:=TrS) (fun s=>[(12,s.rv)]) (fun s=>s.M) (fun s=>Fj s.M 51 1 s.rv s.rb ((Be (Xy M n w)).map An)) ?_ ?_
  ·(repeat refine AW.seq_k fun K hK=>?_);refine AW.rg ?_;simp;try (refine hK _ rfl ?_;clear hK K)
   refine AW.block (AW.loopS (ι:=Nat × TrS) (fun z=>[(0,.int .i64 (N:Nat)),(10,Ap (Be M)),(12,z.2.rv),(13,.int .i64 (z.1:Nat))]) (fun z=>z.2.M) (fun z=>z.1≤w∧Fj z.2.M 51 1 z.2.rv z.2.rb ((Be (Xy M n z.1)).map An)) (fun z=>w-z.1) (0,⟨Ac.emp,.nil,[]⟩) ⟨by simp,Fj.start _ _⟩ rfl (by simp) ?_);rintro⟨j,X,ov,ob⟩ ⟨g1,g2⟩;simp only at g1 g2;simp only;(repeat refine AW.seq_k fun K hK=>?_);refine AW.rg ?_;simp[hw,w0];try (refine hK _ rfl ?_;clear hK K)
   (repeat refine AW.seq ?_);refine AW.cs (fun hj=>?_) (fun hj=>?_) rfl<;>(try simp at hj)
   ·refine AW.skip ?_;try simp
    try (refine hK _ rfl ?_;clear hK K)
    have w1:=Au (j+1) (by omega);have hones:=Gt (Xy M n j);have hll:((Be (Xy M n j)).map An).length=j:=by rw[List.length_map,A1];simp[Xy]
    generalize hl:(Be (Xy M n j)).map An=l at *;refine AW.seq_ex (ι:=TrS) (fun s=>[(0,.int .i64 (N:Nat)),(10,Ap (Be M)),(12,s.rv),(13,.int .i64 (j:Nat))]) (fun s=>s.M) (fun s=>Fj s.M 51 1 s.rv s.rb ((Be (Xy M n (j+1))).map An)) ?_ ?_
    ·(repeat refine AW.seq ?_);refine AW.block ?_;(repeat refine AW.seq_k fun K hK=>?_);refine AW.rg ?_;simp;try (refine hK _ rfl ?_;clear hK K)
     refine AW.seq_ex (ι:=TrS) (fun s=>[(0,.int .i64 (N:Nat)),(10,Ap (Be M)),(12,ov),(13,.int .i64 (j:Nat)),(14,s.rv)]) (fun s=>s.M) (fun s=>Ja s.M ov ob l s.rv s.rb (Bg ((Di M n j).map Aq))) ?_ ?_
     ·(repeat refine AW.seq_k fun K hK=>?_);refine AW.rg ?_;simp;try (refine hK _ rfl ?_;clear hK K)
      refine AW.block (AW.loopS (ι:=Nat × TrS) (fun z=>[(0,.int .i64 (N:Nat)),(10,Ap (Be M)),(12,ov),(13,.int .i64 (j:Nat)),(14,z.2.rv),(15,.int .i64 (z.1:Nat))]) (fun z=>z.2.M) (fun z=>z.1≤n∧Ja z.2.M ov ob l z.2.rv z.2.rb (Bg ((Di M z.1 j).map Aq))) (fun z=>n-z.1) (0,⟨X,.nil,[]⟩) ⟨by simp,Ja.start g2⟩ rfl (by simp) ?_);rintro⟨i,X,rv,rb⟩ ⟨q1,q2⟩;simp only at q1 q2;simp only;(repeat refine AW.seq_k fun K hK=>?_);refine AW.rg ?_;simp[hEl];try (refine hK _ rfl ?_;clear hK K)
      (repeat refine AW.seq ?_);refine AW.cs (fun hi=>?_) (fun hi=>?_) rfl<;>(try simp at hi)
      ·refine AW.skip ?_;try simp
       try (refine hK _ rfl ?_;clear hK K)
       have w2:=Au (i+1) (by omega);have hiE:i<(Be M).length:=by rw[hEl];exact hi
       have hli:(Aj (Be M) i).length=w:=by rw[Bq,List.length_map];exact(hX.row hi).2
       have hjl:j<(Aj M i).length:=by rw[(hX.row hi).2];exact hj
       have e1:rr (Aj (Be M) i) j=Aq (B4 M i j):=by rw[Bq,Ew hjl];rfl
       refine AW.seq_ex (ι:=TrS) (fun s=>[(0,.int .i64 (N:Nat)),(10,Ap (Be M)),(12,ov),(13,.int .i64 (j:Nat)),(14,s.rv),(15,.int .i64 (i:Nat))]) (fun s=>s.M) (fun s=>Ja s.M ov ob l s.rv s.rb (Bg ((Di M (i+1) j).map Aq))) ?_ ?_
       ·(repeat refine AW.seq ?_);refine AW.block ?_;have hfin:∀s:TrS,Ja s.M ov ob l s.rv s.rb (Bg ((Di M i j).map Aq)++[(Aq (B4 M i j)).av])→Ja s.M ov ob l s.rv s.rb (Bg ((Di M (i+1) j).map Aq)):=by
         intro s h2;rw[Uh,List.map_append,List.map_singleton,Qah];exact h2
        have hl2:(Bg ((Di M i j).map Aq)).length=i:=by rw[H7,List.length_map];simp[Di]
        generalize Bg ((Di M i j).map Aq)=l2 at *;rcases q2.row with⟨z1,z2,z3⟩ | ⟨b0,z2,z3,z4⟩
        ·subst z1 z2 z3;(repeat refine AW.seq_k fun K hK=>?_);refine AW.rgR [56] ?_;simp[hiE,hli,hj,e1];try (refine hK _ rfl ?_;clear hK K)
         exact⟨by unfold maxLen;omega,Af.intro fun b hb=>⟨⟨_,_,[b]⟩,hfin _ (q2.push0 hb _),rfl,rfl⟩⟩
        ·subst z2 z3;(repeat refine AW.seq_k fun K hK=>?_);refine AW.rgR [56] ?_;simp[hiE,hli,hj,e1,z4];try (refine hK _ rfl ?_;clear hK K)
         exact⟨by omega,by unfold maxLen;omega,Af.intro fun b hb=>⟨⟨_,_,[b]⟩,hfin _ (q2.push1 hb _),rfl,rfl⟩⟩
       rintro⟨X,rv,rb⟩ hs;(repeat refine AW.seq_k fun K hK=>?_);refine AW.rg ?_;simp[-Int.natCast_add,w2];try (refine hK _ rfl ?_;clear hK K)
       exact⟨i+1,⟨X,rv,rb⟩,⟨hi,hs⟩,by omega,by simp⟩
      ·refine AW.exit ?_;try simp
       have:i=n:=by omega
       subst this;exact⟨⟨X,rv,rb⟩,q2,by simp⟩
     rintro⟨X,rv,rb⟩ q2;simp only at q2;simp only;obtain⟨X',t1,t2,t3,t4⟩:=q2.done hones;refine AW.turn [(0,.int .i64 (N:Nat)),(10,Ap (Be M)),(12,ov),(13,.int .i64 (j:Nat)),(14,An ((Di M n j).map Aq))] X' t1 ?_ ?_
     ·simp;exact t3
     have hfin:∀s:TrS,Fj s.M 51 1 s.rv s.rb (l++[An ((Di M n j).map Aq)])→Fj s.M 51 1 s.rv s.rb ((Be (Xy M n (j+1))).map An):=by
      intro s h2;rw[Qjs,show(Be (Xy M n j++[Di M n j])).map An=(Be (Xy M n j)).map An++[An ((Di M n j).map Aq)] by simp[Be],hl];exact h2
     rcases t2.lst with⟨z1,z2,z3⟩|⟨b0,z2,z3,z4⟩
     ·subst z1 z2 z3;(repeat refine AW.seq_k fun K hK=>?_);refine AW.rgR [60] ?_;simp;try (refine hK _ rfl ?_;clear hK K)
      exact⟨by unfold maxLen;omega,Af.intro fun b hb=>⟨⟨_,_,[b]⟩,hfin _ (t2.push0 b _),rfl,rfl⟩⟩
     ·subst z2 z3;(repeat refine AW.seq_k fun K hK=>?_);refine AW.rgR [60] ?_;simp[z4];try (refine hK _ rfl ?_;clear hK K)
      exact⟨by omega,by unfold maxLen;omega,Af.intro fun b hb=>⟨⟨_,_,[b]⟩,hfin _ (t2.push1 b _),rfl,rfl⟩⟩
    rintro⟨X,ov,ob⟩ hs;(repeat refine AW.seq_k fun K hK=>?_);refine AW.rg ?_;simp[-Int.natCast_add,w1];try (refine hK _ rfl ?_;clear hK K)
    exact⟨j+1,⟨X,ov,ob⟩,⟨hj,hs⟩,by omega,by simp⟩
   ·refine AW.exit ?_;try simp
    have:j=w:=by omega
    subst this;exact⟨⟨X,ov,ob⟩,g2,by simp⟩
  rintro⟨X,ov,ob⟩ g2;simp only at g2;simp only;(repeat refine AW.seq_k fun K hK=>?_);refine AW.rg ?_;simp;try (refine hK _ rfl ?_;clear hK K)
  refine Aa.eat hfi ⟨g2.lst.view (M':=Ac.emp) (fun _ _=>rfl),trivial⟩ ?_;simp;try (refine hK _ rfl ?_;clear hK K)
  exact AW.ret (Ae [r1,r2,r3] rfl ⟨.same _,.same _,.same _,trivial⟩ ⟨rfl,rfl⟩)
theorem Xh (n:Int) (es:List RE) (p:List RR) (hb:LbE es) (hp:∀x∈p,x.Lb) (hpl:p.length<2^63):Ai Tryz.prog 36 [.int .i64 n,A8 es,An p] Ac.emp fun v m=>v=U6 n es p∧m=Ac.emp:=by
 have hc:=Q3 n es p hb hp;by_cases hpl:D1 n es p=true;rotate_left
 ·have e1:Hf n es p=.int .i64 1:=by unfold Hf;rw[if_neg hpl]
  have hz:=Tz hpl;rw[e1]at hc;refine Ad Tryz.func36 rfl rfl 68 rfl (Nat.le_of_ble_eq_true rfl) ?_;unfold A8 An at *;(repeat refine AW.seq_k fun K hK=>?_);refine AW.rg ?_;simp[Al];try (refine hK _ rfl ?_;clear hK K)
  (repeat refine AW.seq_k fun K hK=>?_);refine AW.rg ?_;simp;try (refine hK _ rfl ?_;clear hK K)
  refine Aa.val hc ?_;simp;try (refine hK _ rfl ?_;clear hK K)
  (repeat refine AW.seq_k fun K hK=>?_);refine AW.rg ?_;simp;try (refine hK _ rfl ?_;clear hK K)
  refine AW.yes ?_ rfl;(repeat refine AW.seq_k fun K hK=>?_);refine AW.rg ?_;simp;try (refine hK _ rfl ?_;clear hK K)
  exact AW.ret (Ae [An [],.bool false,.int .i64 1] rfl ⟨.nilsl 4,.same _,.same _,trivial⟩ ⟨by rw[hz];rfl,rfl⟩)
 have e1:Hf n es p=.int .i64 0:=by unfold Hf;rw[if_pos hpl]
 rw[e1]at hc;obtain⟨N,rfl,N1,N2,hok,h3,hrow,hpe⟩:=Km hp hpl;have hS:=Qe7 hpl;simp only[Int.toNat_natCast]at hok hS;have heq:=K7 N es (p.map RR.q) N1 N2 hok h3 hrow;generalize p.map RR.q=q at *;subst hpe;unfold eqR at heq;refine Ad Tryz.func36 rfl rfl 68 rfl (Nat.le_of_ble_eq_true rfl) ?_;unfold A8 An at hc;unfold A8 An;(repeat refine AW.seq_k fun K hK=>?_);refine AW.rg ?_;simp[Al];try (refine hK _ rfl ?_;clear hK K)
 (repeat refine AW.seq_k fun K hK=>?_);refine AW.rg ?_;simp;try (refine hK _ rfl ?_;clear hK K)
 refine Aa.val hc ?_;simp;try (refine hK _ rfl ?_;clear hK K)
 (repeat refine AW.seq_k fun K hK=>?_);refine AW.rg ?_;simp;try (refine hK _ rfl ?_;clear hK K)
 refine AW.no ?_ rfl;refine AW.skip ?_;try simp
 try (refine hK _ rfl ?_;clear hK K)
 cases hE:Nc N (Ah es) q es.length with
 |none =>
  rw[hE]at heq hS;simp only at hS;unfold Ap at heq;(repeat refine AW.seq_k fun K hK=>?_);refine AW.rg ?_;simp;try (refine hK _ rfl ?_;clear hK K)
  refine Aa.val heq ?_;simp;try (refine hK _ rfl ?_;clear hK K)
  (repeat refine AW.seq_k fun K hK=>?_);refine AW.rg ?_;simp;try (refine hK _ rfl ?_;clear hK K)
  refine AW.yes ?_ rfl;(repeat refine AW.seq_k fun K hK=>?_);refine AW.rg ?_;simp;try (refine hK _ rfl ?_;clear hK K)
  exact AW.ret (Ae [An [],.bool false,.int .i64 2] rfl ⟨.nilsl 4,.same _,.same _,trivial⟩ ⟨by rw[hS];rfl,rfl⟩)
 |some M =>
  rw[hE]at heq hS;simp only at hS;obtain⟨gl,gg⟩:=Gb hE;have hMl:((Be M).map An).length=es.length:=by simp[Be,gl]
  have hX:Bp es.length (2*N) M:=Qep hE;have hfi:=Ur (Be (Xy M es.length (2*N))) (I7 _);rw[←hS]at hfi;obtain⟨r1,r2,r3,hr⟩:=Zj (N:Nat) es (q.map Aq);rw[hr]at hfi ⊢;have w0:=Au (2*N) (by omega);have hmv:AV.sl 1 ((Be M).map An)=Ap (Be M):=rfl;(repeat refine AW.seq_k fun K hK=>?_);refine AW.rg ?_;simp;try (refine hK _ rfl ?_;clear hK K)
  refine Aa.whole (fun _ h=>h) heq ?_;rintro _ _ ⟨B,rfl,rfl⟩;simp;try (refine hK _ rfl ?_;clear hK K)
  refine AW.toEmp [(0,.int .i64 (N:Nat)),(10,Ap (Be M)),(11,.int .i64 0)] (by simp;rw[←hmv];exact Ci (Ac.set_same _ _ _) rfl hMl) ?_;(repeat refine AW.seq_k fun K hK=>?_);refine AW.rg ?_;simp;try (refine hK _ rfl ?_;clear hK K)
  refine AW.no ?_ rfl;refine AW.skip ?_;try simp
  try (refine hK _ rfl ?_;clear hK K)
  generalize es.length=n at *;generalize hw:2*N=w at *;have hEl:(Be M).length=n:=by rw[A1];exact hX.2.2
  (repeat refine AW.seq_k fun K hK=>?_);refine AW.rg ?_;simp[hw,w0];try (refine hK _ rfl ?_;clear hK K)
  refine⟨by omega,Af.intro fun T hT=>?_⟩;try (refine hK _ rfl ?_;clear hK K)
  have hB0:List.replicate w AV.nil=tB w M n 0:=by simp[tB]
  rw[hB0];refine AW.seq_ex (ι:=Unit) (fun _=>[(12,.osl T 1 0 w)]) (fun _=>Ac.emp.set T ⟨51,1,tB w M n w⟩) (fun _=>True) ?_ ?_
  ·(repeat refine AW.seq_k fun K hK=>?_);refine AW.rg ?_;simp;try (refine hK _ rfl ?_;clear hK K)
   refine AW.block (AW.loopS (ι:=Nat) (fun k=>[(0,.int .i64 (N:Nat)),(10,Ap (Be M)),(12,.osl T 1 0 w),(36,.int .i64 (w:Nat)),(37,.int .i64 (k:Nat))]) (fun k=>Ac.emp.set T ⟨51,1,tB w M n k⟩) (fun k=>k≤w) (fun k=>w-k) 0 (by simp) rfl (by simp) ?_);intro k g1;(repeat refine AW.seq_k fun K hK=>?_);refine AW.rg ?_;simp;try (refine hK _ rfl ?_;clear hK K)
   (repeat refine AW.seq ?_);refine AW.cs (fun hk=>?_) (fun hk=>?_) rfl<;>(try simp at hk)
   ·refine AW.skip ?_;try simp
    try (refine hK _ rfl ?_;clear hK K)
    have w1:=Au (k+1) (by omega);have hbl:(tB w M n k).length=w:=Pr g1;refine AW.seq_ex (ι:=Unit) (fun _=>[(0,.int .i64 (N:Nat)),(10,Ap (Be M)),(12,.osl T 1 0 w),(36,.int .i64 (w:Nat)),(37,.int .i64 (k:Nat))]) (fun _=>Ac.emp.set T ⟨51,1,tB w M n (k+1)⟩) (fun _=>True) ?_ ?_
    ·(repeat refine AW.seq ?_);refine AW.block ?_;(repeat refine AW.seq_k fun K hK=>?_);refine AW.rg ?_;simp;try (refine hK _ rfl ?_;clear hK K)
     (repeat refine AW.seq_k fun K hK=>?_);refine AW.rg ?_;simp[hEl];try (refine hK _ rfl ?_;clear hK K)
     refine AW.block (AW.loopS (ι:=Option Nat × Nat) (fun z=>[(0,.int .i64 (N:Nat)),(10,Ap (Be M)),(12,.osl T 1 0 w),(36,.int .i64 (w:Nat)),(37,.int .i64 (k:Nat)),(13,.int .i64 (k:Nat)),(41,.int .i64 (n:Nat)),(42,.int .i64 (z.2:Nat))]) (fun z=>Yw T w M n k z.1 z.2) (fun z=>z.2≤n∧(z.1=none→z.2=0)∧∀b,z.1=some b→b≠T) (fun z=>n-z.2) (none,0) ⟨by simp,by simp,by simp⟩ (by unfold Yw;rw[Qdd hk]) (by simp) ?_);rintro⟨o,i⟩ ⟨q1,q2,q3⟩;simp only at q1 q2 q3;simp only;have hlk:∀v,((tB w M n k).set k v).length=w:=fun v=>by rw[List.length_set,hbl]
     have hat:∀v,((tB w M n k).set k v)[k]?=some v:=fun v=>Qwp hk v;have hl2:(Bg ((Di M i k).map Aq)).length=i:=by rw[H7,List.length_map];simp[Di]
     (repeat refine AW.seq_k fun K hK=>?_);refine AW.rg ?_;simp;try (refine hK _ rfl ?_;clear hK K)
     (repeat refine AW.seq ?_);refine AW.cs (fun hi=>?_) (fun hi=>?_) rfl<;>(try simp at hi)
     ·refine AW.skip ?_;try simp
      try (refine hK _ rfl ?_;clear hK K)
      have w2:=Au (i+1) (by omega);have hiE:i<(Be M).length:=by rw[hEl];exact hi
      have hli:(Aj (Be M) i).length=w:=by rw[Bq,List.length_map];exact(hX.row hi).2
      have hjl:k<(Aj M i).length:=by rw[(hX.row hi).2];exact hk
      have e1:rr (Aj (Be M) i) k=Aq (B4 M i k):=by rw[Bq,Ew hjl];rfl
      have hst:Bg ((Di M (i+1) k).map Aq)=Bg ((Di M i k).map Aq)++[(Aq (B4 M i k)).av]:=by rw[Uh,List.map_append,List.map_singleton,Qah]
      (repeat refine AW.seq ?_);refine AW.block ?_;(repeat refine AW.seq_k fun K hK=>?_);refine AW.rg ?_;simp;try (refine hK _ rfl ?_;clear hK K)
      cases o with
      |none =>
       have hi0:=q2 rfl;subst hi0;unfold Yw;simp only;refine AW.rdLR [58] [T] [0,1,2,3,4,5,6,7,8,9,10,11,12,13,14,15,16] C6 (by simp) ?_;simp[hlk,hat,hk,hiE,hli,e1];refine⟨by unfold maxLen;omega,Af.intro fun b hb=>?_⟩;have nb:b≠T:=fun h=>by rw[h]at hb;simp at hb
       simp[nb,Ne.symm nb,hlk,hat,hk];(repeat refine AW.seq_k fun K hK=>?_);refine AW.rg ?_;simp[w2];try (refine hK _ rfl ?_;clear hK K)
       refine⟨some b,1,⟨by omega,by simp,fun b' h=>by cases h;exact nb⟩,by omega,?_⟩;refine⟨?_,w2⟩;rw[Qiu nb];simp only;rw[show Di M 1 k=Di M (0+1) k from rfl,hst];rfl
      |some b0 =>
       have hb0:=q3 b0 rfl;unfold Yw;simp only;refine AW.rdLR [58] [T] [0,1,2,3,4,5,6,7,8,9,10,11,12,13,14,15,16] C6 (by simp[hb0,Ne.symm hb0]) ?_;simp[hlk,hat,hk,hiE,hli,e1,hb0,Ne.symm hb0];refine⟨by simpa using hl2.symm,by simp[Di];omega,by simp[Di];unfold maxLen;omega,Af.intro fun b hb=>?_⟩;have nb:b≠T:=fun h=>by rw[h]at hb;simp[Ac.del,Ne.symm hb0]at hb
       simp[nb,Ne.symm nb,hlk,hat,hk];(repeat refine AW.seq_k fun K hK=>?_);refine AW.rg ?_;simp[-Int.natCast_add,w2];try (refine hK _ rfl ?_;clear hK K)
       refine⟨some b,i+1,⟨by omega,by simp,fun b' h=>by cases h;exact nb⟩,by omega,?_⟩;refine⟨?_,rfl⟩;rw[Qhi nb hb0,show(Di M i k).length=i by simp[Di]];simp only;rw[hst];rfl
     ·have hin:i=n:=by omega
      refine AW.turn [(0,.int .i64 (N:Nat)),(10,Ap (Be M)),(12,.osl T 1 0 w),(36,.int .i64 (w:Nat)),(37,.int .i64 (k:Nat))] (Ac.emp.set T ⟨51,1,tB w M n (k+1)⟩) ?_ (by simp) ?_
      ·rw[←Qmq hk];unfold Yw;cases o with
       |none =>
        have hi0:=q2 rfl;refine Q7 (v:=.nil) (Ac.set_same _ _ _) (by omega) ?_ Qjh rfl;rw[←hin,hi0];exact .nilsl 4
       |some b0 =>
        have hb0:=q3 b0 rfl;refine Q7 (v:=.osl b0 4 0 i) (by simp[hb0,Ne.symm hb0]) (by omega) ?_ Qjh rfl;rw[←hin];exact Ci (Ac.set_same _ _ _) (by simp[hb0]) hl2
      refine AW.exit ?_;try simp
    rintro _ _;(repeat refine AW.seq_k fun K hK=>?_);refine AW.rg ?_;simp[-Int.natCast_add,w1];try (refine hK _ rfl ?_;clear hK K)
    exact⟨k+1,by omega,by omega,rfl,rfl⟩
   ·refine AW.exit ?_;try simp
    rw[show k=w by omega]
  rintro _ _;have htm:Ap (Be (Xy M n w))=.sl 1 (tB w M n w):=by
   unfold Ap Xy tB Be;rw[Nat.sub_self,List.map_map,List.map_map,List.replicate_zero,List.append_nil];rfl
  rw[htm]at hfi;(repeat refine AW.seq_k fun K hK=>?_);refine AW.rg ?_;simp;try (refine hK _ rfl ?_;clear hK K)
  refine Aa.eat hfi ⟨Ci (Ac.set_same _ _ _) rfl (Pr (Nat.le_refl w)),trivial⟩ ?_;simp;try (refine hK _ rfl ?_;clear hK K)
  exact AW.ret (Ae [r1,r2,r3] rfl ⟨.same _,.same _,.same _,trivial⟩ ⟨rfl,rfl⟩)
end Go.Av
end
section
namespace Go.Av
open Go.Proofs Go.Lam
theorem Wm {Y:List (List Rat)} {ps:List Nat} {j:Nat} {v:List Rat} (hv:∀q∈v,Bu q) (hq:∀k,k<ps.length→Bu (B4 Y k j)):∀k,k≤ps.length→∀q∈Le Y ps j k v,Bu q
 |0,_=>hv
 |k+1,h=>Jl (Wm hv hq k (by omega)) _ (Uq (hq k h)).2
theorem Qgo {m:List (List RR)} (hm:Sb m):∃n w,n≤64∧w≤64∧Bp n w (K3 m).2:=by
 unfold K3;by_cases h0:(Ei m).1=0
 ·rw[if_neg (by simp[h0])];obtain⟨h5,h4,Y,ps,hred,⟨⟨y1,y2,y3⟩,y4,y5,y6⟩,y7⟩:=Zv hm h0;simp only at y1 y2 y3 y4 y5 y6;rw[hred];simp only;generalize(Aj m 0).length=w at *;refine⟨(F9 Y ps w w).length,w,?_,h5,?_,?_,rfl⟩
  ·unfold F9;rw[List.length_map];exact Nat.le_trans (List.length_filter_le _ _) (by simpa using h5)
  ·intro r hr;unfold F9 at hr;obtain⟨j,hj,rfl⟩:=List.mem_map.1 hr;have hjw:j<w:=by simpa using(List.mem_filter.1 hj).1
   unfold P2;refine Wm (Jl (fun q hq=>?_) _ Yq) (fun k hk=>?_) _ (Nat.le_refl _)
   ·rw[List.eq_of_mem_replicate hq];exact Me
   ·exact y1.at (by rw[y2 k (by omega)];exact hjw)
  ·intro i hi;have:Aj (F9 Y ps w w) i∈F9 Y ps w w:=by rw[Ea hi];exact List.getElem_mem hi
   unfold F9 at this;obtain⟨j,_,e⟩:=List.mem_map.1 this;unfold F9;rw[←e,Lo]
 ·rw[if_pos h0];exact⟨0,0,by omega,by omega,fun r hr=>(by cases hr),fun i hi=>(by cases hi),rfl⟩
theorem Q9 (m:List (List RR)) (hm:Sb m):∃(v:List Rat) (b:Bool) (e:Int),Gw m=.tup [An (v.map Aq),.bool b,.int .i64 e]∧(∀x∈v.map Aq,Pn x)∧(v.map Aq).length<2^40:=by
 obtain⟨n,w,h1,h2,hg⟩:=Qgo hm;have fail:∀e:Int,∃(v:List Rat) (b:Bool) (e':Int),AV.tup [An [],.bool false,.int .i64 e]=.tup [An (v.map Aq),.bool b,.int .i64 e']∧(∀x∈v.map Aq,Pn x)∧(v.map Aq).length<2^40:=fun e=>⟨[],false,e,rfl,by simp,by simp⟩;unfold Gw;split
 ·rename_i v V _ hv
  have hmem:v∈(K3 m).2:=by rw[hv];simp
  refine⟨v,true,0,rfl,fun x hx=>?_,?_⟩
  ·obtain⟨q,hq,rfl⟩:=List.mem_map.1 hx;exact Up (hg.1 v hmem q hq)
  ·have:=hg.2.1 0 (by rw[hv];simp);rw[hv]at this;have e:v.length=w:=this;rw[List.length_map,e];omega
 ·exact fail _
theorem Qg5 (n:Int) (es:List RE) (p:List RR):∃(v:List Rat) (b:Bool) (e:Int),Tx n es p=.tup [An (v.map Aq),.bool b,.int .i64 e]∧(∀x∈v.map Aq,Pn x)∧(v.map Aq).length<2^40:=by
 unfold Tx;split
 ·split
  ·exact Q9 _ (I7 _)
  ·exact⟨[],false,2,rfl,by simp,by simp⟩
 ·exact⟨[],false,1,rfl,by simp,by simp⟩
theorem Qf8 (n:Int) (es:List RE) (p:List RR):∃(v:List Rat) (b:Bool) (e:Int),U6 n es p=.tup [An (v.map Aq),.bool b,.int .i64 e]∧(∀x∈v.map Aq,Pn x)∧(v.map Aq).length<2^40:=by
 unfold U6;split
 ·split
  ·exact Q9 _ (I7 _)
  ·exact⟨[],false,2,rfl,by simp,by simp⟩
 ·exact⟨[],false,1,rfl,by simp,by simp⟩
theorem Z3 (x:RR) (n:Int):Ai Tryz.prog 72 [x.av,.int .i64 n] Ac.emp fun v m=>(∃t,v=.bool t)∧m=Ac.emp:=by
 unfold RR.av;refine Ad Tryz.func72 rfl rfl 19 rfl (Nat.le_of_ble_eq_true rfl) ?_;(repeat refine AW.seq_k fun K hK=>?_);refine AW.rgR [2] ?_;simp[Al];try (refine hK _ rfl ?_;clear hK K)
 by_cases h:(x.l1.length:Int)≤n
 ·(repeat refine AW.seq_k fun K hK=>?_);refine AW.rg ?_;simp[h];try (refine hK _ rfl ?_;clear hK K)
  exact AW.ret (Ag rfl _ (.same _) ⟨⟨_,rfl⟩,rfl⟩)
 ·(repeat refine AW.seq_k fun K hK=>?_);refine AW.rg ?_;simp[h];try (refine hK _ rfl ?_;clear hK K)
  exact AW.ret (Ag rfl _ (.same _) ⟨⟨_,rfl⟩,rfl⟩)
theorem Qdn (p:List RR) (hp:p.length<2^63):Ai Tryz.prog 34 [An p] Ac.emp fun v m=>(∃t,v=.bool t)∧m=Ac.emp:=by
 refine Ad Tryz.func34 rfl rfl 16 rfl (Nat.le_of_ble_eq_true rfl) ?_;unfold An at *;(repeat refine AW.seq_k fun K hK=>?_);refine AW.rg ?_;simp[Al];try (refine hK _ rfl ?_;clear hK K)
 refine AW.seq_ex (ι:=Unit) (fun _=>[]) (fun _=>Ac.emp) (fun _=>True) ?_ ?_
 ·(repeat refine AW.seq_k fun K hK=>?_);refine AW.rg ?_;simp;try (refine hK _ rfl ?_;clear hK K)
  refine AW.block (AW.loopS (ι:=Nat) (fun i=>[(0,.sl 4 (Bg p)),(3,.int .i64 (i:Nat))]) (fun i=>Ac.emp) (fun i=>i≤p.length) (fun i=>p.length-i) 0 (by simp) rfl (by simp) ?_);rintro i g1;(repeat refine AW.seq_k fun K hK=>?_);refine AW.rg ?_;simp;try (refine hK _ rfl ?_;clear hK K)
  (repeat refine AW.seq ?_);refine AW.cs (fun hi=>?_) (fun hi=>?_) rfl<;>(try simp at hi)
  ·refine AW.skip ?_;try simp
   try (refine hK _ rfl ?_;clear hK K)
   have w1:=Au (i+1) (by omega);have hv:=Z3 (rr p i) 1;unfold RR.av at hv;(repeat refine AW.seq ?_);refine AW.block ?_;(repeat refine AW.seq_k fun K hK=>?_);refine AW.rg ?_;simp[hi];try (refine hK _ rfl ?_;clear hK K)
   refine Aa.pure hv ?_;rintro _ ⟨t,rfl⟩;simp;try (refine hK _ rfl ?_;clear hK K)
   cases t with
   |false =>
    refine AW.yes ?_ rfl;(repeat refine AW.seq_k fun K hK=>?_);refine AW.rg ?_;simp;try (refine hK _ rfl ?_;clear hK K)
    exact AW.ret (Ag rfl _ (.same _) ⟨⟨_,rfl⟩,rfl⟩)
   |true =>
    refine AW.no ?_ rfl;refine AW.skip ?_;try simp
    try (refine hK _ rfl ?_;clear hK K)
    (repeat refine AW.seq_k fun K hK=>?_);refine AW.rg ?_;simp[-Int.natCast_add,w1];try (refine hK _ rfl ?_;clear hK K)
    exact⟨by omega,by omega⟩
  ·refine AW.exit ?_;try simp
 ·rintro _ _;(repeat refine AW.seq_k fun K hK=>?_);refine AW.rg ?_;simp;try (refine hK _ rfl ?_;clear hK K)
  exact AW.ret (Ag rfl _ (.same _) ⟨⟨_,rfl⟩,rfl⟩)
theorem S3 (n:Int) (es:List RE) (p:List RR) (hb:LbE es) (hp:(∀x∈p,x.Lb)∧p.length<2^63):Ai Tryz.prog 10 [.int .i64 n,A8 es,An p] Ac.emp fun v m=>v=.bool true∧m=Ac.emp:=by
 have h0:=N5 n es hb;have h1:=O2 n es p hb hp.1 hp.2;have h2:=Xa n es p hb hp.1 hp.2;have h3:=Xh n es p hb hp.1 hp.2;have h4:=W9 n es p hb hp.1 hp.2;have hli:=Qdn p hp.2;have hwk:=Yg;obtain⟨v,b,e,hm,v1,v2⟩:=Qg5 n es p;obtain⟨v',b',e',hs,v1',v2'⟩:=Qf8 n es p;have r1:Ai Tryz.prog 38 [An (v.map Aq),An (v.map Aq)] Ac.emp fun v m=>v=.bool true∧m=Ac.emp:=(Yo _ _ v1 v2).mono fun v m ⟨⟨t,h,ht⟩,h'⟩=>⟨by rw[h,ht.2 rfl],h'⟩;have r2:Ai Tryz.prog 38 [An (v'.map Aq),An (v'.map Aq)] Ac.emp fun v m=>v=.bool true∧m=Ac.emp:=(Yo _ _ v1' v2').mono fun v m ⟨⟨t,h,ht⟩,h'⟩=>⟨by rw[h,ht.2 rfl],h'⟩
 rw[hm]at h1 h2;rw[hs]at h3 h4;unfold Cg at h0;generalize v.map Aq=V at *;generalize v'.map Aq=V' at *;generalize Ds n es=C at *;refine Ad Tryz.func10 rfl rfl 101 rfl (Nat.le_of_ble_eq_true rfl) ?_;unfold A8 An at *;(repeat refine AW.seq_k fun K hK=>?_);refine AW.rg ?_;simp[Al];try (refine hK _ rfl ?_;clear hK K)
 refine AW.seq_k fun K hK=>?_;refine AW.seq_ex (ι:=Bool) (fun T=>[(0,.int .i64 n),(1,.sl 6 (Ff es)),(2,.sl 4 (Bg p)),(36,.bool T)]) (fun _=>Ac.emp) (fun _=>True) ?_ ?_
 ·refine AW.rg ?_;simp;refine Aa.val h0 ?_;cases C with
  |false=>simp
  |true =>
   simp;by_cases h8:8<n
   ·have h8':¬n≤8:=by omega
    simp[h8,h8']
   ·have h8':n≤8:=by omega
    by_cases h16:16<es.length
    ·have h16':¬(es.length:Int)≤16:=by omega
     have h16:(16:Int)<es.length:=by omega
     simp[h8,h8',h16',h16]
    ·have h16':(es.length:Int)≤16:=by omega
     have h16:¬(16:Int)<es.length:=by omega
     simp[h8,h8',h16',h16];refine Aa.pure hli ?_;rintro _ ⟨t,rfl⟩;simp
 rintro T _;cases T with
 |true =>
  refine AW.yes ?_ rfl;(repeat refine AW.seq_k fun K hK=>?_);refine AW.rg ?_;simp;try (refine hK _ rfl ?_;clear hK K)
  refine Aa.val hwk ?_;simp;try (refine hK _ rfl ?_;clear hK K)
  exact AW.ret (Ag rfl _ (.same _) ⟨rfl,rfl⟩)
 |false =>
  refine AW.no ?_ rfl;refine AW.skip ?_;try simp
  try (refine hK _ rfl ?_;clear hK K)
  (repeat refine AW.seq_k fun K hK=>?_);refine AW.rg ?_;simp;try (refine hK _ rfl ?_;clear hK K)
  refine Aa.val h1 ?_;simp;try (refine hK _ rfl ?_;clear hK K)
  (repeat refine AW.seq_k fun K hK=>?_);refine AW.rg ?_;simp;try (refine hK _ rfl ?_;clear hK K)
  refine Aa.val h2 ?_;simp;try (refine hK _ rfl ?_;clear hK K)
  (repeat refine AW.seq_k fun K hK=>?_);refine AW.rg ?_;simp;try (refine hK _ rfl ?_;clear hK K)
  refine Aa.val h3 ?_;simp;try (refine hK _ rfl ?_;clear hK K)
  (repeat refine AW.seq_k fun K hK=>?_);refine AW.rg ?_;simp;try (refine hK _ rfl ?_;clear hK K)
  refine Aa.val h4 ?_;simp;try (refine hK _ rfl ?_;clear hK K)
  (repeat refine AW.seq_k fun K hK=>?_);refine AW.rg ?_;simp;try (refine hK _ rfl ?_;clear hK K)
  refine Aa.val hwk ?_;simp;refine Aa.val r1 ?_;simp;refine Aa.val r2 ?_;simp;try (refine hK _ rfl ?_;clear hK K)
  exact AW.ret (Ag rfl _ (.same _) ⟨rfl,rfl⟩)
end Go.Av
end
section
namespace Go.Av
open Go.Proofs
theorem ty51:Tryz.prog.underlying 51=some (.slice 44):=by kernel_rfl
theorem Qy9:Tryz.prog.underlying 40=some (.slice 124):=by kernel_rfl
theorem Qv6:Tryz.prog.underlying 124=some (.int .u32):=by kernel_rfl
theorem ty4:Tryz.prog.underlying 4=some .bool:=by kernel_rfl
theorem Qyy:Tryz.prog.cellsOf 124=1:=by kernel_rfl
theorem Qpy:Tryz.prog.cellsOf 44=4:=by kernel_rfl
theorem Qpw:Tryz.prog.cellsOf 42=2:=by kernel_rfl
theorem Qy6:Tryz.prog.cellsOf 40=1:=by kernel_rfl
theorem cl4:Tryz.prog.cellsOf 4=1:=by kernel_rfl
noncomputable def Qfp (t:TypeId):Array Field:=match Tryz.prog.underlying t with
 |some (.struct fs)=>fs
 |_=>#[]
noncomputable def Yf (t:TypeId) (i:Nat):Option (TypeId × Nat):=((Qfp t)[i]?).map fun f=>(f.type,f.offset)
theorem Qyu:Tryz.prog.underlying 44=some (.struct (Qfp 44)):=by kernel_rfl
theorem Qy7:Tryz.prog.underlying 42=some (.struct (Qfp 42)):=by kernel_rfl
theorem Qxl:Yf 44 0=some (42,0):=by kernel_rfl
theorem Qw8:Yf 44 1=some (42,2):=by kernel_rfl
theorem Qww:Yf 42 0=some (4,0):=by kernel_rfl
theorem Qxa:Yf 42 1=some (40,1):=by kernel_rfl
theorem J8 {t:TypeId} {i:Nat} {p:TypeId × Nat} (h:Yf t i=some p):∃f:Field,(Qfp t)[i]?=some f∧f.type=p.1∧f.offset=p.2:=by
 unfold Yf at h;cases hf:(Qfp t)[i]? with
 |none=>rw[hf]at h;cases h
 |some f=>rw[hf]at h;cases h;exact⟨f,rfl,rfl,rfl⟩
variable {H:Type} {enc:TypeId × Value→H} {W:World}
theorem X6 {a:Addr} {v:Value} (h:W.cell? a=some v):a.block<W.heap.size:=by
 unfold World.cell? at h;rcases Nat.lt_or_ge a.block W.heap.size with hl | hl
 ·exact hl
 ·rw[Array.getElem?_eq_none hl]at h;simp at h
theorem Ql {l:List Nat} {i j:Nat} {u:AV} (h:A4 (Bl l) i j=some u):j=0∧i<l.length∧u=.int .u32 (nth l i:Nat):=by
 unfold A4 Bl at h;rw[List.getElem?_map]at h;cases hi:l[i]? with
 |none=>rw[hi]at h;cases h
 |some y =>
  rw[hi]at h;have hl:=(List.getElem?_eq_some_iff.1 hi).1;cases j with
  |zero =>
   cases h;refine⟨rfl,hl,?_⟩;unfold nth;rw[List.getD_eq_getElem?_getD,hi];rfl
  |succ k=>cases h
theorem Qkg {fuel:Nat} {c:Value} {x:DataW H × List MemPlace} (h:DataW.trod enc Tryz.prog W 0 (fun _=>true) true fuel 40 [c]=some x):∃l,Lb l∧VR W (fun _=>False) (Ao l) c:=by
 rcases Go.ChangeShapes.open_ints Qy9 Qv6 Qyy h with⟨hc,_⟩|⟨a,len,cap,zs,hc,_,hl,hm,hz,_,hcell,hwf⟩
 ·simp only[List.cons.injEq,and_true]at hc;subst hc;exact⟨[],fun y hy=>(by cases hy),.sl0 1 none 0⟩
 ·simp only[List.cons.injEq,and_true]at hc;subst hc;simp at hz;rcases Nat.eq_zero_or_pos len with h0 | h0
  ·subst h0;exact⟨[],fun y hy=>(by cases hy),.sl0 1 (some a) cap⟩
  ·have h00:=hcell 0 (by omega);have hsp:=World.cell?_spot h00;have hbl:=X6 h00;obtain⟨b,o,sp⟩:=a;simp[Addr.add]at hsp hbl;subst hsp;have hzl:∀i,i<len→0≤zs.getD i 0∧zs.getD i 0≤4294967295:=fun i hi=>by
    have:zs.getD i 0=zs[i]'(by omega):=by rw[List.getD_eq_getElem?_getD,List.getElem?_eq_getElem (by omega)];rfl
    rw[this];exact Go.bounds_u32 (hwf _ (List.getElem_mem _))
   refine⟨(List.range len).map fun i=>(zs.getD i 0).toNat,fun y hy=>?_,?_⟩
   ·obtain⟨i,hi,rfl⟩:=List.mem_map.1 hy;have:=hzl i (List.mem_range.1 hi);omega
   ·have e:((List.range len).map fun i=>(zs.getD i 0).toNat).length=len:=by simp
    have:=VR.sl (w:=W) (F:=fun _=>False) 1 (Bl ((List.range len).map fun i=>(zs.getD i 0).toNat)) b o cap (fun i _=>.int .u32 (zs.getD i 0)) (by simp) hbl (by simp;exact hl) (by
     intro v hv;obtain⟨y,_,rfl⟩:=List.mem_map.1 hv;rfl) ?_ ?_
    ·rw[Lu,e]at this;exact this
    ·intro i j u hu;obtain⟨rfl,q1,rfl⟩:=Ql hu;rw[e]at q1;have:=hzl i q1;have hn:nth ((List.range len).map fun i=>(zs.getD i 0).toNat) i=(zs.getD i 0).toNat:=by
      unfold nth;rw[List.getD_eq_getElem?_getD,List.getElem?_map,List.getElem?_range q1];rfl
     rw[hn,Int.toNat_of_nonneg this.1];exact .int _ _
    ·intro i j u hu;obtain⟨rfl,q1,rfl⟩:=Ql hu;rw[e]at q1;have:=hcell i (by omega);rcases Nat.eq_zero_or_pos i with h' | h'
     ·subst h';simpa[Addr.add]using this
     ·have h'':i≠0:=by omega
      simpa[Addr.add,h'']using this
set_option maxRecDepth 100000
theorem Qba {fuel:Nat} {cs:List Value} {x:DataW H × List MemPlace} (h:DataW.trod enc Tryz.prog W 0 (fun _=>true) true fuel 42 cs=some x):∃n l c,cs=[.bool n,c]∧Lb l∧VR W (fun _=>False) (Ao l) c:=by
 obtain⟨xs,n,_,rfl,hl,hlen,hf⟩:=DataW.trod_struct Qy7 h;rw[Qpw]at hl;obtain⟨c0,c1,rfl⟩:∃c0 c1,cs=[c0,c1]:=by
  match cs,hl with
  |[c0,c1],_=>exact⟨c0,c1,rfl⟩
 obtain⟨f0,g1,g2,g3⟩:=J8 Qww;obtain⟨f1,k1,k2,k3⟩:=J8 Qxa;have h0:=hf 0 f0 g1;have h1:=hf 1 f1 k1;simp only at g2 g3 k2 k3;rw[g2,g3,cl4]at h0;rw[k2,k3,Qy6]at h1;have hs:xs.length=2:=by rw[hlen];kernel_rfl
 obtain⟨b,hb,_⟩:=DataW.trod_bool ty4 (h0.trans (List.getElem?_eq_getElem (by omega)));obtain⟨l,hl1,hl2⟩:=Qkg (h1.trans (List.getElem?_eq_getElem (by omega)));simp at hb;exact⟨b,l,c1,by rw[hb],hl1,hl2⟩
theorem Qat {fuel:Nat} {cs:List Value} {x:DataW H × List MemPlace} (h:DataW.trod enc Tryz.prog W 0 (fun _=>true) true fuel 44 cs=some x):∃r:RR,r.Lb∧cs.length=4∧∀(j:Nat) (u:AV),r.av.cells[j]?=some u→∃c,cs[j]?=some c∧VR W (fun _=>False) u c:=by
 obtain⟨xs,n,_,rfl,hl,hlen,hf⟩:=DataW.trod_struct Qyu h;rw[Qpy]at hl;obtain⟨c0,c1,c2,c3,rfl⟩:∃c0 c1 c2 c3,cs=[c0,c1,c2,c3]:=by
  match cs,hl with
  |[c0,c1,c2,c3],_=>exact⟨c0,c1,c2,c3,rfl⟩
 obtain⟨f0,g1,g2,g3⟩:=J8 Qxl;obtain⟨f1,k1,k2,k3⟩:=J8 Qw8;have h0:=hf 0 f0 g1;have h1:=hf 1 f1 k1;simp only at g2 g3 k2 k3;rw[g2,g3,Qpw]at h0;rw[k2,k3,Qpw]at h1;have hs:xs.length=2:=by rw[hlen];kernel_rfl
 obtain⟨n1,l1,d1,e1,b1,v1⟩:=Qba (h0.trans (List.getElem?_eq_getElem (by omega)));obtain⟨n2,l2,d2,e2,b2,v2⟩:=Qba (h1.trans (List.getElem?_eq_getElem (by omega)));simp at e1 e2;obtain⟨rfl,rfl⟩:=e1;obtain⟨rfl,rfl⟩:=e2;refine⟨⟨n1,l1,n2,l2⟩,⟨b1,b2⟩,rfl,fun j u hu=>?_⟩
 match j,hu with
 |0,hu=>cases hu;exact⟨_,rfl,.bool _⟩
 |1,hu=>cases hu;exact⟨_,rfl,v1⟩
 |2,hu=>cases hu;exact⟨_,rfl,.bool _⟩
 |3,hu=>cases hu;exact⟨_,rfl,v2⟩
 |k+4,hu=>cases hu
end Go.Av
end
section
namespace Go.Av
open Go.Proofs
variable {H:Type} {enc:TypeId × Value→H} {W:World}
theorem Kq {α:Type} [Inhabited α] {n:Nat} {p:Nat→α→Prop} (h:∀i,i<n→∃a,p i a):∃f:Nat→α,∀i,i<n→p i (f i):=by
 classical
 exact⟨fun i=>if hi:i<n then Classical.choose (h i hi) else default,fun i hi=>by
  simp only[dif_pos hi];exact Classical.choose_spec (h i hi)⟩
theorem Wv (b o i j:Nat):((⟨b,o,none⟩:Addr).add i).add j=⟨b,o+(i+j),none⟩:=by
 by_cases hi:i=0
 ·subst hi;by_cases hj:j=0
  ·subst hj;simp[Addr.add]
  ·simp[Addr.add,hj]
 ·by_cases hj:j=0
  ·subst hj;simp[Addr.add,hi]
  ·simp[Addr.add,hi,hj,Nat.add_assoc]
theorem Qi4 {fuel:Nat} {c:Value} {x:DataW H × List MemPlace} (h:DataW.trod enc Tryz.prog W 0 (fun _=>true) true fuel 51 [c]=some x):∃r:List RR,(∀y∈r,y.Lb)∧VR W (fun _=>False) (An r) c:=by
 rcases Go.Deep.open_slice ty51 h with⟨hc,_⟩|⟨a,len,cap,m,n,D,Pl,hc,_,hl,hm,hmm,_,hx⟩
 ·simp only[List.cons.injEq,and_true]at hc;subst hc;exact⟨[],fun y hy=>(by cases hy),.sl0 4 none 0⟩
 ·simp only[List.cons.injEq,and_true]at hc;subst hc;simp at hmm;subst hmm;rcases Nat.eq_zero_or_pos len with h0 | h0
  ·subst h0;exact⟨[],fun y hy=>(by cases hy),.sl0 4 (some a) m⟩
  ·rw[Qpy]at hx;obtain⟨C,hC⟩:=Kq (α:=List Value) (p:=fun i cs=>W.cells? 0 (a.add (i*4)) 4=some cs∧DataW.trod enc Tryz.prog W 0 (fun _=>true) true n 44 cs=some (D i,Pl i)) (n:=len) (fun i hi=>hx i (by omega));obtain⟨R,hR⟩:=Kq (α:=RR) (n:=len) (fun i hi=>Qat (hC i hi).2);have hcell:∀i,i<len→∀j,j<4→W.cell? ((a.add (i*4)).add j)=(C i)[j]?:=fun i hi=>(World.cells?_some (hC i hi).1).2.2;obtain⟨c00,hc00,_⟩:=(hR 0 h0).2.2 0 (.bool (R 0).n1) rfl;have h00:=(hcell 0 h0 0 (by omega)).trans hc00;have hsp:=World.cell?_spot h00
   have hbl:=X6 h00;obtain⟨b,o,sp⟩:=a;simp[Addr.add]at hsp hbl;subst hsp;have hcellAt:∀i j u,A4 (Bg ((List.range len).map R)) i j=some u→i<len∧(R i).av.cells[j]?=some u:=by
    intro i j u hu;unfold A4 Bg at hu;rw[List.map_map,List.getElem?_map]at hu;by_cases hi:i<len
    ·rw[List.getElem?_range hi]at hu;exact⟨hi,hu⟩
    ·rw[List.getElem?_eq_none (by simp;omega)]at hu;cases hu
   refine⟨(List.range len).map R,fun y hy=>?_,?_⟩
   ·obtain⟨i,hi,rfl⟩:=List.mem_map.1 hy;exact(hR i (List.mem_range.1 hi)).1
   ·have:=VR.sl (w:=W) (F:=fun _=>False) 4 (Bg ((List.range len).map R)) b o m (fun i j=>((C i)[j]?).getD (.bool false)) (by simp) hbl (by simp;exact hl) (by
     intro v hv;obtain⟨y,_,rfl⟩:=List.mem_map.1 hv;rfl) (fun i j u hu=>by
      obtain⟨hi,hu⟩:=hcellAt i j u hu;obtain⟨c,q1,q2⟩:=(hR i hi).2.2 j u hu;rw[q1];exact q2) (fun i j u hu=>by
      obtain⟨hi,hu⟩:=hcellAt i j u hu;obtain⟨c,q1,q2⟩:=(hR i hi).2.2 j u hu;have hj:j<4:=by
       have:=(List.getElem?_eq_some_iff.1 q1).1;rw[(hR i hi).2.1]at this;exact this
      have:=hcell i hi j hj;rw[Wv,q1]at this;rw[this,q1];rfl)
    rw[H7,List.length_map,List.length_range]at this;exact this
end Go.Av
end
section
namespace Go.Av
open Go.Proofs
theorem ty22:Tryz.prog.underlying 22=some (.slice 46):=by kernel_rfl
theorem ty3:Tryz.prog.underlying 3=some (.int .i64):=by kernel_rfl
theorem Qy8:Tryz.prog.underlying 46=some (.struct (Qfp 46)):=by kernel_rfl
theorem Qv1:Tryz.prog.cellsOf 46=6:=by kernel_rfl
theorem cl3:Tryz.prog.cellsOf 3=1:=by kernel_rfl
theorem Qw9:Yf 46 0=some (3,0):=by kernel_rfl
theorem Qxt:Yf 46 1=some (3,1):=by kernel_rfl
theorem Qw2:Yf 46 2=some (44,2):=by kernel_rfl
variable {H:Type} {enc:TypeId × Value→H} {W:World}
set_option maxRecDepth 100000
theorem Yk {fuel:Nat} {c:Value} {x:DataW H × List MemPlace} (h:DataW.trod enc Tryz.prog W 0 (fun _=>true) true fuel 3 [c]=some x):∃n:Int,c=.int .i64 n∧-9223372036854775808≤n∧n<9223372036854775808:=by
 obtain⟨n,h1,_,h2⟩:=DataW.trod_int ty3 h;have:=bounds_i64 h2;simp at h1;exact⟨n,h1,this.1,by omega⟩
theorem Qf2 {fuel:Nat} {cs:List Value} {x:DataW H × List MemPlace} (h:DataW.trod enc Tryz.prog W 0 (fun _=>true) true fuel 46 cs=some x):∃e:RE,e.sq.Lb∧cs.length=6∧∀(j:Nat) (u:AV),e.av.cells[j]?=some u→∃c,cs[j]?=some c∧VR W (fun _=>False) u c:=by
 obtain⟨xs,n,_,rfl,hl,hlen,hf⟩:=DataW.trod_struct Qy8 h;rw[Qv1]at hl;obtain⟨c0,c1,c2,c3,c4,c5,rfl⟩:∃c0 c1 c2 c3 c4 c5,cs=[c0,c1,c2,c3,c4,c5]:=by
  match cs,hl with
  |[c0,c1,c2,c3,c4,c5],_=>exact⟨c0,c1,c2,c3,c4,c5,rfl⟩
 obtain⟨f0,g1,g2,g3⟩:=J8 Qw9;obtain⟨f1,k1,k2,k3⟩:=J8 Qxt;obtain⟨f2,l1,l2,l3⟩:=J8 Qw2;have h0:=hf 0 f0 g1;have h1:=hf 1 f1 k1;have h2:=hf 2 f2 l1;simp only at g2 g3 k2 k3 l2 l3;rw[g2,g3,cl3]at h0;rw[k2,k3,cl3]at h1;rw[l2,l3,Qpy]at h2;have hs:xs.length=3:=by rw[hlen];kernel_rfl
 obtain⟨a,e0,_⟩:=Yk (h0.trans (List.getElem?_eq_getElem (by omega)));obtain⟨b,e1,_⟩:=Yk (h1.trans (List.getElem?_eq_getElem (by omega)));obtain⟨r,q1,_,q3⟩:=Qat (h2.trans (List.getElem?_eq_getElem (by omega)));subst e0 e1;refine⟨⟨a,b,r⟩,q1,rfl,fun j u hu=>?_⟩
 match j,hu with
 |0,hu=>cases hu;exact⟨_,rfl,.int _ _⟩
 |1,hu=>cases hu;exact⟨_,rfl,.int _ _⟩
 |2,hu=>exact q3 0 u hu
 |3,hu=>exact q3 1 u hu
 |4,hu=>exact q3 2 u hu
 |5,hu=>exact q3 3 u hu
 |k+6,hu=>cases hu
theorem Tt {fuel:Nat} {c:Value} {x:DataW H × List MemPlace} (h:DataW.trod enc Tryz.prog W 0 (fun _=>true) true fuel 22 [c]=some x):∃es:List RE,LbE es∧VR W (fun _=>False) (A8 es) c:=by
 rcases Go.Deep.open_slice ty22 h with⟨hc,_⟩|⟨a,len,cap,m,n,D,Pl,hc,_,hl,hm,hmm,_,hx⟩
 ·simp only[List.cons.injEq,and_true]at hc;subst hc;exact⟨[],fun y hy=>(by cases hy),.sl0 6 none 0⟩
 ·simp only[List.cons.injEq,and_true]at hc;subst hc;simp at hmm;subst hmm;rcases Nat.eq_zero_or_pos len with h0 | h0
  ·subst h0;exact⟨[],fun y hy=>(by cases hy),.sl0 6 (some a) m⟩
  ·rw[Qv1]at hx;obtain⟨C,hC⟩:=Kq (α:=List Value) (p:=fun i cs=>W.cells? 0 (a.add (i*6)) 6=some cs∧DataW.trod enc Tryz.prog W 0 (fun _=>true) true n 46 cs=some (D i,Pl i)) (n:=len) (fun i hi=>hx i (by omega));obtain⟨R,hR⟩:=Kq (α:=RE) (n:=len) (fun i hi=>Qf2 (hC i hi).2);have hcell:∀i,i<len→∀j,j<6→W.cell? ((a.add (i*6)).add j)=(C i)[j]?:=fun i hi=>(World.cells?_some (hC i hi).1).2.2;obtain⟨c00,hc00,_⟩:=(hR 0 h0).2.2 0 (.int .i64 (R 0).a) rfl;have h00:=(hcell 0 h0 0 (by omega)).trans hc00;have hsp:=World.cell?_spot h00
   have hbl:=X6 h00;obtain⟨b,o,sp⟩:=a;simp[Addr.add]at hsp hbl;subst hsp;have hcellAt:∀i j u,A4 (Ff ((List.range len).map R)) i j=some u→i<len∧(R i).av.cells[j]?=some u:=by
    intro i j u hu;unfold A4 Ff at hu;rw[List.map_map,List.getElem?_map]at hu;by_cases hi:i<len
    ·rw[List.getElem?_range hi]at hu;exact⟨hi,hu⟩
    ·rw[List.getElem?_eq_none (by simp;omega)]at hu;cases hu
   refine⟨(List.range len).map R,fun y hy=>?_,?_⟩
   ·obtain⟨i,hi,rfl⟩:=List.mem_map.1 hy;exact(hR i (List.mem_range.1 hi)).1
   ·have:=VR.sl (w:=W) (F:=fun _=>False) 6 (Ff ((List.range len).map R)) b o m (fun i j=>((C i)[j]?).getD (.bool false)) (by simp) hbl (by simp;exact hl) (by
     intro v hv;obtain⟨y,_,rfl⟩:=List.mem_map.1 hv;rfl) (fun i j u hu=>by
      obtain⟨hi,hu⟩:=hcellAt i j u hu;obtain⟨c,q1,q2⟩:=(hR i hi).2.2 j u hu;rw[q1];exact q2) (fun i j u hu=>by
      obtain⟨hi,hu⟩:=hcellAt i j u hu;obtain⟨c,q1,q2⟩:=(hR i hi).2.2 j u hu;have hj:j<6:=by
       have:=(List.getElem?_eq_some_iff.1 q1).1;rw[(hR i hi).2.1]at this;exact this
      have:=hcell i hi j hj;rw[Wv,q1]at this;rw[this,q1];rfl)
    rw[Qcy,List.length_map,List.length_range]at this;exact this
theorem Vz {fuel:Nat} {c:Value} {x:DataW H × List MemPlace} (h:DataW.trod enc Tryz.prog W 0 (fun _=>true) true fuel 51 [c]=some x):∃r:List RR,((∀y∈r,y.Lb)∧r.length<2^63)∧VR W (fun _=>False) (An r) c:=by
 obtain⟨r,h1,h2⟩:=Qi4 h;refine⟨r,⟨h1,?_⟩,h2⟩;have hmax:maxLen<2^63:=by unfold maxLen;omega
 have hlen:∀(A:Option Addr) (len cap:Nat),c=.slice A len cap→len≤maxLen→r.length<2^63:=fun A len cap hc hl=>by
  subst hc;unfold An at h2;generalize hr:Bg r=R at h2;have hrl:r.length=R.length:=by rw[←hr,H7]
  rw[hrl];cases h2 with
  |sl0=>simp
  |sl=>omega
 rcases Go.Deep.open_slice ty51 h with⟨hc,_⟩|⟨a,len,cap,m,n,D,Pl,hc,_,hl,hm,_⟩
 ·simp only[List.cons.injEq,and_true]at hc;exact hlen _ _ _ hc (by omega)
 ·simp only[List.cons.injEq,and_true]at hc;exact hlen _ _ _ hc (by omega)
def vrl (W:World):List AV→List Value→Prop
 |[],[]=>True
 |x::xs,c::cs=>VR W (fun _=>False) x c∧vrl W xs cs
 |_,_=>False
theorem Qe4:∀{xs:List AV} {cs:List Value},vrl W xs cs→cs.length=xs.length∧∀(j:Nat) u v,xs[j]?=some u→cs[j]?=some v→VR W (fun _=>False) u v
 |[],[],_=>⟨rfl,fun j u v h=>by cases h⟩
 |x::xs,c::cs,h=>by
  obtain⟨h1,h2⟩:=Qe4 h.2;refine⟨by simp[h1],fun j u v hu hv=>?_⟩
  match j,hu,hv with
  |0,hu,hv=>cases hu;cases hv;exact h.1
  |k+1,hu,hv=>exact h2 k u v hu hv
 |[],_::_,h=>h.elim
 |_::_,[],h=>h.elim
theorem Wi {f:FuncId} {xs:List AV} (hf:Ai Tryz.prog f xs Ac.emp fun v mm=>v=.bool true∧mm=Ac.emp) {cs:List Value} (hx:vrl W xs cs) :
  Calls Tryz.prog f cs.toArray W fun e W'=>e=.returned (.bool true)∧RowKit.Below W.heap.size W W':=by
 have hO:Cy (fun _=>False) Ac.emp=fun _=>False:=by funext b;simp[Cy,Ac.emp]
 obtain⟨h1,h2⟩:=Qe4 hx;refine(hf.2 W (fun _=>False) cs.toArray (fun b hb=>hb.elim) (fun b x hx=>by cases hx) ?_).mono ?_
 ·rw[hO];exact⟨by simpa using h1,fun j u v hu hv'=>h2 j u v hu (by simpa using hv')⟩
 ·rintro e W' ⟨v,cv,g',rfl,⟨rfl,_⟩,_,hvr,hg,_⟩;cases hvr;exact⟨rfl,⟨hg.os,hg.tape,hg.output,hg.size,fun k hk=>hg.block k hk (by simp[Ac.emp])⟩⟩
end Go.Av
end
