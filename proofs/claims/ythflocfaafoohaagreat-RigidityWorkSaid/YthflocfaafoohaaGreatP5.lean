/- A part of the proof. -/
import Derived.Test.YthflocfaafoohaaGreatP4
import Derived.ProofKit
import Derived.OpenShut
import Derived.Deep.Slices
set_option linter.all false
set_option exponentiation.threshold 5000
set_option maxRecDepth 10000
section
namespace Go.Av
open Go.Proofs Go.Lam
structure Jj (n bg bf bc:Nat) (es:List RE) (A:List Nat) (X:Ac) (z:GSt):Prop where
 game:Dv z.M n bg bf bc es z.fl z.bs z.cl
 inv:Inv n (Ag es) A (E2 z.fl) (Dw z.cl)
 ext:∀k x,X k=some x→z.M k=some x
 off:∀k,X k≠none→k ∉ Bh bg bf bc z.bs
 only:∀k,z.M k≠none→X k≠none∨k∈Bh bg bf bc z.bs
section
variable {n bg bf bc:Nat} {es:List RE} {A:List Nat} {X M g':Ac} {fl fl':List Nat} {bs bs':List (Option Nat)} {cl cl':List (List Nat)}
theorem Jj.of (h:J8 n bg bf bc es A M fl bs cl):Jj n bg bf bc es A Ac.emp ⟨M,fl,bs,cl⟩ :=
 ⟨h.mem,h.inv,fun k x hx=>(by cases hx),fun k hk=>absurd rfl hk,fun k hk=>.inr (h.only k hk)⟩
theorem Jj.gam (h:Jj n bg bf bc es A X ⟨M,fl,bs,cl⟩):J8 n bg bf bc es A (M.only (Bh bg bf bc bs)) fl bs cl :=
 ⟨h.game.congr fun k hk=>Ce hk,fun k hk=>by
  rcases Decidable.em (k∈Bh bg bf bc bs)with hm|hm
  ·exact hm
  ·exact absurd (B7 hm) hk,h.inv⟩
theorem Jj.back (h:Jj n bg bf bc es A X ⟨M,fl,bs,cl⟩) (hG':J8 n bg bf bc es A g' fl' bs' cl') (hnew:∀b,g' b≠none→b∈Bh bg bf bc bs∨M b=none):Jj n bg bf bc es A X ⟨M.back (Bh bg bf bc bs) g',fl',bs',cl'⟩:=by
 have hN:∀k,X k≠none→k ∉ Bh bg bf bc bs':=fun k hk hm=>by
  rcases hnew k (hG'.mem.dom hm)with h'|h'
  ·exact h.off k hk h'
  ·cases hx:X k with
   |none=>exact hk hx
   |some x=>have:=h.ext k x hx;simp only at this;rw[h']at this;cases this
 refine⟨hG'.mem.congr fun k hk=>?_,hG'.inv,fun k x hx=>?_,hN,fun k hk=>?_⟩
 ·simp only[Ac.back];cases h:g' k with
  |some x=>rfl
  |none=>exact absurd h (hG'.mem.dom hk)
 ·have h1:g' k=none:=by
   cases h':g' k with
   |none=>rfl
   |some y=>exact absurd (hG'.only k (by rw[h'];simp)) (hN k (by rw[hx];simp))
  simp only[Ac.back];rw[h1];simp only;rw[if_neg (h.off k (by rw[hx];simp))];exact h.ext k x hx
 ·simp only[Ac.back]at hk;cases h':g' k with
  |some x=>exact .inr (hG'.only k (by rw[h'];simp))
  |none =>
   rw[h']at hk;simp only at hk;by_cases hm:k∈Bh bg bf bc bs
   ·rw[if_pos hm]at hk;exact absurd rfl hk
   ·rw[if_neg hm]at hk;exact .inl ((h.only k hk).resolve_right hm)
theorem Jj.set (h:Jj n bg bf bc es A X ⟨M,fl,bs,cl⟩) {b:Nat} (y:Fb) (hb:X b≠none∨M b=none):Jj n bg bf bc es A (X.set b y) ⟨M.set b y,fl,bs,cl⟩:=by
 have hbg:b ∉ Bh bg bf bc bs:=fun hm=>by
  rcases hb with hb|hb
  ·exact h.off b hb hm
  ·exact h.game.dom hm hb
 refine⟨h.game.congr fun k hk=>Ac.set_other _ _ (fun e=>hbg (e ▸ hk)),h.inv,fun k x hx=>?_,fun k hk=>?_,fun k hk=>?_⟩
 ·by_cases e:k=b
  ·subst e;simp only;rw[Ac.set_same]at hx ⊢;exact hx
  ·simp only;rw[Ac.set_other _ _ e]at hx ⊢;exact h.ext k x hx
 ·by_cases e:k=b
  ·rw[e];exact hbg
  ·rw[Ac.set_other _ _ e]at hk;exact h.off k hk
 ·by_cases e:k=b
  ·rw[e,Ac.set_same];simp
  ·simp only at hk;rw[Ac.set_other _ _ e]at hk ⊢;exact h.only k hk
theorem Jj.del (h:Jj n bg bf bc es A X ⟨M,fl,bs,cl⟩) {b:Nat} (hb:X b≠none):Jj n bg bf bc es A (X.del b) ⟨M.del b,fl,bs,cl⟩:=by
 have hbg:b ∉ Bh bg bf bc bs:=h.off b hb;refine⟨h.game.congr fun k hk=>Ac.del_other _ (fun e=>hbg (e ▸ hk)),h.inv,fun k x hx=>?_,fun k hk=>?_,fun k hk=>?_⟩
 ·by_cases e:k=b
  ·subst e;rw[Ac.del_same]at hx;cases hx
  ·simp only;rw[Ac.del_other _ e]at hx ⊢;exact h.ext k x hx
 ·by_cases e:k=b
  ·rw[e];exact hbg
  ·rw[Ac.del_other _ e]at hk;exact h.off k hk
 ·by_cases e:k=b
  ·rw[e]at hk;simp only at hk;rw[Ac.del_same]at hk;exact absurd rfl hk
  ·simp only at hk;rw[Ac.del_other _ e]at hk ⊢;exact h.only k hk
theorem Jj.ones (h:Jj n bg bf bc es A X ⟨M,fl,bs,cl⟩) (hX:∀c y,X c=some y→∀v∈y.l,v.cells.all AV.one=true):∀c y,M c=some y→∀v∈y.l,v.cells.all AV.one=true:=by
 intro c y hy v hv;rcases h.only c (by simp only;rw[hy];simp)with hc | hc
 ·cases hx:X c with
  |none=>exact absurd hx hc
  |some x =>
   have:=h.ext c x hx;simp only at this;rw[hy]at this;cases this;exact hX c y hx v hv
 ·rcases Bl.1 hc with rfl|rfl|rfl|⟨i,hi⟩
  ·have:=h.game.g;simp only at this;rw[this]at hy;cases hy;simp only[C8,List.mem_singleton]at hv;subst hv;rfl
  ·have:=h.game.f;simp only at this;rw[this]at hy;cases hy;exact C7 _ v hv
  ·have:=h.game.c;simp only at this;rw[this]at hy;cases hy;exact Ks _ _ v hv
  ·have:=h.game.row i c hi;simp only at this;rw[this]at hy;cases hy;exact C7 _ v hv
end
def llR (o:Option Nat) (W:List (List Nat)):AV:=match o with
 |none=>.nil
 |some b=>.osl b 1 0 W.length
def T1 (b0:Nat) (al:List Bool) (o:Option Nat) (W:List (List Nat)):Ac:=match o with
 |none=>Ac.emp.set b0 ⟨72,12,[.agg (bools al)]⟩
 |some b=>(Ac.emp.set b0 ⟨72,12,[.agg (bools al)]⟩).set b ⟨25,1,G3 W⟩
theorem Qlm {b0:Nat} {al:List Bool} {o:Option Nat} {W:List (List Nat)}:∀c y,T1 b0 al o W c=some y→∀v∈y.l,v.cells.all AV.one=true:=by
 have h1:∀c y,(Ac.emp.set b0 ⟨72,12,[.agg (bools al)]⟩) c=some y→∀v∈y.l,v.cells.all AV.one=true:=by
  intro c y hy v hv;simp only[A9,Az]at hy;split at hy
  ·cases hy;simp only[List.mem_singleton]at hv;subst hv;unfold bools AV.cells;simp only[List.all_map,List.all_eq_true];intro x _;rfl
  ·cases hy
 intro c y hy;cases o with
 |none=>exact h1 c y hy
 |some b =>
  unfold T1 at hy;simp only[A9 (m:=Ac.set _ _ _)]at hy;by_cases e:c=b
  ·rw[if_pos e]at hy;cases hy;exact Ub _
  ·rw[if_neg e]at hy;exact h1 c y hy
def D1 (n:Nat) (L:List Ed):List Bool:=(List.range 12).map fun j=>decide (j<n)&&Cc L j
@[simp] theorem Xr (n:Nat) (L:List Ed):(D1 n L).length=12:=by simp[D1]
theorem O1 (n:Nat) (L:List Ed) {j:Nat} (h:j<(D1 n L).length):(D1 n L)[j]=(decide (j<n)&&Cc L j):=by simp[D1]
theorem Qb9 (n:Nat) (L:List Ed) (a b:Nat):((D1 n L).set a false).set b false=D1 n (L++[(a,b)]):=by
 refine List.ext_getElem (by simp) fun j h1 h2=>?_;rw[List.getElem_set,List.getElem_set,O1,O1];have:Cc (L++[(a,b)]) j=(Cc L j&&!(a==j || b==j)):=by simp[Cc]
 rw[this];by_cases e1:b=j
 ·simp[e1]
 ·by_cases e2:a=j
  ·simp[e2]
  ·have f1:(a==j)=false:=by simpa using e2
   have f2:(b==j)=false:=by simpa using e1
   rw[if_neg e1,if_neg e2,f1,f2];simp
def Jx (j:Nat):List Bool:=(List.range 12).map fun k=>decide (k<j)
theorem Jk {l:List Bool} {j:Nat} (v:Bool) (h:j<12) (hl:l.length=12):Cd 12 1 (.agg (bools l)) (.bool v) j=.agg (bools (l.set j v)):=by
 unfold Cd;rw[if_neg (by omega)];show AV.agg ((bools l).take j++[.bool v]++(bools l).drop (j+1))=_
 rw[←Gj,List.set_eq_take_append_cons_drop,if_pos (by simp[hl];exact h)];simp
@[simp] theorem Qpr (j:Nat):(Jx j).length=12:=by simp[Jx]
theorem Qj6 {j:Nat} (h:j<12):(Jx j).set j true=Jx (j+1):=by
 refine List.ext_getElem (by simp) fun k h1 h2=>?_;rw[List.getElem_set];have g1:∀(i:Nat) (h:k<(Jx i).length),(Jx i)[k]=decide (k<i):=fun i h=>by simp[Jx]
 rw[g1,g1];by_cases e:j=k
 ·simp[e]
 ·rw[if_neg e];refine decide_eq_decide.2 ⟨fun h=>by omega,fun h=>?_⟩;rcases Nat.lt_or_ge k j with h' | h'
  ·exact h'
  ·exact absurd (by omega) e
theorem Qjo (n:Nat):Jx n=D1 n []:=by unfold Jx D1 Cc;simp
def Vv (n:Int) (es:List RE):List (List Nat):=if Di n es=true then Tk n.toNat ((Ip n es).map (Ag es)) else []
def fC (n:Nat) (L:List Ed) (i:Nat):List (List Nat):=(L.take i).foldl (fun o e=>O5 o (H4 n L e)) []
theorem Qi8 (n:Nat) (L:List Ed) (e:Ed):(H4 n L e).length≤n:=by
 have:=List.length_filter_le (H7 n L e) (List.range n);simpa[H4]using this
theorem Qmk (n:Nat) (L:List Ed) (i:Nat):∀x∈fC n L i,x.length≤n:=fun x hx=>by
 rcases((Lp (H4 n L) (L.take i) [] (by simp)).2 x).1 hx with h|h
 ·cases h
 ·obtain⟨e,_,rfl⟩:=List.mem_map.1 h;exact Qi8 n L e
theorem Qb3 (f:Ed→List Nat):∀(s:List Ed) (o:List (List Nat)),(s.foldl (fun o e=>O5 o (f e)) o).length≤o.length+s.length
 |[],o=>by simp
 |a::s,o=>by
  have h1:=Qb3 f s (O5 o (f a));have h2:(O5 o (f a)).length≤o.length+1:=by unfold O5;split<;>simp
  simp only[List.foldl_cons,List.length_cons];omega
theorem Qlo (n:Nat) (L:List Ed) (i:Nat):(fC n L i).length≤i:=by
 have h1:=Qb3 (H4 n L) (L.take i) [];unfold fC;simp at h1;omega
theorem Qhk {b0:Nat} {al al':List Bool} {o:Option Nat} {W:List (List Nat)} (h:∀b,o=some b→b≠b0):(T1 b0 al o W).set b0 ⟨72,12,[.agg (bools al')]⟩=T1 b0 al' o W:=by
 cases o with
 |none=>funext c;simp only[T1,A9];split<;>rfl
 |some b =>
  have:=h b rfl
  funext c
  simp only[T1,A9];by_cases e:c=b0
  ·rw[if_pos e,if_neg (fun e'=>this (e'.symm.trans e)),if_pos e]
  ·rw[if_neg e,if_neg e,if_neg e]
theorem Y1 {b0 b:Nat} {al:List Bool} {W:List (List Nat)}:(T1 b0 al none []).set b ⟨25,1,G3 W⟩=T1 b0 al (some b) W:=rfl
theorem Yq {b0 b b':Nat} {al:List Bool} {W W':List (List Nat)} (h:b≠b0):((T1 b0 al (some b) W).del b).set b' ⟨25,1,G3 W'⟩=T1 b0 al (some b') W':=by
 funext c
 simp only[T1,A9,Ac.del];by_cases e:c=b'
 ·rw[if_pos e,if_pos e]
 ·rw[if_neg e,if_neg e];by_cases e2:c=b
  ·rw[if_pos e2,if_neg (fun e'=>h (e2.symm.trans e'))];rfl
  ·rw[if_neg e2,if_neg e2]
theorem Kk {b0 b:Nat} {al:List Bool} {W:List (List Nat)}:T1 b0 al (some b) W b=some ⟨25,1,G3 W⟩:=by simp[T1]
theorem Qdq {b0:Nat} {al:List Bool} {o:Option Nat} {W:List (List Nat)} (h:∀b,o=some b→b≠b0):T1 b0 al o W b0=some ⟨72,12,[.agg (bools al)]⟩:=by
 cases o with
 |none=>simp[T1]
 |some b=>have:=h b rfl;simp[T1,Ne.symm this]
theorem Qcd (W:List (List Nat)) (x:List Nat):G3 W++[.sl 1 (A0 x)]=G3 (W++[x]):=by simp[G3]
theorem Qbd {o:Option Nat} {W:List (List Nat)} {M M':Ac} (h0:o=none→W=[]) (h1:∀b,o=some b→M b=some ⟨25,1,G3 W⟩∧M' b=none):B2 M M' (llR o W) (.sl 1 (G3 W)):=by
 cases o with
 |none=>rw[h0 rfl];exact .nilsl 1
 |some b =>
  obtain⟨h2,h3⟩:=h1 b rfl;exact Nf.view (ob:=[b]) (ty:=25) (.inr ⟨b,rfl,by unfold llR;rw[Wj],h2⟩) (by simpa using h3)
def rC (n:Nat) (L:List Ed) (k i:Nat):List (List Nat):=fC n L k++((List.range i).filter (Cc L)).map Fx
theorem Qps (n:Nat) (L:List Ed) (k i:Nat):rC n L k (i+1)=rC n L k i++if Cc L i=true then [[i]] else []:=by
 unfold rC;rw[List.range_succ,List.filter_append,List.map_append,List.append_assoc];cases h:Cc L i<;>simp[h,Fx]
theorem Qt8 (n:Nat) (L:List Ed) (k i:Nat):(rC n L k i).length≤k+i:=by
 have h1:=Qlo n L k;have h2:=List.length_filter_le (Cc L) (List.range i);unfold rC;simp at h2 ⊢;omega
theorem Qpx {n:Nat} {L:List Ed} (hn:1≤n):J2 n L≠[]:=by
 unfold J2;intro h;obtain⟨h1,h2⟩:=List.append_eq_nil_iff.1 h;cases L with
 |nil =>
  have:0∈(List.range n).filter (Cc []):=by simp[Cc];omega
  rw[List.map_eq_nil_iff.1 h2]at this;cases this
 |cons e L =>
  have:=((Lp (H4 n (e::L)) (e::L) [] (by simp)).2 (H4 n (e::L) e)).2 (.inr (by simp));rw[h1]at this;cases this
theorem Qgd (n:Int) (es:List RE) (hb:W5 es) (h8:Di n es=true→n≤8):Ak Tryz.prog 22 [.int .i64 n,Bc es] Ac.emp fun v m=>v=.tup [.sl 1 (G3 (Vv n es)),C6 n es]∧m=Ac.emp:=by
 have hc:=Rr n es hb;refine Ad Tryz.func22 rfl rfl 83 rfl (Nat.le_of_ble_eq_true rfl) ?_;unfold Bc at hc ⊢;(repeat refine AW.seq_k fun K hK=>?_);refine AW.rg ?_;simp[Al];try (refine hK _ rfl ?_;clear hK K)
 (repeat refine AW.seq_k fun K hK=>?_);refine AW.rg ?_;simp;try (refine hK _ rfl ?_;clear hK K)
 refine Aa.val hc ?_;by_cases hk:Di n es=true;rotate_left
 ·have e1:C6 n es=.int .i64 1:=by unfold C6;rw[if_neg hk]
  have e2:Vv n es=[]:=by unfold Vv;rw[if_neg hk]
  simp[e1];try (refine hK _ rfl ?_;clear hK K)
  (repeat refine AW.seq_k fun K hK=>?_);refine AW.rg ?_;simp;try (refine hK _ rfl ?_;clear hK K)
  refine AW.yes ?_ rfl;(repeat refine AW.seq_k fun K hK=>?_);refine AW.rg ?_;simp;try (refine hK _ rfl ?_;clear hK K)
  exact AW.ret (Af [.sl 1 (G3 []),.int .i64 1] rfl ⟨.nilsl 1,.same _,trivial⟩ ⟨by rw[e2,e1];rfl,rfl⟩)
 have e1:C6 n es=.int .i64 0:=by unfold C6;rw[if_pos hk]
 have h8':=h8 hk;have eA:Ip n es=Ch n.toNat (Ag es) [] (List.range es.length):=by unfold Ip;rw[if_pos hk]
 have e2:Vv n es=Tk n.toNat ((Ip n es).map (Ag es)):=by unfold Vv;rw[if_pos hk]
 obtain⟨⟨h1,h2,h3⟩,_⟩:=Fi hk;have hok:=Nl hk;have hle:=Zn hk;have hlt:=fun k=>Qg5 (n:=n) (es:=es) (k:=k);obtain⟨N,rfl⟩:=Int.eq_ofNat_of_zero_le (show 0≤n by omega);simp only[Int.toNat_natCast]at hok eA e2;have hsp:Bk N ((Ip (N:Nat) es).map (Ag es)):=by rw[eA];exact Hj (by simp) (hok.at fun k hk=>by simpa using hk) (Bk.nil N)
 have hall:=Yk es h3;have hpl:=Rv N es (by omega) hok (List.range es.length) (by simp) (by simp;omega);rw[←eA]at hpl;clear eA;generalize Ip (N:Nat) es=A at *;have hL:∀e∈A.map (Ag es),Ec N e:=fun e he=>by
  obtain⟨k,hk,rfl⟩:=List.mem_map.1 he;exact(hok k (hlt k hk)).2.2
 unfold Bc at hall hpl;simp[e1];try (refine hK _ rfl ?_;clear hK K)
 (repeat refine AW.seq_k fun K hK=>?_);refine AW.rg ?_;simp;try (refine hK _ rfl ?_;clear hK K)
 refine AW.no ?_ rfl;refine AW.skip ?_;try simp
 try (refine hK _ rfl ?_;clear hK K)
 (repeat refine AW.seq_k fun K hK=>?_);refine AW.rg ?_;simp;try (refine hK _ rfl ?_;clear hK K)
 refine Aa.val hall ?_;simp;refine Aa.news hpl ?_;rintro _ g ⟨bg,bf,bc,fl,bs,cl,rfl,hG⟩ _;have hg:Ac.back Ac.emp [] g=g:=by funext k;simp only[Ac.back,Az];cases g k<;>simp
 rw[hg];simp;try (refine hK _ rfl ?_;clear hK K)
 (repeat refine AW.seq_k fun K hK=>?_);refine AW.rg ?_;simp;try (refine hK _ rfl ?_;clear hK K)
 (repeat refine AW.seq_k fun K hK=>?_);refine AW.rg ?_;simp;try (refine hK _ rfl ?_;clear hK K)
 refine Ae.intro fun b0 hb0=>?_;refine hK _ rfl ?_;clear hK K;have X1:Jj N bg bf bc es A (T1 b0 (Jx 0) none []) ⟨g.set b0 ⟨72,12,[.agg (bools (Jx 0))]⟩,fl,bs,cl⟩:=(Jj.of hG).set _ (.inr hb0);refine AW.seq_ex (ι:=Ac) (fun M=>[(0,.int .i64 (N:Nat)),(1,.sl 6 (Dt es)),(7,.ptr bg 3 0 0),(8,.sl 1 (A0 A)),(10,.ptr b0 12 0 0),(9,.nil)]) (fun M=>M) (fun M=>Jj N bg bf bc es A (T1 b0 (D1 N []) none []) ⟨M,fl,bs,cl⟩) ?_ ?_
 ·(repeat refine AW.seq_k fun K hK=>?_);refine AW.rg ?_;simp;try (refine hK _ rfl ?_;clear hK K)
  refine AW.block (AW.loopS (ι:=Ac × Nat) (fun z=>[(0,.int .i64 (N:Nat)),(1,.sl 6 (Dt es)),(7,.ptr bg 3 0 0),(8,.sl 1 (A0 A)),(10,.ptr b0 12 0 0),(9,.nil),(30,.int .i64 (N:Nat)),(31,.int .i64 (z.2:Nat))]) (fun z=>z.1)
   (fun z=>z.2≤N∧Jj N bg bf bc es A (T1 b0 (Jx z.2) none []) ⟨z.1,fl,bs,cl⟩) (fun z=>N-z.2) (_,0) ⟨by simp,X1⟩ rfl (by simp) ?_)
  rintro⟨M,i⟩ ⟨g1,g2⟩;simp only at g1 g2;have p0:M b0=some ⟨72,12,[.agg (bools (Jx i))]⟩:=g2.ext b0 _ (by simp[T1]);have hi12:i<8→i<12:=fun h=>by omega
  (repeat refine AW.seq_k fun K hK=>?_);refine AW.rg ?_;simp;try (refine hK _ rfl ?_;clear hK K)
  (repeat refine AW.seq ?_);refine AW.cs (fun hi=>?_) (fun hi=>?_) rfl<;>(try simp at hi)
  ·refine AW.skip ?_;try simp
   try (refine hK _ rfl ?_;clear hK K)
   have w1:=Aq (i+1) (by omega);have hi12:i<12:=by omega
   (repeat refine AW.seq ?_);refine AW.block ?_;(repeat refine AW.seq_k fun K hK=>?_);refine AW.rg ?_;simp;try (refine hK _ rfl ?_;clear hK K)
   have hi11:i≤11:=by omega
   have hi12':(i:Int)<12:=by omega
   (repeat refine AW.seq_k fun K hK=>?_);refine AW.rg ?_;simp[p0,hi12,hi11,hi12'];try (refine hK _ rfl ?_;clear hK K)
   rw[Jk _ hi12 (by simp),Qj6 hi12];(repeat refine AW.seq_k fun K hK=>?_);refine AW.rg ?_;simp[-Int.natCast_add,w1];try (refine hK _ rfl ?_;clear hK K)
   have g3:=g2.set (b:=b0) ⟨72,12,[.agg (bools (Jx (i+1)))]⟩ (.inl (by simp[T1]));rw[Qhk (by simp)]at g3;exact⟨_,i+1,⟨by omega,g3⟩,by omega,rfl,rfl⟩
  ·refine AW.exit ?_;try simp
   have:i=N:=by omega
   subst this;rw[Qjo]at g2;exact g2
 rintro M hM;have hcl:∀(M:Ac) (fl:List Nat) (bs:List (Option Nat)) (cl:List (List Nat)) (e:Nat),J8 N bg bf bc es A M fl bs cl→e∈A→_:=fun M fl bs cl e h1 h2=>Qad N bg bf bc es A (by omega) hok hlt hsp M fl bs cl e h1 h2;refine AW.seq_ex (ι:=GSt × Option Nat) (fun z=>[(0,.int .i64 (N:Nat)),(1,.sl 6 (Dt es)),(7,.ptr bg 3 0 0),(8,.sl 1 (A0 A)),(10,.ptr b0 12 0 0),(9,llR z.2 (fC N (A.map (Ag es)) A.length))]) (fun z=>z.1.M)
  (fun z=>Jj N bg bf bc es A (T1 b0 (D1 N (A.map (Ag es))) z.2 (fC N (A.map (Ag es)) A.length)) z.1∧(∀b,z.2=some b→b≠b0)∧(z.2=none→fC N (A.map (Ag es)) A.length=[])) ?_ ?_
 ·(repeat refine AW.seq_k fun K hK=>?_);refine AW.rg ?_;simp;try (refine hK _ rfl ?_;clear hK K)
  refine AW.block (AW.loopS (ι:=GSt × Option Nat × Nat) (fun z=>[(0,.int .i64 (N:Nat)),(1,.sl 6 (Dt es)),(7,.ptr bg 3 0 0),(8,.sl 1 (A0 A)),(10,.ptr b0 12 0 0),(9,llR z.2.1 (fC N (A.map (Ag es)) z.2.2)),(37,.sl 1 (A0 A)),(38,.int .i64 (A.length:Nat)),(39,.int .i64 (z.2.2:Nat))]) (fun z=>z.1.M)
   (fun z=>z.2.2≤A.length∧Jj N bg bf bc es A (T1 b0 (D1 N ((A.map (Ag es)).take z.2.2)) z.2.1 (fC N (A.map (Ag es)) z.2.2)) z.1∧(∀b,z.2.1=some b→b≠b0)∧(z.2.1=none→fC N (A.map (Ag es)) z.2.2=[]))
   (fun z=>A.length-z.2.2) (⟨M,fl,bs,cl⟩,none,0) ⟨by simp,hM,by simp,by simp[fC]⟩ rfl (by simp[llR]) ?_)
  clear hM X1 hG hb0;rintro⟨⟨M,fl,bs,cl⟩,o,i⟩ ⟨g1,g2,g3,g4⟩;simp only at g1 g2 g3 g4;(repeat refine AW.seq_k fun K hK=>?_);refine AW.rg ?_;simp;try (refine hK _ rfl ?_;clear hK K)
  (repeat refine AW.seq ?_);refine AW.cs (fun hi=>?_) (fun hi=>?_) rfl<;>(try simp at hi)
  ·refine AW.skip ?_;try simp
   try (refine hK _ rfl ?_;clear hK K)
   have w1:=Aq (i+1) (by omega);obtain⟨e,he⟩:∃e,A[i]=e:=⟨_,rfl⟩;have heA:e∈A:=he ▸ List.getElem_mem hi;have hel:e<es.length:=hlt e heA;obtain⟨q1,q2,q3⟩:=hok e hel;have htk:(A.map (Ag es)).take (i+1)=(A.map (Ag es)).take i++[Ag es e]:=by
    rw[List.take_add_one,List.getElem?_map,List.getElem?_eq_getElem hi,he];rfl
   have hfo:fC N (A.map (Ag es)) (i+1)=O5 (fC N (A.map (Ag es)) i) (H4 N (A.map (Ag es)) (Ag es e)):=by unfold fC;rw[htk,List.foldl_append];rfl
   have hcle:=fun M fl bs cl h=>hcl M fl bs cl e h heA;have hcll:(H4 N (A.map (Ag es)) (Ag es e)).length≤8:=by
    have:=List.length_filter_le (H7 N (A.map (Ag es)) (Ag es e)) (List.range N);unfold H4;simp at this;omega
   have hWm:=Qmk N (A.map (Ag es)) i;have hWl:=Qlo N (A.map (Ag es)) i;generalize hW:fC N (A.map (Ag es)) i=W at *;have halp:=Qb9 N ((A.map (Ag es)).take i) (Ag es e).1 (Ag es e).2;rw[show((Ag es e).1,(Ag es e).2)=Ag es e from rfl,←htk]at halp;have p0:M b0=some ⟨72,12,[.agg (bools (D1 N ((A.map (Ag es)).take i)))]⟩:=g2.ext b0 _ (Qdq g3);have hall:=Xr N ((A.map (Ag es)).take i);generalize D1 N ((A.map (Ag es)).take i)=al at *;obtain⟨a,ha⟩:∃a,(Ag es e).1=a:=⟨_,rfl⟩;obtain⟨b,hb⟩:∃b,(Ag es e).2=b:=⟨_,rfl⟩
   rw[ha]at q1 halp;rw[hb]at q2 halp;have ha8:a<12:=by have:=q3.1;omega
   have hb8:b<12:=by have:=q3.2.1;omega
   have ha8':(a:Int)<12:=by omega
   have hb8':(b:Int)<12:=by omega
   have ha8'':a≤11:=by omega
   have hb8'':b≤11:=by omega
   (repeat refine AW.seq ?_);refine AW.block ?_;(repeat refine AW.seq_k fun K hK=>?_);refine AW.rg ?_;simp[hi,he];try (refine hK _ rfl ?_;clear hK K)
   refine AW.seq_ex (ι:=Unit) (fun _=>[(0,.int .i64 (N:Nat)),(1,.sl 6 (Dt es)),(7,.ptr bg 3 0 0),(8,.sl 1 (A0 A)),(10,.ptr b0 12 0 0),(9,llR o W),(37,.sl 1 (A0 A)),(38,.int .i64 (A.length:Nat)),(39,.int .i64 (i:Nat)),(13,.int .i64 (e:Nat))]) (fun _=>M.set b0 ⟨72,12,[.agg (bools (D1 N ((A.map (Ag es)).take (i+1))))]⟩) (fun _=>True) ?_ ?_
   ·refine AW.rd2 9 11 [0,1,2,3,4,5,6,7,8,9,10,11,12,13] [0,1,2,3,4,5,6,7,8,10,11,9,12,13] Dm ?_ ?_
    ·simp[hel,Cq,q1,q2,p0,ha8,hb8,ha8',hb8',ha8'',hb8''];rw[Jk _ ha8 hall,Jk _ hb8 (by simp[hall]),halp]
    ·simp[hel,Cq,q1,q2,p0,ha8,hb8,ha8',hb8',ha8'',hb8''];rw[Jk _ ha8 hall,Jk _ hb8 (by simp[hall]),halp]
   rintro _ _;have g5:=g2.set (b:=b0) ⟨72,12,[.agg (bools (D1 N ((A.map (Ag es)).take (i+1))))]⟩ (.inl (by rw[Qdq g3];simp));rw[Qhk g3]at g5;generalize hal2:D1 N ((A.map (Ag es)).take (i+1))=al2 at *;generalize M.set b0 ⟨72,12,[.agg (bools al2)]⟩=M2 at g5 ⊢;(repeat refine AW.seq_k fun K hK=>?_);refine AW.rg ?_;simp;try (refine hK _ rfl ?_;clear hK K)
   refine Aa.hand (Bh bg bf bc bs) (fun _ _ h=>h) (hcle _ fl bs cl g5.gam) ?_;rintro _ g' ⟨rfl,fl',bs',cl',hG'⟩ hnew;have g6:=g5.back hG' (fun b h=>(hnew b h).imp id (·.1));generalize M2.back (Bh bg bf bc bs) g'=M3 at g6 ⊢;generalize H4 N (A.map (Ag es)) (Ag es e)=c at *;simp;refine Ae.intro fun b4 hb4=>?_;refine hK _ rfl ?_;clear hK K;refine AW.turn [(0,.int .i64 (N:Nat)),(1,.sl 6 (Dt es)),(7,.ptr bg 3 0 0),(8,.sl 1 (A0 A)),(10,.ptr b0 12 0 0),(9,llR o W),(37,.sl 1 (A0 A)),(38,.int .i64 (A.length:Nat)),(39,.int .i64 (i:Nat)),(14,.rptr [.sl 1 (A0 c)])] M3 (Bm.drop hb4 (g6.ones Qlm))
    (by simp;exact .ptr b4 1 0 0 ⟨25,1,[.sl 1 (A0 c)]⟩ (.sl 1 (A0 c)) (Ac.set_same _ _ _) hb4 rfl rfl) ?_
   (repeat refine AW.seq_k fun K hK=>?_);refine AW.rg ?_;simp;try (refine hK _ rfl ?_;clear hK K)
   refine Aa.look [.sl 1 (G3 W),.fn 55 [.rptr [.sl 1 (A0 c)]]] ⟨Qbd g4 fun b hb=>⟨g6.ext b _ (by rw[hb];exact Kk),rfl⟩,.same _,trivial⟩ (Tt W c (by omega) (fun x hx=>by have:=hWm x hx;omega) (by omega)) rfl ?_;simp;try (refine hK _ rfl ?_;clear hK K)
   unfold O5 at hfo;by_cases hcW:c∈W
   ·rw[if_pos hcW]at hfo;refine AW.no ?_ (by simp[hcW]);refine AW.skip ?_;try simp
    try (refine hK _ rfl ?_;clear hK K)
    (repeat refine AW.seq_k fun K hK=>?_);refine AW.rg ?_;simp[-Int.natCast_add,w1];try (refine hK _ rfl ?_;clear hK K)
    exact⟨⟨M3,fl',bs',cl'⟩,o,i+1,⟨by omega,by rw[hfo,hal2];exact g6,g3,by rw[hfo];exact g4⟩,by omega,rfl,by rw[hfo];exact⟨rfl,rfl⟩⟩
   ·rw[if_neg hcW]at hfo;refine AW.yes ?_ (by simp[hcW]);cases o with
    |none =>
     have hW0:=g4 rfl;subst hW0;simp only[llR];(repeat refine AW.seq_k fun K hK=>?_);refine AW.rgR [64] ?_;simp;try (refine hK _ rfl ?_;clear hK K)
     refine⟨by unfold maxLen;omega,Ae.intro fun b6 h6=>?_⟩;have hb60:b6≠b0:=fun e=>by
      have:=g6.ext b0 _ (Qdq g3);rw[←e]at this;simp only at this;rw[h6]at this;cases this
     have g7:=g6.set (b:=b6) ⟨25,1,G3 [c]⟩ (.inr h6);rw[Y1]at g7;(repeat refine AW.seq_k fun K hK=>?_);refine AW.rg ?_;simp[-Int.natCast_add,w1];try (refine hK _ rfl ?_;clear hK K)
     exact⟨⟨_,fl',bs',cl'⟩,some b6,i+1,⟨by omega,by rw[hfo,hal2];exact g7,fun b hb=>by cases hb;exact hb60,by simp⟩,by omega,rfl,by rw[hfo];exact⟨rfl,rfl⟩⟩
    |some b1 =>
     have hb1:=g3 b1 rfl;have p1:M3 b1=some ⟨25,1,G3 W⟩:=g6.ext b1 _ Kk;simp only[llR];(repeat refine AW.seq_k fun K hK=>?_);refine AW.rgR [64] ?_;simp[p1];try (refine hK _ rfl ?_;clear hK K)
     refine⟨by omega,by unfold maxLen;omega,Ae.intro fun b6 h6=>?_⟩;have hb60:b6≠b0:=fun e=>by
      have:=g6.ext b0 _ (Qdq g3);rw[←e]at this;simp only at this;rw[Ac.del_other _ (by rw[e];exact Ne.symm hb1),this]at h6;cases h6
     have g7:=(g6.del (b:=b1) (by rw[Kk];simp)).set (b:=b6) ⟨25,1,G3 (W++[c])⟩ (.inr h6);rw[Yq hb1]at g7;rw[Qcd];(repeat refine AW.seq_k fun K hK=>?_);refine AW.rg ?_;simp[-Int.natCast_add,w1];try (refine hK _ rfl ?_;clear hK K)
     exact⟨⟨_,fl',bs',cl'⟩,some b6,i+1,⟨by omega,by rw[hfo,hal2];exact g7,fun b hb=>by cases hb;exact hb60,by simp⟩,by omega,rfl,by rw[hfo];exact⟨by simp[llR],rfl⟩⟩
  ·refine AW.exit ?_;try simp
   have:i=A.length:=by omega
   subst this;rw[List.take_of_length_le (by simp)]at g2;exact⟨_,o,⟨g2,g3,g4⟩,rfl,rfl⟩
 clear hM X1 hG hb0;rintro⟨⟨M,fl,bs,cl⟩,o⟩ ⟨g2,g3,g4⟩;simp only at g2 g3 g4 ⊢;have hr0:rC N (A.map (Ag es)) A.length 0=fC N (A.map (Ag es)) A.length:=by simp[rC]
 have hrN:rC N (A.map (Ag es)) A.length N=J2 N (A.map (Ag es)):=by unfold rC fC J2;rw[List.take_of_length_le (by simp)]
 rw[←hr0]at g2 g4 ⊢;refine AW.seq_ex (ι:=Ac × Option Nat) (fun z=>[(9,llR z.2 (J2 N (A.map (Ag es))))]) (fun z=>z.1)
  (fun z=>Jj N bg bf bc es A (T1 b0 (D1 N (A.map (Ag es))) z.2 (J2 N (A.map (Ag es)))) ⟨z.1,fl,bs,cl⟩∧(z.2=none→J2 N (A.map (Ag es))=[])) ?_ ?_
 ·(repeat refine AW.seq_k fun K hK=>?_);refine AW.rg ?_;simp;try (refine hK _ rfl ?_;clear hK K)
  refine AW.block (AW.loopS (ι:=Ac × Option Nat × Nat) (fun z=>[(0,.int .i64 (N:Nat)),(1,.sl 6 (Dt es)),(7,.ptr bg 3 0 0),(8,.sl 1 (A0 A)),(10,.ptr b0 12 0 0),(9,llR z.2.1 (rC N (A.map (Ag es)) A.length z.2.2)),(67,.int .i64 (N:Nat)),(68,.int .i64 (z.2.2:Nat))]) (fun z=>z.1)
   (fun z=>z.2.2≤N∧Jj N bg bf bc es A (T1 b0 (D1 N (A.map (Ag es))) z.2.1 (rC N (A.map (Ag es)) A.length z.2.2)) ⟨z.1,fl,bs,cl⟩∧(∀b,z.2.1=some b→b≠b0)∧(z.2.1=none→rC N (A.map (Ag es)) A.length z.2.2=[]))
   (fun z=>N-z.2.2) (M,o,0) ⟨by simp,g2,g3,g4⟩ rfl (by simp) ?_)
  clear g2 g3 g4;rintro⟨M,o,i⟩ ⟨g1,g2,g3,g4⟩;simp only at g1 g2 g3 g4;(repeat refine AW.seq_k fun K hK=>?_);refine AW.rg ?_;simp;try (refine hK _ rfl ?_;clear hK K)
  (repeat refine AW.seq ?_);refine AW.cs (fun hi=>?_) (fun hi=>?_) rfl<;>(try simp at hi)
  ·refine AW.skip ?_;try simp
   try (refine hK _ rfl ?_;clear hK K)
   have w1:=Aq (i+1) (by omega);have hfo:=Qps N (A.map (Ag es)) A.length i;have hWl:=Qt8 N (A.map (Ag es)) A.length i;generalize rC N (A.map (Ag es)) A.length i=W at *;have p0:M b0=some ⟨72,12,[.agg (bools (D1 N (A.map (Ag es))))]⟩:=g2.ext b0 _ (Qdq g3);have hi12:i<12:=by omega
   have hi11:i≤11:=by omega
   have hi12':(i:Int)<12:=by omega
   have hal:∀h:i<(D1 N (A.map (Ag es))).length,(D1 N (A.map (Ag es)))[i]=Cc (A.map (Ag es)) i:=fun h=>by rw[O1];simp[hi]
   (repeat refine AW.seq ?_);refine AW.block ?_;(repeat refine AW.seq_k fun K hK=>?_);refine AW.rg ?_;simp;try (refine hK _ rfl ?_;clear hK K)
   (repeat refine AW.seq_k fun K hK=>?_);refine AW.rg ?_;simp[p0,hi12,hi11,hi12',hal];try (refine hK _ rfl ?_;clear hK K)
   cases hab:Cc (A.map (Ag es)) i with
   |false =>
    rw[hab]at hfo;simp at hfo;refine AW.no ?_ rfl;refine AW.skip ?_;try simp
    try (refine hK _ rfl ?_;clear hK K)
    (repeat refine AW.seq_k fun K hK=>?_);refine AW.rg ?_;simp[-Int.natCast_add,w1];try (refine hK _ rfl ?_;clear hK K)
    exact⟨M,o,i+1,⟨by omega,by rw[hfo];exact g2,g3,by rw[hfo];exact g4⟩,by omega,rfl,by rw[hfo];exact⟨rfl,rfl⟩⟩
   |true =>
    rw[hab]at hfo;simp at hfo;refine AW.yes ?_ rfl;have e77:[AV.sl 1 [AV.int .i64 (i:Nat)]]=G3 [[i]]:=rfl;cases o with
    |none =>
     have hW0:=g4 rfl;subst hW0;simp only[llR];(repeat refine AW.seq_k fun K hK=>?_);refine AW.rgR [76,77] ?_;simp;refine⟨by unfold maxLen;omega,Ae.intro fun b6 h6=>?_⟩;have hb60:b6≠b0:=fun e=>by rw[e,p0]at h6;cases h6
     have g7:=g2.set (b:=b6) ⟨25,1,G3 [[i]]⟩ (.inr h6);rw[Y1]at g7;(repeat refine AW.seq_k fun K hK=>?_);refine AW.rg ?_;simp[-Int.natCast_add,w1];try (refine hK _ rfl ?_;clear hK K)
     exact⟨_,some b6,i+1,⟨by omega,by rw[hfo];exact g7,fun b hb=>by cases hb;exact hb60,by simp⟩,by omega,rfl,by rw[hfo];exact⟨rfl,rfl⟩⟩
    |some b1 =>
     have hb1:=g3 b1 rfl;have p1:M b1=some ⟨25,1,G3 W⟩:=g2.ext b1 _ Kk;simp only[llR];(repeat refine AW.seq_k fun K hK=>?_);refine AW.rgR [76,77] ?_;simp[p1];refine⟨by omega,by unfold maxLen;omega,Ae.intro fun b6 h6=>?_⟩;have hb60:b6≠b0:=fun e=>by rw[e,Ac.del_other _ (Ne.symm hb1),p0]at h6;cases h6
     have g7:=(g2.del (b:=b1) (by rw[Kk];simp)).set (b:=b6) ⟨25,1,G3 (W++[[i]])⟩ (.inr h6);rw[Yq hb1]at g7;rw[show AV.sl 1 [AV.int .i64 (i:Nat)]=.sl 1 (A0 [i]) from rfl,Qcd];(repeat refine AW.seq_k fun K hK=>?_);refine AW.rg ?_;simp[-Int.natCast_add,w1];try (refine hK _ rfl ?_;clear hK K)
     exact⟨_,some b6,i+1,⟨by omega,by rw[hfo];exact g7,fun b hb=>by cases hb;exact hb60,by simp⟩,by omega,rfl,by rw[hfo];exact⟨by simp[llR],rfl⟩⟩
  ·refine AW.exit ?_;try simp
   have:i=N:=by omega
   subst this;rw[hrN]at g2 g4 ⊢;exact⟨M,o,⟨g2,g4⟩,rfl,rfl⟩
 clear g2 g3 g4;rintro⟨M,o⟩ ⟨g2,g4⟩;simp only at g2 g4 ⊢;have hrc:=Qlv hL hsp (by omega);have hrl:∀x∈J2 N (A.map (Ag es)),x.length<2^40:=fun x hx=>by
  unfold J2 at hx;rcases List.mem_append.1 hx with hx | hx
  ·have:=Qmk N (A.map (Ag es)) (A.map (Ag es)).length x (by unfold fC;rw[List.take_length];exact hx);omega
  ·obtain⟨j,_,rfl⟩:=List.mem_map.1 hx;simp[Fx]
 have hfin:=fun W' h1 h2=>Qb2 (W:=W') hL hsp h1 h2;have hne:=Qpx (n:=N) (L:=A.map (Ag es)) (by omega);cases o with
 |none=>exact absurd (g4 rfl) hne
 |some b =>
  have p1:M b=some ⟨25,1,G3 (J2 N (A.map (Ag es)))⟩:=g2.ext b _ Kk;have hst:=Qi4 b (J2 N (A.map (Ag es))) hrc hrl;simp only[llR];generalize J2 N (A.map (Ag es))=W at *;(repeat refine AW.seq_k fun K hK=>?_);refine AW.rg ?_;simp;try (refine hK _ rfl ?_;clear hK K)
  refine Aa.hand (R:=fun v m=>∃W',W'.Perm W∧Gx W'∧v=.tup []∧m=Ac.emp.set b ⟨25,1,G3 W'⟩) [b] (fun _ _ h=>h) (by rw[Wb p1];exact hst) ?_;rintro _ g ⟨W',p1,p2,rfl,rfl⟩ _;rw[Qbn];have hW':=hfin W' p1 p2;simp;try (refine hK _ rfl ?_;clear hK K)
  (repeat refine AW.seq_k fun K hK=>?_);refine AW.rg ?_;simp;try (refine hK _ rfl ?_;clear hK K)
  have hl2:W'.length=W.length:=p1.length_eq;have hv:B2 (M.set b ⟨25,1,G3 W'⟩) Ac.emp (.osl b 1 0 W.length) (.sl 1 (G3 W')):=by
   rw[←hl2];exact Qbd (o:=some b) (W:=W') (by simp) (fun b' h=>by cases h;exact⟨Ac.set_same _ _ _,rfl⟩)
  exact AW.ret (Af [.sl 1 (G3 W'),.int .i64 0] rfl ⟨hv,.same _,trivial⟩ ⟨by rw[e2,e1,←hW'];rfl,rfl⟩)
end Go.Av
end
section
namespace Go.Av
open Go.Proofs Go.Lam
theorem Qcn (x:List Nat):∀W:List (List Nat),(Pd W x).length=W.length+1
 |[]=>rfl
 |y::W=>by
  unfold Pd;split
  ·simp
  ·simp[Qcn x W]
def Few (W:List (List Nat)) (k:Nat):Prop:=W.length≤k∧∀x∈W,x.length≤12
theorem Few.ins {W:List (List Nat)} {k:Nat} (h:Few W k) {x:List Nat} (hx:x.length≤12):Few (Pd W x) (k+1):=⟨by rw[Qcn];have:=h.1;omega,fun y hy=>by
 rcases Ms.1 hy with rfl|hy
 ·exact hx
 ·exact h.2 y hy⟩
end Go.Av
end
section
namespace Go.Av
open Go.Proofs
def Qt (e:Int) (r:RR) (Z:Option Rat):Prop :=
 match Z with
 |some q=>e=0∧r=Ar q∧B0 q
 |none=>e=2
theorem Qt.step {e:Int} {a:RR} {Z:Option Rat} (h:Qt e a Z) {op:Rat→Option Rat} (hop:∀q z,op q=some z→B0 z):Qt (Cp e a (op a.q)).1 (Cp e a (op a.q)).2 (Z.bind op):=by
 cases Z with
 |none =>
  have:e=2:=h;rw[Ib (by omega)];exact h
 |some q =>
  obtain⟨h1,rfl,h3⟩:e=0∧a=Ar q∧B0 q:=h;rw[F3];show Qt _ _ (op q)
  cases ho:op q with
  |none=>rw[Kr h1];rfl
  |some z=>rw[Iz h1];exact⟨rfl,rfl,hop q z ho⟩
theorem Qt.ok {e:Int} {a:RR} {Z:Option Rat} (h:Qt e a Z) (he:e=0):a.ok=true:=by
 cases Z with
 |none=>have:e=2:=h;omega
 |some q=>obtain⟨_,rfl,h3⟩:e=0∧a=Ar q∧B0 q:=h;exact D0 h3
set_option maxHeartbeats 1000000
end Go.Av
end
section
namespace Go.Av
open Go.Proofs
theorem Ux (z:Int):Ak Tryz.prog 86 [Ay z] Ac.emp fun v m=>v=.bool (decide (z=0))∧m=Ac.emp:=by
 have h:=Kx (decide (z<0)) (Ap z.natAbs);have e:decide ((Ap z.natAbs).length=0)=decide (z=0):=by
  have h1:Ap z.natAbs=[]↔z.natAbs=0:=Cw;have h2:(Ap z.natAbs).length=0↔z=0:=by rw[List.length_eq_zero_iff,h1];omega
  simp[h2]
 rw[e]at h;exact h
theorem Qil {x y:Int}:Ka x y=0↔x=y:=by unfold Ka;split<;>(try split)<;>omega
theorem Qd7 (x y:Int):Ka x y=-1∨Ka x y=0∨Ka x y=1:=by unfold Ka;split<;>(try split)<;>simp
theorem Qua {x y u v:Int} (hy:0<y) (hv:0<v) (h:x.fdiv y≠u.fdiv v):x*v≠u*y:=by
 intro e;apply h;rw[Int.fdiv_eq_ediv_of_nonneg _ (by omega),Int.fdiv_eq_ediv_of_nonneg _ (by omega)];have h1:(x*v) / (y*v)=x / y:=Int.mul_ediv_mul_of_pos_left _ _ hv;have h2:(u*y) / (v*y)=u / v:=Int.mul_ediv_mul_of_pos_left _ _ hy;rw[←h1,←h2,e,Int.mul_comm v y]
theorem Qwx {x y u v:Int} (h:x.fdiv y=u.fdiv v):x*v=u*y↔x.fmod y*v=u.fmod v*y:=by
 have h1:x=y*x.fdiv y+x.fmod y:=by rw[Int.mul_fdiv_add_fmod]
 have h2:u=v*u.fdiv v+u.fmod v:=by rw[Int.mul_fdiv_add_fmod]
 generalize x.fmod y=r1 at *;generalize u.fmod v=r2 at *;rw[←h]at h2;generalize x.fdiv y=q at *;subst h1 h2;rw[Int.add_mul,Int.add_mul,show v*q*y=y*q*v by rw[Int.mul_comm v q,Int.mul_assoc,Int.mul_comm v y,←Int.mul_assoc,Int.mul_comm q y]];omega
theorem Vg {x y:Int} (hy:0<y):0≤x.fmod y∧x.fmod y<y:=⟨Int.fmod_nonneg_of_pos _ hy,Int.fmod_lt_of_pos _ hy⟩
def C0 (z:Int):Fb:=⟨42,2,[.agg [.bool (decide (z<0)),Ao (Ap z.natAbs)]]⟩
structure Qpz where
 x:Int
 y:Int
 u:Int
 v:Int
 s:Int
def Q1v (a b:Rat) (t:Qpz):Prop:=0<t.y∧0<t.v∧t.x.natAbs<Bj∧t.y.natAbs<Bj∧t.u.natAbs<Bj∧t.v.natAbs<Bj∧(a=b↔t.x*t.v=t.u*t.y)∧(t.s=1∨t.s=-1)
theorem Qi0 (n:Nat):C0 (n:Nat)=⟨42,2,[.agg [.bool false,Ao (Ap n)]]⟩:=by
 unfold C0;have:decide ((n:Int)<0)=false:=by simp
 rw[this];rfl
def Ke (b5 b6 b7 b8:Nat) (t:Qpz):Ac:=(((Ac.emp.set b5 (C0 t.x)).set b6 (C0 t.y)).set b7 (C0 t.u)).set b8 (C0 t.v)
theorem Qhv {r:Int} (h:0≤r) (h0:r≠0):0<r:=by omega
theorem Qp0 {r y:Int} (h:0≤r) (h0:r<y):r.natAbs<y.natAbs:=by omega
theorem Qu1 {s c:Int} (h:s=1∨s=-1) (hc:¬c=0):¬s*c=0:=by
 rcases h with h|h<;>subst h<;>omega
theorem Qj8 {s c:Int} (h:s=1∨s=-1) (hc:c=-1∨c=0∨c=1):s*c=-1∨s*c=0∨s*c=1:=by
 rcases h with h|h<;>subst h<;>omega
theorem Qnz {s c:Int} (h:s=1∨s=-1) (hc:c=-1∨c=0∨c=1):IntKind.i64.wrap (s*c)=s*c:=by
 rcases h with h|h<;>rcases hc with h'|h'|h'<;>subst h h'<;>rfl
theorem Qo3 {s:Int} (h:s=1∨s=-1):IntKind.i64.wrap (-s)=-s∧(-s=1∨-s=-1)∧¬-s=0∧¬s=0:=by
 rcases h with h|h<;>subst h<;>exact⟨rfl,by decide,by decide,by decide⟩
def Qub (a b:Rat) (v:AV):Prop:=∃c:Int,v=.int .i64 c∧(c=0↔a=b)∧(c=-1∨c=0∨c=1)
set_option maxHeartbeats 1000000
theorem Xp (a b:Rat) (ha:B0 a) (hb:B0 b):Ak Tryz.prog 188 [H6 a,H6 b] Ac.emp fun v m=>Qub a b v∧m=Ac.emp:=by
 have key:∀t:Qpz,Q1v a b t→∃q1 r1 q2 r2,q1=t.x.fdiv t.y∧r1=t.x.fmod t.y∧q2=t.u.fdiv t.v∧r2=t.u.fmod t.v:=fun t _=>⟨_,_,_,_,rfl,rfl,rfl,rfl⟩;have hab:a=b↔a.num*b.den=b.num*a.den:=Rat.eq_iff_mul_eq_mul;have d1:0<(a.den:Int):=by have:=a.den_pos;omega
 have d2:0<(b.den:Int):=by have:=b.den_pos;omega
 unfold H6;refine Ad Tryz.func188 rfl rfl 73 rfl (Nat.le_of_ble_eq_true rfl) ?_;(repeat refine AW.seq_k fun K hK=>?_);refine AW.rgR [2,3] ?_;simp[Al];try (refine hK _ rfl ?_;clear hK K)
 (repeat refine AW.seq_k fun K hK=>?_);refine AW.rdT [] [2,3,18,20,22,24] [] [] [0,1,2,3,4,5,6,7,8,9,10,11,12,13,14,15] Dm (by simp) (by simp) (by simp) (by simp) (by simp) ?_;simp;try (refine hK _ rfl ?_;clear hK K)
 refine Ae.intro fun b5 hb5=>?_;simp only[Am,Az,and_true]at hb5;refine Ae.intro fun b6 hb6=>?_;simp only[Am,Az,and_true]at hb6;refine Ae.intro fun b7 hb7=>?_;simp only[Am,Az,and_true]at hb7;refine Ae.intro fun b8 hb8=>?_;simp only[Am,Az,and_true]at hb8;simp[hb5,hb6,hb7,hb8];refine hK _ rfl ?_;clear hK K;(repeat refine AW.seq_k fun K hK=>?_);refine AW.rg ?_;simp;try (refine hK _ rfl ?_;clear hK K)
 refine AW.block (AW.loopS (ι:=Qpz) (fun t=>[(5,.ptr b5 2 0 0),(6,.ptr b6 2 0 0),(7,.ptr b7 2 0 0),(8,.ptr b8 2 0 0),(9,.int .i64 t.s)]) (fun t=>Ke b5 b6 b7 b8 t) (fun t=>Q1v a b t) (fun t=>t.y.natAbs) ⟨a.num,(a.den:Nat),b.num,(b.den:Nat),1⟩ ⟨d1,d2,ha.1,E5 ha,hb.1,E5 hb,hab,.inl rfl⟩ ?_ (by simp) ?_)
 ·unfold Ke;simp only[Qi0];unfold C0
  funext c
  simp only[A9,Az]
  (repeat' split)<;>simp_all
 rintro⟨x,y,u,v,s⟩ ⟨i1,i2,i3,i4,i5,i6,i7,i8⟩;simp only at i1 i2 i3 i4 i5 i6 i7 i8;have c1:=Ir x y i3 i4 (by omega);have c2:=Ir u v i5 i6 (by omega);have e1:=Uf (y:=y) i3 (by omega);have e2:=Uf (y:=v) i5 (by omega);have e3:=Uk (x:=x) i4 (by omega);have e4:=Uk (x:=u) i6 (by omega);have c3:=Qjk (x.fdiv y) (u.fdiv v) e1 e2;have c4:=Ux (x.fmod y);have c5:=Ux (u.fmod v);have f1:=Vg (x:=x) i1;have f2:=Vg (x:=u) i2;have p1:=Qua (x:=x) (u:=u) i1 i2;have p2:=Qwx (x:=x) (y:=y) (u:=u) (v:=v)
 generalize x.fdiv y=q1 at *;generalize u.fdiv v=q2 at *;generalize x.fmod y=r1 at *;generalize u.fmod v=r2 at *;unfold Ke C0;unfold Ay at *;simp only;(repeat refine AW.seq ?_);refine AW.block ?_;(repeat refine AW.seq_k fun K hK=>?_);refine AW.rg ?_;simp[hb5,hb6,hb7,hb8];try (refine hK _ rfl ?_;clear hK K)
 refine Aa.val c1 ?_;simp[hb5,hb6,hb7,hb8];refine Ae.intro fun b10 hb10=>?_;simp only[Am,Az,and_true]at hb10;refine Ae.intro fun b11 hb11=>?_;simp only[Am,Az,and_true]at hb11;simp[hb5,hb6,hb7,hb8,hb10,hb11,Vs hb11.1.2];refine hK _ rfl ?_;clear hK K;(repeat refine AW.seq_k fun K hK=>?_);refine AW.rg ?_;simp[hb5,hb6,hb7,hb8,hb10,hb11];try (refine hK _ rfl ?_;clear hK K)
 refine Aa.val c2 ?_;simp[hb5,hb6,hb7,hb8,hb10,hb11];refine Ae.intro fun b13 hb13=>?_;simp only[Am,Az,and_true]at hb13;refine Ae.intro fun b14 hb14=>?_;simp only[Am,Az,and_true]at hb14;simp[hb5,hb6,hb7,hb8,hb10,hb11,hb13,hb14,Vs hb14.1.2];refine hK _ rfl ?_;clear hK K;refine AW.seq_ex (ι:=Unit) (fun _=>[(5,.ptr b5 2 0 0),(6,.ptr b6 2 0 0),(7,.ptr b7 2 0 0),(8,.ptr b8 2 0 0),(9,.int .i64 s),(11,.ptr b11 2 0 0),(14,.ptr b14 2 0 0)]) (fun _=>((((Ke b5 b6 b7 b8 ⟨x,y,u,v,s⟩).set b10 (C0 q1)).set b11 (C0 r1)).set b13 (C0 q2)).set b14 (C0 r2)) (fun _=>q1=q2) ?_ ?_
 ·(repeat refine AW.seq_k fun K hK=>?_);refine AW.rg ?_;simp[hb5,hb6,hb7,hb8,hb10,hb11,hb13,hb14];try (refine hK _ rfl ?_;clear hK K)
  refine Aa.val c3 ?_;simp[hb5,hb6,hb7,hb8,hb10,hb11,hb13,hb14];refine hK _ rfl ?_;clear hK K;have hc1:Ka q1 q2=0↔q1=q2:=Qil;have hc2:=Qd7 q1 q2;generalize Ka q1 q2=cc at *;(repeat refine AW.seq_k fun K hK=>?_);refine AW.rg ?_;simp;try (refine hK _ rfl ?_;clear hK K)
  (repeat refine AW.seq ?_);refine AW.cs (fun hc=>?_) (fun hc=>?_) rfl<;>(try simp at hc)
  ·(repeat refine AW.seq_k fun K hK=>?_);refine AW.rg ?_;simp;try (refine hK _ rfl ?_;clear hK K)
   have hw:IntKind.i64.wrap (s*cc)=s*cc:=Qnz i8 hc2;refine AW.ret (Af (vs:=[.int .i64 (s*cc)]) [.int .i64 (s*cc)] (by simp[hw]) (by simp) ⟨⟨s*cc,rfl,?_,?_⟩,rfl⟩)
   ·have:a≠b:=fun h=>(p1 (fun h2=>hc (hc1.2 h2))) (i7.1 h);exact⟨fun h0=>absurd h0 (Qu1 i8 hc),fun h=>absurd h this⟩
   ·exact Qj8 i8 hc2
  ·refine AW.skip ?_;try simp
   refine⟨hc1.1 hc,?_⟩;rfl
 rintro _ hq;subst hq;have p2:=p2 rfl;obtain⟨t1,ht1⟩:∃t,t=decide (r1=0):=⟨_,rfl⟩;obtain⟨t2,ht2⟩:∃t,t=decide (r2=0):=⟨_,rfl⟩;rw[←ht1]at c4;rw[←ht2]at c5;have hne:(t1=true∨t2=true)→(a=b↔t1=true∧t2=true):=by
  intro h;rw[i7,p2,ht1,ht2]at *;simp only[decide_eq_true_eq]at h ⊢;constructor
  ·intro e;rcases h with h | h
   ·rw[h,Int.zero_mul]at e;refine⟨h,?_⟩;rcases Int.mul_eq_zero.1 e.symm with h' | h'
    ·exact h'
    ·omega
   ·rw[h,Int.zero_mul]at e;refine⟨?_,h⟩;rcases Int.mul_eq_zero.1 e with h' | h'
    ·exact h'
    ·omega
  ·rintro⟨h1,h2⟩;rw[h1,h2];simp
 have hsn:=Qo3 i8;refine AW.seq_ex (ι:=Unit) (fun _=>[(5,.ptr b5 2 0 0),(6,.ptr b6 2 0 0),(7,.ptr b7 2 0 0),(8,.ptr b8 2 0 0),(9,.int .i64 s),(11,.ptr b11 2 0 0),(14,.ptr b14 2 0 0)]) (fun _=>((((Ke b5 b6 b7 b8 ⟨x,y,u,v,s⟩).set b10 (C0 q1)).set b11 (C0 r1)).set b13 (C0 q1)).set b14 (C0 r2)) (fun _=>t1=false∧t2=false) ?_ ?_
 ·(repeat refine AW.seq ?_);refine AW.block ?_;refine AW.seq_ex (ι:=Unit) (fun _=>[(5,.ptr b5 2 0 0),(6,.ptr b6 2 0 0),(7,.ptr b7 2 0 0),(8,.ptr b8 2 0 0),(9,.int .i64 s),(11,.ptr b11 2 0 0),(14,.ptr b14 2 0 0),(53,.bool (t1&&t2))]) (fun _=>((((Ke b5 b6 b7 b8 ⟨x,y,u,v,s⟩).set b10 (C0 q1)).set b11 (C0 r1)).set b13 (C0 q1)).set b14 (C0 r2)) (fun _=>True) ?_ ?_
  ·cases t1
   ·(repeat refine AW.seq_k fun K hK=>?_);refine AW.rg ?_;simp[C0,Ke,hb5,hb6,hb7,hb8,hb10,hb11,hb13,hb14];try (refine hK _ rfl ?_;clear hK K)
    refine Aa.val c4 ?_;simp[hb5,hb6,hb7,hb8,hb10,hb11,hb13,hb14]
   ·(repeat refine AW.seq_k fun K hK=>?_);refine AW.rg ?_;simp[C0,Ke,hb5,hb6,hb7,hb8,hb10,hb11,hb13,hb14];try (refine hK _ rfl ?_;clear hK K)
    refine Aa.val c4 ?_;simp[hb5,hb6,hb7,hb8,hb10,hb11,hb13,hb14];refine Aa.val c5 ?_;simp[hb5,hb6,hb7,hb8,hb10,hb11,hb13,hb14]
  rintro _ -;cases h12:(t1&&t2)
  ·refine AW.no ?_ rfl;refine AW.seq_ex (ι:=Unit) (fun _=>[(5,.ptr b5 2 0 0),(6,.ptr b6 2 0 0),(7,.ptr b7 2 0 0),(8,.ptr b8 2 0 0),(9,.int .i64 s),(11,.ptr b11 2 0 0),(14,.ptr b14 2 0 0),(60,.bool t1)]) (fun _=>((((Ke b5 b6 b7 b8 ⟨x,y,u,v,s⟩).set b10 (C0 q1)).set b11 (C0 r1)).set b13 (C0 q1)).set b14 (C0 r2)) (fun _=>True) ?_ ?_
   ·(repeat refine AW.seq_k fun K hK=>?_);refine AW.rg ?_;simp[C0,Ke,hb5,hb6,hb7,hb8,hb10,hb11,hb13,hb14];try (refine hK _ rfl ?_;clear hK K)
    refine Aa.val c4 ?_;simp[hb5,hb6,hb7,hb8,hb10,hb11,hb13,hb14]
   rintro _ -;cases t1
   ·refine AW.no ?_ rfl;refine AW.seq_ex (ι:=Unit) (fun _=>[(5,.ptr b5 2 0 0),(6,.ptr b6 2 0 0),(7,.ptr b7 2 0 0),(8,.ptr b8 2 0 0),(9,.int .i64 s),(11,.ptr b11 2 0 0),(14,.ptr b14 2 0 0),(65,.bool t2)]) (fun _=>((((Ke b5 b6 b7 b8 ⟨x,y,u,v,s⟩).set b10 (C0 q1)).set b11 (C0 r1)).set b13 (C0 q1)).set b14 (C0 r2)) (fun _=>True) ?_ ?_
    ·(repeat refine AW.seq_k fun K hK=>?_);refine AW.rg ?_;simp[C0,Ke,hb5,hb6,hb7,hb8,hb10,hb11,hb13,hb14];try (refine hK _ rfl ?_;clear hK K)
     refine Aa.val c5 ?_;simp[hb5,hb6,hb7,hb8,hb10,hb11,hb13,hb14]
    rintro _ -;cases t2
    ·refine AW.no ?_ rfl;refine AW.skip ?_;try simp
    ·refine AW.yes ?_ rfl;(repeat refine AW.seq_k fun K hK=>?_);refine AW.rg ?_;simp;try (refine hK _ rfl ?_;clear hK K)
     refine AW.ret (Af (vs:=[.int .i64 s]) [.int .i64 s] (by simp) (by simp) ⟨⟨s,rfl,⟨fun h=>absurd h hsn.2.2.2,fun h=>?_⟩,?_⟩,rfl⟩)
     ·have:=(hne (.inr rfl)).1 h;simp at this
     ·rcases i8 with h|h<;>simp[h]
   ·refine AW.yes ?_ rfl;(repeat refine AW.seq_k fun K hK=>?_);refine AW.rg ?_;simp[hsn.1];try (refine hK _ rfl ?_;clear hK K)
    refine AW.ret (Af (vs:=[.int .i64 (-s)]) [.int .i64 (-s)] (by simp) (by simp) ⟨⟨-s,rfl,⟨fun h=>absurd h hsn.2.2.1,fun h=>?_⟩,?_⟩,rfl⟩)
    ·have:=(hne (.inl rfl)).1 h;rw[this.2]at h12;simp at h12
    ·rcases hsn.2.1 with h|h<;>simp[h]
  ·refine AW.yes ?_ rfl;(repeat refine AW.seq_k fun K hK=>?_);refine AW.rg ?_;simp;try (refine hK _ rfl ?_;clear hK K)
   have hb:t1=true∧t2=true:=by simpa using h12
   refine AW.ret (Af (vs:=[.int .i64 0]) [.int .i64 0] (by simp) (by simp) ⟨⟨0,rfl,⟨fun _=>(hne (.inl hb.1)).2 hb,fun _=>rfl⟩,.inr (.inl rfl)⟩,rfl⟩)
 rintro _ ⟨z1,z2⟩;rw[ht1]at z1;rw[ht2]at z2;have z1:r1≠0:=by simpa using z1
 have z2:r2≠0:=by simpa using z2
 clear ht1 ht2 hne c1 c2 c3 c4 c5;(repeat refine AW.seq_k fun K hK=>?_);refine AW.rdT [(6,b6),(11,b11),(8,b8),(14,b14),(5,b5),(7,b7)] [] [] [b6,b11,b8,b14] [0,1,2,3,4,5,6,7] Dm (by simp[C0,Ke,hb5,hb6,hb7,hb8,hb10,hb11,hb13,hb14]) (by simp[C0,Ke,hb5,hb6,hb7,hb8,hb10,hb11,hb13,hb14]) (by simp[C0,Ke,hb5,hb6,hb7,hb8,hb10,hb11,hb13,hb14]) (by simp[C0,Ke,hb5,hb6,hb7,hb8,hb10,hb11,hb13,hb14]) (by simp[C0,Ke,hb5,hb6,hb7,hb8,hb10,hb11,hb13,hb14]) ?_;simp[C0,Ke,hb5,hb6,hb7,hb8,hb10,hb11,hb13,hb14]
 try (refine hK _ rfl ?_;clear hK K)
 refine AW.turn [(5,.ptr b5 2 0 0),(6,.ptr b6 2 0 0),(7,.ptr b7 2 0 0),(8,.ptr b8 2 0 0),(9,.int .i64 s)] (Ke b5 b6 b7 b8 ⟨y,r1,v,r2,s⟩) (Bm.sub fun k z hz=>?_) (by simp) ?_
 ·unfold Ke C0 at hz;simp only[A9,Az]at hz;by_cases k8:k=b8
  ·subst k8;rw[if_pos rfl]at hz;cases hz;exact⟨by simp[hb5,hb6,hb7,hb8,hb10,hb11,hb13,hb14],by simp⟩
  rw[if_neg k8]at hz;by_cases k7:k=b7
  ·subst k7;rw[if_pos rfl]at hz;cases hz;exact⟨by simp[hb5,hb6,hb7,hb8,hb10,hb11,hb13,hb14],by simp⟩
  rw[if_neg k7]at hz;by_cases k6:k=b6
  ·subst k6;rw[if_pos rfl]at hz;cases hz;exact⟨by simp[hb5,hb6,hb7,hb8,hb10,hb11,hb13,hb14],by simp⟩
  rw[if_neg k6]at hz;by_cases k5:k=b5
  ·subst k5;rw[if_pos rfl]at hz;cases hz;exact⟨by simp[hb5,hb6,hb7,hb8,hb10,hb11,hb13,hb14],by simp⟩
  rw[if_neg k5]at hz;cases hz
 (repeat refine AW.seq_k fun K hK=>?_);refine AW.rg ?_;simp[hsn.1];try (refine hK _ rfl ?_;clear hK K)
 refine⟨⟨y,r1,v,r2,-s⟩,⟨Qhv f1.1 z1,Qhv f2.1 z2,i4,e3,i6,e4,?_,hsn.2.1⟩,Qp0 f1.1 f1.2,rfl,rfl⟩;rw[i7,p2];simp only;rw[Int.mul_comm y r2,Int.mul_comm v r1];exact eq_comm
theorem Qjt (a b:RR) (ha:a.Lb) (hb:b.Lb) (oa:a.ok=true) (ob:b.ok=true):Ak Tryz.prog 151 [a.av,b.av] Ac.emp fun v m=>(∃c:Int,v=.tup [.int .i64 c,.int .i64 0]∧(c=0↔a.q=b.q))∧m=Ac.emp:=by
 have hal:=Ve a b ha hb;rw[oa,ob]at hal;have hc:=Xp a.q b.q (Et ha oa).1 (Et hb ob).1;rw[←Ob ha oa,←Ob hb ob]at hc;unfold RR.av at *;refine Ad Tryz.func151 rfl rfl 14 rfl (Nat.le_of_ble_eq_true rfl) ?_;(repeat refine AW.seq_k fun K hK=>?_);refine AW.rgR [2,3] ?_;simp[Al];try (refine hK _ rfl ?_;clear hK K)
 (repeat refine AW.seq_k fun K hK=>?_);refine AW.rgR [8] ?_;simp;try (refine hK _ rfl ?_;clear hK K)
 refine Aa.val hal ?_;simp;refine hK _ rfl ?_;clear hK K;refine AW.no ?_ rfl;refine AW.skip ?_;try simp
 refine hK _ rfl ?_;clear hK K;(repeat refine AW.seq_k fun K hK=>?_);refine AW.rg ?_;simp;try (refine hK _ rfl ?_;clear hK K)
 refine Aa.pure hc ?_;rintro _ ⟨c,rfl,h1,h2⟩;simp;refine hK _ rfl ?_;clear hK K;exact AW.ret (Af (vs:=[.int .i64 c,.int .i64 0]) [.int .i64 c,.int .i64 0] (by simp) (by simp) ⟨⟨c,rfl,h1⟩,rfl⟩)
def symm (M:List (List Rat)) (n:Nat):Prop:=∀i,i<n→∀k,k<i→A6 M i k=A6 M k i
end Go.Av
end
section
namespace Go.Av
open Go.Proofs
def Tj (e:Int) (v:List RR) (Z:Option (List Rat)):Prop :=
 match Z with
 |some q=>e=0∧v=q.map Ar∧Ef q
 |none=>e=2
theorem Tj.to {e:Int} {v:List RR} {Z Z':Option (List Rat)} (h:Tj e v Z) (hZ:Z'=Z):Tj e v Z':=hZ ▸ h
theorem Tj.ok {e:Int} {v:List RR} {Z:Option (List Rat)} (h:Tj e v Z) (he:e=0) {k:Nat} (hk:k<v.length):(rr v k).ok=true:=by
 cases Z with
 |none=>have:e=2:=h;omega
 |some q =>
  obtain⟨_,rfl,m3⟩:e=0∧v=q.map Ar∧Ef q:=h;have hkq:k<q.length:=by simpa using hk
  rw[Gd hkq];refine D0 (m3 _ ?_);unfold Ba;rw[List.getD_eq_getElem?_getD,List.getElem?_eq_getElem hkq];exact List.getElem_mem hkq
theorem Ef.at {r:List Rat} (h:Ef r) {k:Nat} (hk:k<r.length):B0 (Ba r k):=by
 unfold Ba;rw[List.getD_eq_getElem?_getD,List.getElem?_eq_getElem hk];exact h _ (List.getElem_mem hk)
end Go.Av
end
section
namespace Go.Av
open Go.Proofs
theorem Qml {e:Int} {s:RR} {Z:Option Rat} (h:Qt e s Z) {a b:RR} {aq bq:Rat} (hab:e=0→a.q=aq∧b.q=bq) {e1:Int} {p:RR} (hp:Cp e a (Df a.q b.q)=(e1,p)) :
  Qt (Cp e1 s (Ej s.q p.q)).1 (Cp e1 s (Ej s.q p.q)).2 (Z.bind fun s=>(Df aq bq).bind (Ej s))∧(e1=0→e=0∧p.ok=true):=by
 cases Z with
 |none =>
  have he:e=2:=h;rw[Ib (by omega)]at hp;cases hp;rw[Ib (by omega)];exact⟨h,fun h=>by omega⟩
 |some q =>
  obtain⟨h1,rfl,h3⟩:e=0∧s=Ar q∧B0 q:=h;obtain⟨h4,h5⟩:=hab h1;rw[h4,h5]at hp;rw[F3];show Qt _ _ ((Df aq bq).bind (Ej q))∧_
  cases hm:Df aq bq with
  |none =>
   rw[hm,Kr h1]at hp;cases hp;rw[Ib (by omega)];exact⟨rfl,fun h=>by omega⟩
  |some m =>
   rw[hm,Iz h1]at hp;cases hp;rw[F3];refine⟨?_,fun _=>⟨h1,D0 (Qc0 hm)⟩⟩;show Qt _ _ (Ej q m)
   cases ha:Ej q m with
   |none=>rw[Kr rfl];rfl
   |some z=>rw[Iz rfl];exact⟨rfl,rfl,Qbm ha⟩
set_option maxHeartbeats 1000000
end Go.Av
end
section
namespace Go.Av
open Go.Proofs
structure Gk (M:Ac) (c B:Nat) (bs:List Nat) (rows:List (List RR)) (x:AV) (by_:Nat) (fs:List AV) (ov:AV) (ob:List Nat) (ws:List AV):Prop where
 red:Eg (M.only (c::B::bs)) c B bs rows x .nil [] []
 by':M by_=some ⟨51,1,fs⟩
 lst:Nf M 44 4 ov ob ws
 nby:by_ ∉ c::B::bs
 nob:∀b∈ob,b ∉ c::B::bs∧b≠by_
section
variable {M:Ac} {c B:Nat} {bs:List Nat} {rows:List (List RR)} {x:AV} {by_:Nat} {fs:List AV} {ov:AV} {ob:List Nat} {ws:List AV}
theorem Gk.cell (h:Gk M c B bs rows x by_ fs ov ob ws):M c=some ⟨118,1,[x]⟩:=by
 have:=h.red.cell;rwa [Ce (by simp)]at this
theorem Gk.top (h:Gk M c B bs rows x by_ fs ov ob ws):M B=some ⟨51,1,F0 bs rows⟩:=by
 have:=h.red.mat.top;rwa [Ce (by simp)]at this
theorem Gk.row (h:Gk M c B bs rows x by_ fs ov ob ws) {i:Nat} (hi:i<rows.length):M (nb bs i)=some ⟨44,4,Bo (Aj rows i)⟩:=by
 have:=h.red.mat.row i hi
 rwa [Ce (by simp[Ft (show i<bs.length by rw[h.red.mat.len];exact hi)])]at this
theorem Gk.back (h:Gk M c B bs rows x by_ fs ov ob ws) {g:Ac} {rows':List (List RR)} {x':AV} (hg:Eg g c B bs rows' x' .nil [] []):Gk (M.back (c::B::bs) g) c B bs rows' x' by_ fs ov ob ws:=by
 have ho:∀b,b ∉ c::B::bs→g b=none:=fun b hb=>by
  cases hx:g b with
  |none=>rfl
  |some y=>have:=hg.only b (by rw[hx];simp);exact absurd (by simpa using this) hb
 have e:(M.back (c::B::bs) g).only (c::B::bs)=g:=by
  funext b
  by_cases hb:b∈c::B::bs
  ·rw[Ce hb,Qgq hb]
  ·rw[B7 hb,ho b hb]
 exact⟨by rw[e];exact hg,by rw[Jc (ho _ h.nby) h.nby];exact h.by',h.lst.keep fun b hb=>Jc (ho b (h.nob b hb).1) (h.nob b hb).1,h.nby,h.nob⟩
theorem Lj {m:Ac} {l:List Nat} {b:Nat} (hb:b ∉ l) (y:Fb):(m.set b y).only l=m.only l:=by
 funext k
 by_cases hk:k∈l
 ·rw[Ce hk,Ce hk];simp only[A9];rw[if_neg (by rintro rfl;exact hb hk)]
 ·rw[B7 hk,B7 hk]
theorem Gk.push0 (h:Gk M c B bs rows x by_ fs .nil [] []) {b:Nat} (hb:M b=none) (v:AV):Gk (M.set b ⟨44,4,[v]⟩) c B bs rows x by_ fs (.osl b 4 0 1) [b] [v]:=by
 have h1:b ∉ c::B::bs:=by
  intro hm;have:(M.only (c::B::bs)) b=none:=by rw[Ce hm];exact hb
  obtain⟨f1,f2,f3,_⟩:=h.red.fresh this;simp[f1,f2,f3]at hm
 have h2:b≠by_:=by rintro rfl;rw[h.by']at hb;cases hb
 exact⟨by rw[Lj h1];exact h.red,by simp only[A9];rw[if_neg (Ne.symm h2)];exact h.by',.inr ⟨b,rfl,rfl,by simp⟩,h.nby,fun a ha=>by simp at ha;subst ha;exact⟨h1,h2⟩⟩
theorem Gk.push1 {b0:Nat} (h:Gk M c B bs rows x by_ fs (.osl b0 4 0 ws.length) [b0] ws) {b:Nat} (hb:(M.del b0) b=none) (v:AV):Gk ((M.del b0).set b ⟨44,4,ws++[v]⟩) c B bs rows x by_ fs (.osl b 4 0 (ws.length+1)) [b] (ws++[v]):=by
 obtain⟨k1,k2⟩:=h.nob b0 (by simp);have hh:Gk (M.del b0) c B bs rows x by_ fs .nil [] []:=by
  have hdel:∀a,a≠b0→(M.del b0) a=M a:=fun a ha=>if_neg ha;have e:(M.del b0).only (c::B::bs)=M.only (c::B::bs):=by
   funext a
   by_cases ha:a∈c::B::bs
   ·rw[Ce ha,Ce ha,hdel a (by rintro rfl;exact k1 ha)]
   ·rw[B7 ha,B7 ha]
  exact⟨by rw[e];exact h.red,by rw[hdel by_ (Ne.symm k2)];exact h.by',.inl ⟨rfl,rfl,rfl⟩,h.nby,by simp⟩
 have h1:b ∉ c::B::bs:=by
  intro hm;have:((M.del b0).only (c::B::bs)) b=none:=by rw[Ce hm];exact hb
  obtain⟨f1,f2,f3,_⟩:=hh.red.fresh this;simp[f1,f2,f3]at hm
 have h2:b≠by_:=by rintro rfl;rw[hh.by']at hb;cases hb
 exact⟨by rw[Lj h1];exact hh.red,by simp only[A9];rw[if_neg (Ne.symm h2)];exact hh.by',.inr ⟨b,rfl,by simp,by simp⟩,h.nby,fun a ha=>by simp at ha;subst ha;exact⟨h1,h2⟩⟩
theorem Eg.as_only {M:Ac} {c B:Nat} {bs:List Nat} {rows:List (List RR)} {x:AV} (h:Eg M c B bs rows x .nil [] []):Eg (M.only (c::B::bs)) c B bs rows x .nil [] []:=by
 rw[Qka (h.only.sub fun b hb=>by simpa using hb)];exact h
theorem Gk.start {x:AV} {by_:Nat} {fs:List AV} (h:Eg M c B bs rows x .nil [] []) (hb:M by_=none):Gk (M.set by_ ⟨51,1,fs⟩) c B bs rows x by_ fs .nil [] []:=by
 obtain⟨f1,f2,f3,_⟩:=h.fresh hb;have hn:by_ ∉ c::B::bs:=by simp[f1,f2,f3]
 exact⟨by rw[Lj hn];exact h.as_only,by simp,.inl ⟨rfl,rfl,rfl⟩,hn,by simp⟩
theorem Gk.store (h:Gk M c B bs rows x by_ fs ov ob ws) {e:Int} (hx:Fj x e) {bv n j:Nat} {form:List RR} (hb:M bv=none) (hl:form.length=n) (h1:∀v∈fs,v.cells.all AV.one=true) (h2:∀b y,M b=some y→∀v∈y.l,v.cells.all AV.one=true) (hj:j<fs.length) :
  Bm ((M.set bv ⟨44,4,Bo form⟩).set by_ ⟨51,1,fs.set j (.osl bv 4 0 n)⟩) (M.set by_ ⟨51,1,fs.set j (An form)⟩):=by
 have hne:by_≠bv:=by rintro rfl;rw[h.by']at hb;cases hb
 refine⟨fun b y hy=>?_⟩;simp only[A9]at hy;by_cases hby:b=by_
 ·rw[if_pos hby]at hy;cases hy;refine⟨⟨51,1,fs.set j (.osl bv 4 0 n)⟩,by simp[hby],rfl,rfl,by simp,fun k v v' q1 q2=>?_⟩;simp only[List.getElem?_set]at q1 q2;by_cases hk:j=k
  ·subst hk;rw[if_pos rfl,if_pos hj]at q1 q2;cases q1;cases q2;refine⟨Qcv (e:=44) (r:=form) (by simp[Ne.symm hne]) ?_ hl,rfl⟩;simp only[A9];rw[if_neg (Ne.symm hne)];exact hb
  ·rw[if_neg hk]at q1 q2;rw[q1]at q2;cases q2;exact⟨.same _,h1 v (List.mem_of_getElem? q1)⟩
 ·rw[if_neg hby]at hy;have hbv:b≠bv:=by rintro rfl;rw[hb]at hy;cases hy
  refine⟨y,?_,rfl,rfl,rfl,fun k v v' q1 q2=>?_⟩
  ·simp only[A9];rw[if_neg hby,if_neg hbv];exact hy
  ·rw[q1]at q2;cases q2;exact⟨.same _,h2 b y hy v (List.mem_of_getElem? q1)⟩
end
end Go.Av
end
section
namespace Go.Av
open Go.Proofs
def F4 (M:Ac):Prop:=∀b y,M b=some y→∀v∈y.l,v.cells.all AV.one=true
theorem F4.set {M:Ac} (h:F4 M) (b:Nat) {y:Fb} (hy:∀v∈y.l,v.cells.all AV.one=true):F4 (M.set b y):=by
 intro c z hz;simp only[A9]at hz;split at hz
 ·cases hz;exact hy
 ·exact h c z hz
theorem F4.del {M:Ac} (h:F4 M) (b:Nat):F4 (M.del b):=by
 intro c z hz;unfold Ac.del at hz;split at hz
 ·cases hz
 ·exact h c z hz
theorem Qev {q:Rat} (h:B0 q):(Ar q).l1.length<2^40∧(Ar q).l2.length<2^40:=by
 have h1:=Bi h.1;have h2:=Bi h.2;exact⟨Nat.lt_of_le_of_lt h1 (by omega),Nat.lt_of_le_of_lt h2 (by omega)⟩
theorem Qj2 {m g:Ac} {l:List Nat} (h1:∀b y,m b=some y→∀v∈y.l,v.cells.all AV.one=true) (h2:∀b y,g b=some y→∀v∈y.l,v.cells.all AV.one=true):∀b y,m.back l g b=some y→∀v∈y.l,v.cells.all AV.one=true:=by
 intro b y hy;unfold Ac.back at hy;cases hg:g b with
 |some z=>rw[hg]at hy;exact h2 b y (hg.trans hy)
 |none =>
  rw[hg]at hy;simp only at hy;split at hy
  ·cases hy
  ·exact h1 b y hy
set_option maxHeartbeats 2000000
end Go.Av
end
section
namespace Go.Av
open Go.Proofs
def Qm5 (p:Prop) (v:AV):Prop:=∃t:Bool,v=.bool t∧(t=true↔p)
theorem Zx {a b:List Nat} (h:a.length=b.length) (he:∀k,k<a.length→nth a k=nth b k):a=b:=by
 refine List.ext_getElem h fun k h1 h2=>?_;have:=he k h1;unfold nth at this
 rwa [List.getD_eq_getElem?_getD,List.getD_eq_getElem?_getD,List.getElem?_eq_getElem h1,List.getElem?_eq_getElem h2]at this
theorem Vk (n1 n2:Bool) (l1 l2:List Nat) (h1:l1.length<2^40):Ak Tryz.prog 71 [.agg [.bool n1,Ao l1],.agg [.bool n2,Ao l2]] Ac.emp fun v m=>Qm5 (n1=n2∧l1=l2) v∧m=Ac.emp:=by
 by_cases hn:n1=n2
 ·subst hn;by_cases hl:l1.length=l2.length
  ·refine Ad Tryz.func71 rfl rfl 38 rfl (Nat.le_of_ble_eq_true rfl) ?_;(repeat refine AW.seq_k fun K hK=>?_);refine AW.rgR [2,3] ?_;simp[Al];try (refine hK _ rfl ?_;clear hK K)
   (repeat refine AW.seq_k fun K hK=>?_);refine AW.rg ?_;simp[hl];try (refine hK _ rfl ?_;clear hK K)
   refine AW.no ?_ (by simp);refine AW.skip ?_;try simp
   refine hK _ rfl ?_;clear hK K;refine AW.seq_ex (ι:=Unit) (fun _=>[]) (fun _=>Ac.emp) (fun _=>l1=l2) ?_ ?_
   ·(repeat refine AW.seq_k fun K hK=>?_);refine AW.rg ?_;simp;try (refine hK _ rfl ?_;clear hK K)
    refine AW.block (AW.loopS (ι:=Nat) (fun i=>[(2,.rptr [.bool n1,Ao l1]),(3,.rptr [.bool n1,Ao l2]),(5,.int .i64 (i:Nat))]) (fun _=>Ac.emp) (fun i=>i≤l1.length∧∀k,k<i→nth l1 k=nth l2 k) (fun i=>l1.length-i) 0 ⟨by simp,by simp⟩ rfl (by simp) ?_);rintro i ⟨g1,g2⟩;(repeat refine AW.seq_k fun K hK=>?_);refine AW.rg ?_;simp;try (refine hK _ rfl ?_;clear hK K)
    (repeat refine AW.seq ?_);refine AW.cs (fun hi=>?_) (fun hi=>?_) rfl<;>(try simp at hi)
    ·refine AW.skip ?_;try simp
     refine hK _ rfl ?_;clear hK K;have hi2:i<l2.length:=by omega
     have w1:=Aq (i+1) (by omega);refine AW.seq_ex (ι:=Unit) (fun _=>[(2,.rptr [.bool n1,Ao l1]),(3,.rptr [.bool n1,Ao l2]),(5,.int .i64 (i:Nat))]) (fun _=>Ac.emp) (fun _=>nth l1 i=nth l2 i) ?_ ?_
     ·(repeat refine AW.seq ?_);refine AW.block ?_;(repeat refine AW.seq_k fun K hK=>?_);refine AW.rd [0,1,2,3,4,5,6,7,8,9,10] Dm ?_;simp[hi,hi2];try (refine hK _ rfl ?_;clear hK K)
      by_cases h0:nth l1 i=nth l2 i
      ·refine AW.no ?_ (by simp[h0]);exact AW.skip ⟨(),h0,by simp⟩
      ·refine AW.yes ?_ (by simp[h0]);(repeat refine AW.seq_k fun K hK=>?_);refine AW.rg ?_;simp;try (refine hK _ rfl ?_;clear hK K)
       exact AW.ret (Af (vs:=[.bool false]) [.bool false] (by simp) (by simp) ⟨⟨false,rfl,by simp;intro h;exact h0 (by rw[h])⟩,rfl⟩)
     rintro _ h0;(repeat refine AW.seq_k fun K hK=>?_);refine AW.rg ?_;simp[-Int.natCast_add,w1];try (refine hK _ rfl ?_;clear hK K)
     refine⟨⟨hi,fun k hk=>?_⟩,by omega⟩;rcases Nat.lt_succ_iff_lt_or_eq.1 hk with h | rfl
     ·exact g2 k h
     ·exact h0
    ·refine AW.exit ?_;try simp
     exact Zx hl fun k hk=>g2 k (by omega)
   rintro _ rfl;(repeat refine AW.seq_k fun K hK=>?_);refine AW.rg ?_;simp;try (refine hK _ rfl ?_;clear hK K)
   exact AW.ret (Af (vs:=[.bool true]) [.bool true] (by simp) (by simp) ⟨⟨true,rfl,by simp⟩,rfl⟩)
  ·refine Ad Tryz.func71 rfl rfl 38 rfl (Nat.le_of_ble_eq_true rfl) ?_;(repeat refine AW.seq_k fun K hK=>?_);refine AW.rgR [2,3] ?_;simp[Al];try (refine hK _ rfl ?_;clear hK K)
   (repeat refine AW.seq_k fun K hK=>?_);refine AW.rg ?_;simp[hl];try (refine hK _ rfl ?_;clear hK K)
   refine AW.yes ?_ (by simp);(repeat refine AW.seq_k fun K hK=>?_);refine AW.rg ?_;simp;try (refine hK _ rfl ?_;clear hK K)
   exact AW.ret (Af (vs:=[.bool false]) [.bool false] (by simp) (by simp) ⟨⟨false,rfl,by simp;intro h;exact hl (by rw[h])⟩,rfl⟩)
 ·refine Ad Tryz.func71 rfl rfl 38 rfl (Nat.le_of_ble_eq_true rfl) ?_;(repeat refine AW.seq_k fun K hK=>?_);refine AW.rgR [2,3] ?_;simp[Al];try (refine hK _ rfl ?_;clear hK K)
  (repeat refine AW.seq_k fun K hK=>?_);refine AW.rg ?_;simp[hn];try (refine hK _ rfl ?_;clear hK K)
  refine AW.yes ?_ (by simp);(repeat refine AW.seq_k fun K hK=>?_);refine AW.rg ?_;simp;try (refine hK _ rfl ?_;clear hK K)
  exact AW.ret (Af (vs:=[.bool false]) [.bool false] (by simp) (by simp) ⟨⟨false,rfl,by simp[hn]⟩,rfl⟩)
def Qw6 (a:RR):Prop:=a.l1.length<2^40∧a.l2.length<2^40
theorem Qjy (a b:RR) (h:Qw6 a):Ak Tryz.prog 33 [a.av,b.av] Ac.emp fun v m=>Qm5 (a=b) v∧m=Ac.emp:=by
 have i1:=Vk a.n1 b.n1 a.l1 b.l1 h.1;have i2:=Vk a.n2 b.n2 a.l2 b.l2 h.2;have hab:a=b↔(a.n1=b.n1∧a.l1=b.l1)∧(a.n2=b.n2∧a.l2=b.l2):=by
  obtain⟨x1,x2,x3,x4⟩:=a;obtain⟨y1,y2,y3,y4⟩:=b;simp only[RR.mk.injEq,and_assoc]
 unfold RR.av;refine Ad Tryz.func33 rfl rfl 17 rfl (Nat.le_of_ble_eq_true rfl) ?_;(repeat refine AW.seq_k fun K hK=>?_);refine AW.rgR [2,3] ?_;simp[Al];try (refine hK _ rfl ?_;clear hK K)
 (repeat refine AW.seq_k fun K hK=>?_);refine AW.rg ?_;simp;try (refine hK _ rfl ?_;clear hK K)
 refine Aa.pure i1 ?_;rintro _ ⟨t1,rfl,h1⟩;simp;cases t1
 ·simp;refine hK _ rfl ?_;clear hK K;exact AW.ret (Af (vs:=[.bool false]) [.bool false] (by simp) (by simp) ⟨⟨false,rfl,by simp only[Bool.false_eq_true,false_iff];intro h;have:=h1.2 (hab.1 h).1;cases this⟩,rfl⟩)
 ·simp;refine Aa.pure i2 ?_;rintro _ ⟨t2,rfl,h2⟩;simp;refine hK _ rfl ?_;clear hK K;exact AW.ret (Af (vs:=[.bool t2]) [.bool t2] (by simp) (by simp) ⟨⟨t2,rfl,by rw[h2,hab];exact⟨fun h=>⟨h1.1 rfl,h⟩,fun h=>h.2⟩⟩,rfl⟩)
end Go.Av
end
section
namespace Go.Av
open Go.Proofs
theorem T5 (X:List (List Rat)):Pj (Be X)=X:=by
 unfold Pj Be;rw[List.map_map]
 conv=>rhs;rw[←List.map_id X]
 refine List.map_congr_left fun r _=>?_;show(r.map Ar).map RR.q=r
 rw[List.map_map]
 conv=>rhs;rw[←List.map_id r]
 exact List.map_congr_left fun q _=>F3 q
theorem Ql {n w:Nat} {X:List (List Rat)} (h:Bf n w X) (hw:(Aj X 0).length=w) (h1:n≤64) (h2:w≤64):Sx (Be X)=0:=by
 refine Qna ?_ ?_
 ·rintro(h'|⟨k,hk,h'⟩)
  ·rw[A3,h.2.2]at h';omega
  ·rw[A3,h.2.2]at hk;rw[Bw,List.length_map,(h.row hk).2]at h';omega
 ·intro k hk;rw[A3,h.2.2]at hk;rw[Bw,Bw,List.length_map,List.length_map,(h.row hk).2,hw];refine⟨rfl,fun j hj=>?_⟩;have hjl:j<(Aj X k).length:=by rw[(h.row hk).2];exact hj
  rw[Gd hjl];exact D0 ((h.row hk).1.at hjl)
set_option maxHeartbeats 1000000
end Go.Av
end
section
namespace Go.Av
open Go.Proofs
def Qju (M:Ac) (B:Nat) (bs:List Nat) (X:List (List Rat)):Prop:=Fa M B bs (Be X)∧D4 M (B::bs)
theorem Qju.ones {M:Ac} {B:Nat} {bs:List Nat} {X:List (List Rat)} (h:Qju M B bs X):F4 M:=h.1.ones (l:=[]) h.2 (by simp)
theorem Qju.setRow {M:Ac} {B:Nat} {bs:List Nat} {X:List (List Rat)} (h:Qju M B bs X) {i:Nat} (hi:i<X.length) {r:List Rat} (hr:r.length=(Aj X i).length):Qju (M.set (nb bs i) ⟨44,4,Bo (r.map Ar)⟩) B bs (X.set i r):=by
 refine⟨?_,h.2.set ?_ _⟩
 ·rw[Pq];exact h.1.setRow (by rw[A3];exact hi) _ (by rw[Bw,List.length_map,List.length_map,hr])
 ·exact List.mem_cons_of_mem _ (Ft (by rw[h.1.len,A3];exact hi))
set_option maxHeartbeats 1000000
end Go.Av
end
section
namespace Go.Av
open Go.Proofs
theorem Fa.snoc {M':Ac} {B:Nat} {bs:List Nat} {rows:List (List RR)} {b:Nat} {r:List RR} (hl:bs.length=rows.length) (htop:M' B=some ⟨51,1,F0 bs rows++[.osl b 4 0 r.length]⟩) (hrow:∀i,i<rows.length→M' (nb bs i)=some ⟨44,4,Bo (Aj rows i)⟩) (hb:M' b=some ⟨44,4,Bo r⟩) (hnd:bs.Nodup) (hbb:b ∉ bs) (hB:B ∉ bs) (hBb:B≠b):Fa M' B (bs++[b]) (rows++[r]):=by
 refine⟨by rw[Xv hl];exact htop,by simp[hl],fun i hi=>?_,?_,?_⟩
 ·have hi':i<rows.length+1:=by simpa using hi
  rw[Qg8 bs b i (by rw[hl];exact hi'),Rc rows r i hi',hl];by_cases hlt:i<rows.length
  ·rw[if_pos hlt,if_pos hlt];exact hrow i hlt
  ·rw[if_neg hlt,if_neg hlt];exact hb
 ·rw[List.nodup_append];exact⟨hnd,by simp,fun x hx y hy=>by simp at hy;subst hy;exact fun e=>hbb (e ▸ hx)⟩
 ·simp only[List.mem_append,List.mem_singleton,not_or];exact⟨hB,hBb⟩
end Go.Av
end
section
namespace Go.Av
open Go.Proofs
structure Pb (M:Ac) (B:Nat) (bs:List Nat) (X:List (List Rat)) (pv:AV) (pb ps:List Nat):Prop where
 mat:Fa M B bs (Be X)
 piv:Qar M pv pb ps
 npb:∀b∈pb,b ∉ B::bs
 ones:F4 M
section
variable {M:Ac} {B:Nat} {bs:List Nat} {X:List (List Rat)} {pv:AV} {pb ps:List Nat}
theorem Pb.back (h:Pb M B bs X pv pb ps) {g:Ac} {X':List (List Rat)} (hg:Qju g B bs X'):Pb (M.back (B::bs) g) B bs X' pv pb ps :=
 ⟨hg.1.back _,h.piv.keep fun b hb=>Jc (hg.2.none (h.npb b hb)) (h.npb b hb),h.npb,Qj2 h.ones hg.ones⟩
theorem Pb.swap (h:Pb M B bs X pv pb ps) {i r:Nat} (hi:i<X.length) (hr:r<X.length) :
  Pb (M.set B ⟨51,1,((F0 bs (Be X)).set i (.osl (nb bs r) 4 0 (Aj (Be X) r).length)).set r (.osl (nb bs i) 4 0 (Aj (Be X) i).length)⟩) B (Gp bs i r) (Cg X i r) pv pb ps:=by
 have hiE:i<(Be X).length:=by rw[A3];exact hi
 have hrE:r<(Be X).length:=by rw[A3];exact hr
 have hb:∀b,b∈Gp bs i r↔b∈bs:=fun b=>Nm (by rw[h.mat.len];exact hiE) (by rw[h.mat.len];exact hrE) b;refine⟨by rw[Qax];exact h.mat.swap hiE hrE,h.piv.keep fun b hb'=>?_,fun b hb'=>?_,F4.set h.ones B fun v hv=>?_⟩
 ·simp only[A9];rw[if_neg (by rintro rfl;exact h.npb _ hb' (by simp))]
 ·have:=h.npb b hb';simpa[hb]using this
 ·rcases List.mem_or_eq_of_mem_set hv with hv|rfl
  ·rcases List.mem_or_eq_of_mem_set hv with hv|rfl
   ·exact Yi bs (Be X) v hv
   ·rfl
  ·rfl
theorem Pb.fresh (h:Pb M B bs X pv pb ps) {b:Nat} (hb:M b=none):b ∉ B::bs:=by
 intro hm;rcases List.mem_cons.1 hm with rfl | hm
 ·rw[h.mat.top]at hb;cases hb
 ·obtain⟨k,hk,e⟩:=List.mem_iff_getElem.1 hm;rw[←Jp hk]at e;have:=h.mat.row k (by rw[←h.mat.len];exact hk);rw[e,hb]at this;cases this
theorem Pb.push0 (h:Pb M B bs X .nil [] []) {b:Nat} (hb:M b=none) (j:Nat):Pb (M.set b ⟨3,1,[.int .i64 (j:Nat)]⟩) B bs X (.osl b 1 0 1) [b] [j]:=by
 have hn:=h.fresh hb;have h1:b≠B:=fun e=>hn (by simp[e]);have h2:b ∉ bs:=fun e=>hn (by simp[e]);exact⟨h.mat.other h1 h2 _,.inr ⟨b,rfl,rfl,by simp[A0]⟩,fun a ha=>by simp at ha;subst ha;exact hn,h.ones.set b fun v hv=>by simp at hv;subst hv;rfl⟩
theorem Pb.push1 {b0:Nat} (h:Pb M B bs X (.osl b0 1 0 ps.length) [b0] ps) {b:Nat} (hb:(M.del b0) b=none) (j:Nat):Pb ((M.del b0).set b ⟨3,1,A0 ps++[.int .i64 (j:Nat)]⟩) B bs X (.osl b 1 0 (ps.length+1)) [b] (ps++[j]):=by
 have h0:=h.npb b0 (by simp);have hh:Pb (M.del b0) B bs X .nil [] []:=by
  have hdel:∀a,a≠b0→(M.del b0) a=M a:=fun a ha=>if_neg ha;refine⟨⟨by rw[hdel B (by rintro rfl;exact h0 (by simp))];exact h.mat.top,h.mat.len,fun i hi=>?_,h.mat.nd,h.mat.nB⟩,.inl ⟨rfl,rfl,rfl⟩,by simp,h.ones.del b0⟩;rw[hdel _ (fun e=>h0 (e ▸ List.mem_cons_of_mem _ (Ft (by rw[h.mat.len];exact hi))))];exact h.mat.row i hi
 have hn:=hh.fresh hb;have h1:b≠B:=fun e=>hn (by simp[e]);have h2:b ∉ bs:=fun e=>hn (by simp[e]);refine⟨hh.mat.other h1 h2 _,.inr ⟨b,rfl,by simp,by simp[E1]⟩,fun a ha=>by simp at ha;subst ha;exact hn,hh.ones.set b fun v hv=>?_⟩;rcases List.mem_append.1 hv with hv | hv
 ·exact C7 ps v hv
 ·simp at hv;subst hv;rfl
end
set_option maxHeartbeats 1000000
end Go.Av
end
section
namespace Go.Av
open Go.Proofs
def Qp4 (n:Nat) (v:AV) (M:Ac):Prop:=(n=0∧v=.nil∧M=Ac.emp)∨∃b,v=.osl b 4 0 n∧M=Ac.emp.set b ⟨44,4,Bo (List.replicate n (Ar 0))⟩
structure Fo (M:Ac) (ty:TypeId) (z:Nat) (ov:AV) (ob:List Nat) (l:List AV):Prop where
 lst:Nf M ty z ov ob l
 only:D4 M ob
section
variable {M:Ac} {ov:AV} {ty:TypeId} {z:Nat} {ob:List Nat} {l:List AV}
theorem Fo.start (ty:TypeId) (z:Nat):Fo Ac.emp ty z .nil [] []:=⟨.inl ⟨rfl,rfl,rfl⟩,fun _ h=>absurd rfl h⟩
theorem Fo.ones (h:Fo M ty z ov ob l) (hl:∀v∈l,v.cells.all AV.one=true):F4 M:=by
 intro b y hy;have hb:=h.only b (by rw[hy];simp);rcases h.lst with⟨_,h1,_⟩ | ⟨b',h1,_,h3⟩
 ·rw[h1]at hb;cases hb
 ·rw[h1]at hb;simp at hb;subst hb;rw[h3]at hy;cases hy;exact hl
theorem Fo.push0 (h:Fo M ty z .nil [] []) (b:Nat) (v:AV):Fo (M.set b ⟨ty,z,[v]⟩) ty z (.osl b z 0 1) [b] [v] :=
 ⟨.inr ⟨b,rfl,rfl,by simp⟩,(h.only.sub fun a ha=>by cases ha).set (by simp) _⟩
theorem Fo.push1 {b0:Nat} (h:Fo M ty z (.osl b0 z 0 l.length) [b0] l) (b:Nat) (v:AV):Fo ((M.del b0).set b ⟨ty,z,l++[v]⟩) ty z (.osl b z 0 (l.length+1)) [b] (l++[v]):=by
 refine⟨.inr ⟨b,rfl,by simp,by simp⟩,D4.set (l:=[b]) (fun a ha=>?_) (by simp) _⟩;by_cases h1:a=b0
 ·subst h1;exact absurd (if_pos rfl) ha
 ·have e:(M.del b0) a=M a:=if_neg h1;rw[e]at ha;have:=h.only a ha;simp at this;exact absurd this h1
end
structure J1 where
 M:Ac
 ov:AV
 ob:List Nat
theorem Pf (X:List (List Rat)):∀v∈(Be X).map An,v.cells.all AV.one=true:=by
 intro v hv;obtain⟨r,_,rfl⟩:=List.mem_map.1 hv;rfl
end Go.Av
end
section
namespace Go.Av
open Go.Proofs
def Ju (r:List Rat) (b:List (List Rat)) (j k:Nat) (s:Rat):Option Rat:=(Df (Ba r k) (A6 b k j)).bind (Ej s)
def U1 (r:List Rat) (b:List (List Rat)) (j:Nat):Option Rat:=Aw (Ju r b j) b.length 0
def Gi (r:List Rat) (b:List (List Rat)) (j:Nat) (acc:List Rat):Option (List Rat):=(U1 r b j).map fun x=>acc++[x]
def K2 (a b:List (List Rat)) (w i:Nat) (acc:List (List Rat)):Option (List (List Rat)):=(Aw (Gi (Aj a i) b) w []).map fun r=>acc++[r]
def O4 (a b:List (List Rat)):Option (List (List Rat)):=Aw (K2 a b (Aj b 0).length) a.length []
noncomputable def Tn (a b:List (List RR)):Int × List (List Rat) :=
 if Sx a≠0 then (Sx a,[]) else if Sx b≠0 then (Sx b,[]) else if (Aj a 0).length≠b.length then (1,[]) else
 match O4 (Pj a) (Pj b)with
 |none=>(2,[])
 |some Y=>(0,Y)
theorem Qma {r:List Rat} {b:List (List Rat)} {j:Nat}:∀{k:Nat} {q:Rat},Aw (Ju r b j) k 0=some q→B0 q
 |0,q,h=>by cases h;exact Hf
 |k+1,q,h=>by
  rw[Bq]at h;cases hs:Aw (Ju r b j) k 0 with
  |none=>rw[hs]at h;cases h
  |some s =>
   rw[hs]at h;replace h:(Df (Ba r k) (A6 b k j)).bind (Ej s)=some q:=h;cases hm:Df (Ba r k) (A6 b k j)with
   |none=>rw[hm]at h;cases h
   |some m=>rw[hm]at h;exact Qbm h
theorem K1 {r:List Rat} {b:List (List Rat)}:∀{j:Nat} {acc:List Rat},Aw (Gi r b) j []=some acc→acc.length=j∧Ef acc
 |0,acc,h=>by cases h;exact⟨rfl,fun q hq=>(by cases hq)⟩
 |j+1,acc,h=>by
  rw[Bq]at h;cases hs:Aw (Gi r b) j []with
  |none=>rw[hs]at h;cases h
  |some a0 =>
   rw[hs]at h;obtain⟨h1,h2⟩:=K1 hs;replace h:(U1 r b j).map (fun x=>a0++[x])=some acc:=h;cases he:U1 r b j with
   |none=>rw[he]at h;cases h
   |some x =>
    rw[he]at h;cases h;refine⟨by simp[h1],fun q hq=>?_⟩;rcases List.mem_append.1 hq with hq | hq
    ·exact h2 q hq
    ·simp at hq;subst hq;exact Qma he
theorem Qz {a b:List (List Rat)} {w:Nat}:∀{i:Nat} {Y:List (List Rat)},Aw (K2 a b w) i []=some Y→Bf i w Y
 |0,Y,h=>by cases h;exact⟨fun r hr=>(by cases hr),fun i hi=>(by cases hi),rfl⟩
 |i+1,Y,h=>by
  rw[Bq]at h;cases hs:Aw (K2 a b w) i []with
  |none=>rw[hs]at h;cases h
  |some Y0 =>
   rw[hs]at h;obtain⟨h1,h2,h3⟩:=Qz hs;replace h:(Aw (Gi (Aj a i) b) w []).map (fun r=>Y0++[r])=some Y:=h;cases he:Aw (Gi (Aj a i) b) w []with
   |none=>rw[he]at h;cases h
   |some r =>
    rw[he]at h;cases h;obtain⟨k1,k2⟩:=K1 he;refine⟨fun x hx=>?_,fun i hi=>?_,by simp[h3]⟩
    ·rcases List.mem_append.1 hx with hx|hx
     ·exact h1 x hx
     ·simp at hx;subst hx;exact k2
    ·rw[Rc Y0 r i (by simpa using hi)];split
     ·exact h2 i (by assumption)
     ·exact k1
theorem Qvb {acc:List Rat} {j n:Nat} (h:acc.length=j) (hn:j<n):rr ((acc++List.replicate (n-j) 0).map Ar) j=Ar 0:=by
 rw[Gd (by simp;omega)]
 congr 1
 unfold Ba;rw[List.getD_eq_getElem?_getD,List.getElem?_append_right (by omega),h,Nat.sub_self,List.getElem?_replicate,if_pos (by omega)];rfl
theorem Qhf {acc:List Rat} {j n:Nat} (h:acc.length=j) (hn:j<n) (q:Rat):(acc++List.replicate (n-j) 0).set j q=acc++[q]++List.replicate (n-(j+1)) 0:=by
 rw[List.set_append_right _ _ (by omega),h,Nat.sub_self,show n-j=(n-(j+1))+1 by omega,List.replicate_succ,List.set_cons_zero,List.append_assoc];rfl
theorem Qt0 {v:List RR} {j:Nat} (h:j<v.length):v.set j (rr v j)=v:=by rw[Ja h,List.set_getElem_self]
def TM (M:Ac) (c B bv:Nat) (x:AV) (v:List RR) (H:List AV):Ac:=((M.set c ⟨118,1,[x]⟩).set bv ⟨44,4,Bo v⟩).set B ⟨51,1,H⟩
section
variable {M:Ac} {c B bv:Nat} {x x':AV} {v v':List RR} {H:List AV}
theorem Q1d (h1:c≠B) (h2:c≠bv):(TM M c B bv x v H).set c ⟨118,1,[x']⟩=TM M c B bv x' v H:=by
 unfold TM;funext k;simp only[A9];by_cases e:k=c
 ·subst e;simp[h1,h2]
 ·simp[e]
theorem Q3s (h1:bv≠B):(TM M c B bv x v H).set bv ⟨44,4,Bo v'⟩=TM M c B bv x v' H:=by
 unfold TM;funext k;simp only[A9];by_cases e:k=bv
 ·subst e;simp[h1]
 ·simp[e]
theorem Qqi (h1:c≠B) (h2:c≠bv) (h3:bv≠B):TM M c B bv x v H=((M.set bv ⟨44,4,Bo v⟩).set B ⟨51,1,H⟩).set c ⟨118,1,[x]⟩:=by
 unfold TM;funext k;simp only[A9];by_cases e:k=c
 ·subst e;simp[h1,h2]
 ·simp[e]
theorem Ss (h1:c≠B) (h2:c≠bv) (h3:bv≠B):TM M c B bv x v H c=some ⟨118,1,[x]⟩∧TM M c B bv x v H bv=some ⟨44,4,Bo v⟩∧TM M c B bv x v H B=some ⟨51,1,H⟩:=by
 unfold TM;simp[h1,h2,h3]
end
structure Qpp where
 M:Ac
 bs:List Nat
 Y:List (List Rat)
 x:AV
def Qur (c B:Nat) (a b:List (List Rat)) (w n i:Nat) (s:Qpp):Prop :=
 Aw (K2 a b w) i []=some s.Y∧Qda s.M B s.bs (Be s.Y) (n-i)∧s.M c=none∧Fj s.x 0
set_option maxHeartbeats 1000000
theorem Qcq (a b:List (List RR)) (ha:Zf a) (hb:Zf b):Ak Tryz.prog 76 [Au a,Au b] Ac.emp fun v mm=>v=.tup [Au (Be (Tn a b).2),.int .i64 (Tn a b).1]∧mm=Ac.emp:=by
 have hca:=O7 a ha;have hcb:=O7 b hb;have hwa:=Lr a;have hwb:=Lr b;by_cases h0:Sx a=0
 ·rw[h0]at hca;by_cases h1:Sx b=0
  ·rw[h1]at hcb;by_cases h2:(Aj a 0).length=b.length
   ·have hT:Tn a b=match O4 (Pj a) (Pj b)with
     |none=>(2,[])
     |some Y=>(0,Y):=by unfold Tn;rw[if_neg (by simp[h0]),if_neg (by simp[h1]),if_neg (by simp[h2])]<;>rfl
    rw[hT];clear hT;obtain⟨a1,a2,a3,a4,a5⟩:=T8 ha h0;obtain⟨b1,b2,b3,b4,b5⟩:=T8 hb h1;have hla:=Hi a;have hlb:=Hi b;have ea:(Aj (Pj a) 0).length=(Aj a 0).length:=by rw[Jv,List.length_map]
    have eb:(Aj (Pj b) 0).length=(Aj b 0).length:=by rw[Jv,List.length_map]
    have hq:O4 (Pj a) (Pj b)=Aw (K2 (Pj a) (Pj b) (Aj b 0).length) a.length []:=by unfold O4;rw[eb,hla]
    rw[ea]at a3 a5;rw[eb]at b3 b5;rw[h2]at hwa a3;rw[hq];generalize(Aj b 0).length=w at *;generalize Pj a=A at *;generalize Pj b=N at *;subst a1 b1;rw[A3]at *;generalize hn:A.length=n at *;generalize hm:N.length=m at *;have hz:=Tf w (by omega);refine Ad Tryz.func76 rfl rfl 101 rfl (Nat.le_of_ble_eq_true rfl) ?_;(repeat refine AW.seq_k fun K hK=>?_);refine AW.rg ?_;simp[Al];try (refine hK _ rfl ?_;clear hK K)
    (repeat refine AW.seq_k fun K hK=>?_);refine AW.rg ?_;simp;try (refine hK _ rfl ?_;clear hK K)
    refine Aa.val hca ?_;simp;refine hK _ rfl ?_;clear hK K;(repeat refine AW.seq_k fun K hK=>?_);refine AW.rg ?_;simp;try (refine hK _ rfl ?_;clear hK K)
    refine AW.no ?_ rfl;refine AW.skip ?_;try simp
    refine hK _ rfl ?_;clear hK K;(repeat refine AW.seq_k fun K hK=>?_);refine AW.rg ?_;simp;try (refine hK _ rfl ?_;clear hK K)
    refine Aa.val hcb ?_;simp;refine hK _ rfl ?_;clear hK K;(repeat refine AW.seq_k fun K hK=>?_);refine AW.rg ?_;simp;try (refine hK _ rfl ?_;clear hK K)
    refine AW.no ?_ rfl;refine AW.skip ?_;try simp
    refine hK _ rfl ?_;clear hK K;(repeat refine AW.seq_k fun K hK=>?_);refine AW.rg ?_;simp;try (refine hK _ rfl ?_;clear hK K)
    refine Aa.val hwa ?_;simp[A3,hm];refine hK _ rfl ?_;clear hK K;refine AW.no ?_ rfl;refine AW.skip ?_;try simp
    refine hK _ rfl ?_;clear hK K;(repeat refine AW.seq_k fun K hK=>?_);refine AW.rg ?_;simp;try (refine hK _ rfl ?_;clear hK K)
    refine Ae.intro fun c _=>?_;refine hK _ rfl ?_;clear hK K;(repeat refine AW.seq_k fun K hK=>?_);refine AW.rg ?_;simp[A3,hn];try (refine hK _ rfl ?_;clear hK K)
    refine⟨by omega,Ae.intro fun B hB=>?_⟩;refine hK _ rfl ?_;clear hK K;have hcB:c≠B:=by rintro rfl;simp at hB
    refine AW.seq_ex (ι:=Qpp) (fun s=>[(9,.osl B 1 0 n)]) (fun s=>s.M.set c ⟨118,1,[s.x]⟩) (fun s=>Qur c B A N w n n s) ?_ ?_
    ·(repeat refine AW.seq_k fun K hK=>?_);refine AW.rg ?_;simp[A3,hn];try (refine hK _ rfl ?_;clear hK K)
     refine AW.block (AW.loopS (ι:=Nat × Qpp) (fun z=>[(0,Au (Be A)),(1,Au (Be N)),(8,.ptr c 1 0 0),(9,.osl B 1 0 n),(34,.int .i64 (n:Nat)),(35,.int .i64 (z.1:Nat))]) (fun z=>z.2.M.set c ⟨118,1,[z.2.x]⟩) (fun z=>z.1≤n∧Qur c B A N w n z.1 z.2) (fun z=>n-z.1) (0,⟨Ac.emp.set B ⟨51,1,List.replicate n .nil⟩,[],[],.agg [.int .i64 0]⟩) ⟨by simp,rfl,⟨by simp[F0,Be],rfl,fun i hi=>(by simp[Be]at hi),by simp,by simp,fun b hb=>by
      simp only[A9,Az]at hb;by_cases h:b=B
      ·simp[h]
      ·simp[h]at hb⟩,by simp[hcB],rfl⟩ ?_ (by simp) ?_)
     ·simp only
      funext k
      simp only[A9];by_cases e:k=c
      ·subst e;simp[hcB]
      ·simp[e]
     rintro⟨i,M,bs,Y,x⟩ ⟨g1,g2,g3,g4,g5⟩;simp only at g1 g2 g3 g4 g5;simp only;(repeat refine AW.seq_k fun K hK=>?_);refine AW.rg ?_;simp;try (refine hK _ rfl ?_;clear hK K)
     (repeat refine AW.seq ?_);refine AW.cs (fun hi=>?_) (fun hi=>?_) rfl<;>(try simp at hi)
     ·refine AW.skip ?_;try simp
      have w1:=Aq (i+1) (by omega);have hst:Aw (K2 A N w) (i+1) []=(Aw (Gi (Aj A i) N) w []).map fun r=>Y++[r]:=by rw[Bq,g2];rfl
      obtain⟨_,_,hYl⟩:=Qz g2;refine AW.seq_ex (ι:=Qpp) (fun s=>[(0,Au (Be A)),(1,Au (Be N)),(8,.ptr c 1 0 0),(9,.osl B 1 0 n),(34,.int .i64 (n:Nat)),(35,.int .i64 (i:Nat))]) (fun s=>s.M.set c ⟨118,1,[s.x]⟩) (fun s=>Qur c B A N w n (i+1) s) ?_ ?_
      ·(repeat refine AW.seq ?_);refine AW.block ?_;(repeat refine AW.seq_k fun K hK=>?_);refine AW.rg ?_;simp;try (refine hK _ rfl ?_;clear hK K)
       (repeat refine AW.seq_k fun K hK=>?_);refine AW.rg ?_;simp;try (refine hK _ rfl ?_;clear hK K)
       refine Aa.val hwb ?_;simp;refine Aa.make hz ?_;rintro bv _ _ ⟨rfl,rfl⟩ hbv _;simp only[Am,Az,and_true]at hbv;obtain⟨⟨v1,v2⟩,v3⟩:=hbv;have hbB:bv≠B:=by rintro rfl;rw[g3.top]at v3;cases v3
       have hhl:(F0 bs (Be Y)).length=i:=by rw[Dc g3.len,A3,hYl]
       have htop:=g3.top;have hni:n-i=n-(i+1)+1:=by omega
       have hH0:(F0 bs (Be Y)++List.replicate (n-i) AV.nil)[i]?=some .nil:=by
        rw[List.getElem?_append_right (by omega),hhl,Nat.sub_self,List.getElem?_replicate,if_pos (by omega)]
       have hH:((F0 bs (Be Y)++List.replicate (n-i) AV.nil).set i (.osl bv 4 0 w))[i]?=some (.osl bv 4 0 w):=by
        rw[List.getElem?_set_self (by simp[hhl];omega)]
       have hstep:∀r:List RR,r.length=w→Qda ((M.set bv ⟨44,4,Bo r⟩).set B ⟨51,1,(F0 bs (Be Y)++List.replicate (n-i) AV.nil).set i (.osl bv 4 0 w)⟩) B (bs++[bv]) (Be Y++[r]) (n-(i+1)):=by
        intro r hr;rw[hni]at g3 ⊢;have:=g3.step v3 r;rw[A3,hYl,hr]at this;exact this
       generalize F0 bs (Be Y)++List.replicate (n-i) AV.nil=H0 at *;simp[hi,hcB,Ne.symm hcB,hbB,Ne.symm hbB,htop,hH0];refine hK _ rfl ?_;clear hK K;generalize H0.set i (.osl bv 4 0 w)=H at *;change AW _ _ _ (S 101 _ (TM M c B bv x (List.replicate w (Ar 0)) H));have v2':c≠bv:=v2;have hai:i<A.length:=by omega
       have hra:(Aj A i).length=m:=by rw[a3 i hai]
       have hraE:(Aj (Be A) i).length=m:=by rw[Bw,List.length_map,hra]
       refine AW.seq_ex (ι:=AV × Int × List RR) (fun _=>[(0,Au (Be A)),(1,Au (Be N)),(8,.ptr c 1 0 0),(9,.osl B 1 0 n),(10,.int .i64 (i:Nat)),(34,.int .i64 (n:Nat)),(35,.int .i64 (i:Nat))]) (fun z=>TM M c B bv z.1 z.2.2 H) (fun z=>Fj z.1 z.2.1∧(∀y∈z.2.2,y.Lb)∧z.2.2.length=w∧Tj z.2.1 z.2.2 (Aw (Gi (Aj A i) N) w [])) ?_ ?_
       ·(repeat refine AW.seq_k fun K hK=>?_);refine AW.rg ?_;simp[hi,(Ss hcB v2' hbB).2.2,hH];try (refine hK _ rfl ?_;clear hK K)
        refine AW.block (AW.loopS (ι:=Nat × AV × Int × List RR) (fun z=>[(0,Au (Be A)),(1,Au (Be N)),(8,.ptr c 1 0 0),(9,.osl B 1 0 n),(10,.int .i64 (i:Nat)),(34,.int .i64 (n:Nat)),(35,.int .i64 (i:Nat)),(48,.int .i64 w),(49,.int .i64 (z.1:Nat))]) (fun z=>TM M c B bv z.2.1 z.2.2.2 H) (fun z=>z.1≤w∧Fj z.2.1 z.2.2.1∧(∀y∈z.2.2.2,y.Lb)∧z.2.2.2.length=w∧Tj z.2.2.1 z.2.2.2 ((Aw (Gi (Aj A i) N) z.1 []).map fun acc=>acc++List.replicate (w-z.1) 0)) (fun z=>w-z.1) (0,x,0,List.replicate w (Ar 0)) ⟨by simp,g5,?_,by simp,rfl,by simp[Aw],?_⟩ rfl (by simp) ?_)
        ·intro y hy;rw[List.eq_of_mem_replicate hy];exact Eb 0
        ·intro q hq;simp[Aw]at hq;rw[hq.2];exact Hf
        rintro⟨j,x,e,v⟩ ⟨q1,q2,q3,q4,q5⟩;simp only at q1 q2 q3 q4 q5;simp only;(repeat refine AW.seq_k fun K hK=>?_);refine AW.rg ?_;simp;try (refine hK _ rfl ?_;clear hK K)
        (repeat refine AW.seq ?_);refine AW.cs (fun hj=>?_) (fun hj=>?_) rfl<;>(try simp at hj)
        ·refine AW.skip ?_;try simp
         have w2:=Aq (j+1) (by omega);have hj1:Aw (Gi (Aj A i) N) (j+1) []=(Aw (Gi (Aj A i) N) j []).bind (Gi (Aj A i) N j):=rfl;generalize hZ:Aw (Gi (Aj A i) N) j []=Z at *;have hZl:∀acc,Z=some acc→acc.length=j:=fun acc h=>by rw[h]at hZ;exact(K1 hZ).1
         refine AW.seq_ex (ι:=AV × Int × RR) (fun _=>[(0,Au (Be A)),(1,Au (Be N)),(8,.ptr c 1 0 0),(9,.osl B 1 0 n),(10,.int .i64 (i:Nat)),(34,.int .i64 (n:Nat)),(35,.int .i64 (i:Nat)),(48,.int .i64 w),(49,.int .i64 (j:Nat))]) (fun z=>TM M c B bv z.1 (v.set j z.2.2) H) (fun z=>Fj z.1 z.2.1∧z.2.2.Lb∧Qt z.2.1 z.2.2 (Z.bind fun _=>U1 (Aj A i) N j)) ?_ ?_
         ·(repeat refine AW.seq ?_);refine AW.block ?_;(repeat refine AW.seq_k fun K hK=>?_);refine AW.rg ?_;simp;try (refine hK _ rfl ?_;clear hK K)
          (repeat refine AW.seq_k fun K hK=>?_);refine AW.rg ?_;simp[A3,hm];try (refine hK _ rfl ?_;clear hK K)
          refine AW.block (AW.loopS (ι:=Nat × AV × Int × RR) (fun z=>[(0,Au (Be A)),(1,Au (Be N)),(8,.ptr c 1 0 0),(9,.osl B 1 0 n),(10,.int .i64 (i:Nat)),(34,.int .i64 (n:Nat)),(35,.int .i64 (i:Nat)),(11,.int .i64 (j:Nat)),(48,.int .i64 w),(49,.int .i64 (j:Nat)),(53,.int .i64 m),(54,.int .i64 (z.1:Nat))]) (fun z=>TM M c B bv z.2.1 (v.set j z.2.2.2) H) (fun z=>z.1≤m∧Fj z.2.1 z.2.2.1∧z.2.2.2.Lb∧Qt z.2.2.1 z.2.2.2 (Z.bind fun _=>Aw (Ju (Aj A i) N j) z.1 0)) (fun z=>m-z.1) (0,x,e,rr v j) ⟨by simp,q2,Mg q3 j,?_⟩ ?_ (by simp) ?_)
          ·cases Z with
           |none=>exact q5
           |some acc =>
            obtain⟨m1,m2,m3⟩:e=0∧v=List.map Ar (acc++List.replicate (w-j) (0:Rat))∧Ef (acc++List.replicate (w-j) 0):=q5;exact⟨m1,by rw[m2];exact Qvb (hZl acc rfl) hj,Hf⟩
          ·simp only;rw[Qt0 (by omega)]
          rintro⟨k,x,e,s⟩ ⟨k1,k2,k3,k4⟩;simp only at k1 k2 k3 k4;simp only;(repeat refine AW.seq_k fun K hK=>?_);refine AW.rg ?_;simp;try (refine hK _ rfl ?_;clear hK K)
          (repeat refine AW.seq ?_);refine AW.cs (fun hk=>?_) (fun hk=>?_) rfl<;>(try simp at hk)
          ·refine AW.skip ?_;try simp
           have w3:=Aq (k+1) (by omega);(repeat refine AW.seq ?_);refine AW.block ?_;(repeat refine AW.seq_k fun K hK=>?_);refine AW.rg ?_;simp;try (refine hK _ rfl ?_;clear hK K)
           have hkr:k<(Aj A i).length:=by omega
           have hkN:k<N.length:=by omega
           have hkE:k<(Be N).length:=by rw[A3];exact hkN
           have hiE:i<(Be A).length:=by rw[A3];exact hai
           have hlk:(Aj (Be N) k).length=w:=by rw[Bw,List.length_map];exact b3 k hkN
           have hjl:j<(Aj N k).length:=by rw[b3 k hkN];exact hj
           have e1:rr (Aj (Be A) i) k=Ar (Ba (Aj A i) k):=by rw[Bw,Gd hkr]
           have e2:rr (Aj (Be N) k) j=Ar (A6 N k j):=by rw[Bw,Gd hjl];rfl
           have y1:B0 (Ba (Aj A i) k):=a2.at hkr;have y2:B0 (A6 N k j):=b2.at hjl;have hvl:(v.set j s).length=w:=by rw[List.length_set];exact q4
           have e3:rr (v.set j s) j=s:=by
            unfold rr;rw[List.getD_eq_getElem?_getD,List.getElem?_set_self (by omega)];rfl
           obtain⟨t1,t2,t3⟩:=Ss (M:=M) (x:=x) (v:=v.set j s) (H:=H) hcB v2' hbB;(repeat refine AW.seq_k fun K hK=>?_);refine AW.rdT [] [] [] [B,bv] [0,1,2,3,4,5,6,7,8,9,10,11,12,13,14,15,16,17,18,19,20,21,22,23,24,25,26,27,28,29,30,31] Dm (by simp[hi,hj,hk,t1,t2,t3,hH,hiE,hraE,hkE,hlk,e1,e2,hvl,e3]) (by simp[hi,hj,hk,t1,t2,t3,hH,hiE,hraE,hkE,hlk,e1,e2,hvl,e3]) (by simp[hi,hj,hk,t1,t2,t3,hH,hiE,hraE,hkE,hlk,e1,e2,hvl,e3]) (by simp[hi,hj,hk,t1,t2,t3,hH,hiE,hraE,hkE,hlk,e1,e2,hvl,e3]) (by simp[hi,hj,hk,t1,t2,t3,hH,hiE,hraE,hkE,hlk,e1,e2,hvl,e3]) ?_
           simp[hi,hj,hk,t1,t2,t3,hH,hiE,hraE,hkE,hlk,e1,e2,hvl,e3];try (refine hK _ rfl ?_;clear hK K)
           refine Qlh (a:=Ar (Ba (Aj A i) k)) (b:=Ar (A6 N k j)) (x:=x) (e:=e) t1 (by simp[hcB,v2']) k2 (Eb _) (Eb _) (fun he=>⟨D0 y1,D0 y2⟩) ?_;intro x1 hx1;have hplb:(Cp e (Ar (Ba (Aj A i) k)) (Df (Ar (Ba (Aj A i) k)).q (Ar (A6 N k j)).q)).2.Lb:=Pz (Eb _);have hds:=Qml k4 (fun _=>⟨F3 _,F3 _⟩) (a:=Ar (Ba (Aj A i) k)) (b:=Ar (A6 N k j)) (e1:=(Cp e (Ar (Ba (Aj A i) k)) (Df (Ar (Ba (Aj A i) k)).q (Ar (A6 N k j)).q)).1) (p:=(Cp e (Ar (Ba (Aj A i) k)) (Df (Ar (Ba (Aj A i) k)).q (Ar (A6 N k j)).q)).2) rfl
           generalize(Cp e (Ar (Ba (Aj A i) k)) (Df (Ar (Ba (Aj A i) k)).q (Ar (A6 N k j)).q))=ep at *;obtain⟨e1',p⟩:=ep;simp only at hx1 hplb hds;rw[Q1d hcB v2'];obtain⟨t4,t5,t6⟩:=Ss (M:=M) (x:=x1) (v:=v.set j s) (H:=H) hcB v2' hbB;simp;refine Quj (a:=s) (b:=p) (x:=x1) (e:=e1') t4 (by simp[hcB,v2']) hx1 k3 hplb (fun he=>⟨k4.ok (hds.2 he).1,(hds.2 he).2⟩) ?_;intro x2 hx2;have hslb:(Cp e1' s (Ej s.q p.q)).2.Lb:=Pz k3;replace hds:=hds.1;generalize Cp e1' s (Ej s.q p.q)=ep at *;obtain⟨e2',s2⟩:=ep;simp only at hx2 hslb hds
           rw[Q1d hcB v2'];obtain⟨t7,t8,t9⟩:=Ss (M:=M) (x:=x2) (v:=v.set j s) (H:=H) hcB v2' hbB;simp[hj,hk,t7,t8,t9,hH,hvl];(repeat refine AW.seq_k fun K hK=>?_);refine AW.rg ?_;simp[-Int.natCast_add,w3];try (refine hK _ rfl ?_;clear hK K)
           refine⟨k+1,x2,e2',s2,⟨hk,hx2,hslb,?_⟩,by omega,?_,rfl⟩
           ·cases Z with
            |none=>exact hds
            |some acc =>
             show Qt e2' s2 (Aw (Ju (Aj A i) N j) (k+1) 0)
             rw[Bq];exact hds
           ·rw[Q3s hbB]
          ·refine AW.exit ?_;try simp
           have:k=m:=by omega
           subst this;refine⟨x,e,s,⟨k2,k3,?_⟩,rfl⟩;unfold U1;rw[hm];exact k4
         rintro⟨x',e',s⟩ ⟨k2,k3,k4⟩;simp only at k2 k3 k4;simp only;(repeat refine AW.seq_k fun K hK=>?_);refine AW.rg ?_;simp[-Int.natCast_add,w2];try (refine hK _ rfl ?_;clear hK K)
         refine⟨j+1,x',e',v.set j s,⟨hj,k2,Qlt q3 j k3,by rw[List.length_set];exact q4,?_⟩,by omega,rfl,rfl⟩;rw[hj1];cases Z with
         |none=>exact k4
         |some acc =>
          obtain⟨m1,m2,m3⟩:e=0∧v=List.map Ar (acc++List.replicate (w-j) (0:Rat))∧Ef (acc++List.replicate (w-j) 0):=q5;replace k4:Qt e' s (U1 (Aj A i) N j):=k4;show Tj e' (v.set j s) ((Gi (Aj A i) N j acc).map _)
          unfold Gi;cases hen:U1 (Aj A i) N j with
          |none=>rw[hen]at k4;exact k4
          |some z =>
           rw[hen]at k4;obtain⟨p1,rfl,p3⟩:e'=0∧s=Ar z∧B0 z:=k4;refine⟨p1,?_,?_⟩
           ·rw[m2,←List.map_set,Qhf (hZl acc rfl) hj]
           ·have:=Wc m3 j p3;rw[Qhf (hZl acc rfl) hj]at this;exact this
        ·refine AW.exit ?_;try simp
         have:j=w:=by omega
         subst this;refine⟨x,e,v,⟨q2,q3,q4,q5.to ?_⟩,rfl⟩;simp
       rintro⟨x,e,v⟩ ⟨q2,q3,q4,q5⟩;simp only at q2 q3 q4 q5;simp only;have hxc:x.cells=[.int .i64 e]:=q2;cases hq:Aw (Gi (Aj A i) N) w []with
       |none =>
        rw[hq]at q5 hst;have he:e=2:=q5;subst he;have hX:=Se hst (m:=n) (by omega);rw[hX];(repeat refine AW.seq_k fun K hK=>?_);refine AW.rg ?_;simp[(Ss hcB v2' hbB).1,hxc];try (refine hK _ rfl ?_;clear hK K)
        refine AW.yes ?_ rfl;(repeat refine AW.seq_k fun K hK=>?_);refine AW.rdA c [0,1,2,3,4,5] Dm (by simp[(Ss hcB v2' hbB).1,hxc]) ?_;simp[(Ss hcB v2' hbB).1,hxc];try (refine hK _ rfl ?_;clear hK K)
        exact AW.ret (Af [Au [],.int .i64 2] rfl ⟨.nilsl 1,.same _,trivial⟩ ⟨rfl,rfl⟩)
       |some r =>
        rw[hq]at q5 hst;obtain⟨q6,q7,q8⟩:e=0∧v=r.map Ar∧Ef r:=q5;subst q6;(repeat refine AW.seq_k fun K hK=>?_);refine AW.rg ?_;simp[(Ss hcB v2' hbB).1,hxc];try (refine hK _ rfl ?_;clear hK K)
        refine AW.no ?_ rfl;refine AW.skip ?_;try simp
        refine⟨⟨(M.set bv ⟨44,4,Bo v⟩).set B ⟨51,1,H⟩,bs++[bv],Y++[r],x⟩,⟨hst,?_,?_,q2⟩,?_⟩
        ·have:=hstep v q4;rw[q7]at this ⊢;rw[show Be (Y++[r])=Be Y++[r.map Ar] by simp[Be]];exact this
        ·simp[hcB,v2',g4]
        ·exact Qqi hcB v2' hbB
      rintro⟨M,bs,Y,x⟩ hs;(repeat refine AW.seq_k fun K hK=>?_);refine AW.rg ?_;simp[-Int.natCast_add,w1];try (refine hK _ rfl ?_;clear hK K)
      exact⟨i+1,⟨M,bs,Y,x⟩,⟨hi,hs⟩,by omega,by simp⟩
     ·refine AW.exit ?_;try simp
      have:i=n:=by omega
      subst this;exact⟨⟨M,bs,Y,x⟩,⟨g2,g3,g4,g5⟩,by simp⟩
    rintro⟨M,bs,Y,x⟩ ⟨g2,g3,g4,g5⟩;simp only at g2 g3 g4 g5;simp only;rw[g2];(repeat refine AW.seq_k fun K hK=>?_);refine AW.rg ?_;simp;try (refine hK _ rfl ?_;clear hK K)
    rw[Nat.sub_self]at g3;obtain⟨k1,k2⟩:=g3.full;have hcb':c ∉ bs:=fun hm=>by
     obtain⟨k,hk,e⟩:=List.mem_iff_getElem.1 hm;rw[←Jp hk]at e;have:=k1.row k (by rw[←k1.len];exact hk);rw[e,g4]at this;cases this
    have hv:=(k1.other hcB hcb' ⟨118,1,[x]⟩).view;have hYl:(Be Y).length=n:=by rw[A3];exact(Qz g2).2.2
    rw[hYl]at hv;exact AW.ret (Af [Au (Be Y),.int .i64 0] rfl ⟨hv,.same _,trivial⟩ ⟨rfl,rfl⟩)
   ·have hT:Tn a b=(1,[]):=by unfold Tn;rw[if_neg (by simp[h0]),if_neg (by simp[h1]),if_pos h2]
    rw[hT];refine Ad Tryz.func76 rfl rfl 101 rfl (Nat.le_of_ble_eq_true rfl) ?_;(repeat refine AW.seq_k fun K hK=>?_);refine AW.rg ?_;simp[Al];try (refine hK _ rfl ?_;clear hK K)
    (repeat refine AW.seq_k fun K hK=>?_);refine AW.rg ?_;simp;try (refine hK _ rfl ?_;clear hK K)
    refine Aa.val hca ?_;simp;refine hK _ rfl ?_;clear hK K;(repeat refine AW.seq_k fun K hK=>?_);refine AW.rg ?_;simp;try (refine hK _ rfl ?_;clear hK K)
    refine AW.no ?_ rfl;refine AW.skip ?_;try simp
    refine hK _ rfl ?_;clear hK K;(repeat refine AW.seq_k fun K hK=>?_);refine AW.rg ?_;simp;try (refine hK _ rfl ?_;clear hK K)
    refine Aa.val hcb ?_;simp;refine hK _ rfl ?_;clear hK K;(repeat refine AW.seq_k fun K hK=>?_);refine AW.rg ?_;simp;try (refine hK _ rfl ?_;clear hK K)
    refine AW.no ?_ rfl;refine AW.skip ?_;try simp
    refine hK _ rfl ?_;clear hK K;(repeat refine AW.seq_k fun K hK=>?_);refine AW.rg ?_;simp;try (refine hK _ rfl ?_;clear hK K)
    refine Aa.val hwa ?_;simp;refine hK _ rfl ?_;clear hK K;refine AW.yes ?_ (by simp[h2]);(repeat refine AW.seq_k fun K hK=>?_);refine AW.rg ?_;simp;try (refine hK _ rfl ?_;clear hK K)
    exact AW.ret (Af [Au [],.int .i64 1] rfl ⟨.nilsl 1,.same _,trivial⟩ ⟨rfl,rfl⟩)
  ·have hT:Tn a b=(Sx b,[]):=by unfold Tn;rw[if_neg (by simp[h0]),if_pos h1]
   rw[hT];generalize Sx b=e at *;refine Ad Tryz.func76 rfl rfl 101 rfl (Nat.le_of_ble_eq_true rfl) ?_;(repeat refine AW.seq_k fun K hK=>?_);refine AW.rg ?_;simp[Al];try (refine hK _ rfl ?_;clear hK K)
   (repeat refine AW.seq_k fun K hK=>?_);refine AW.rg ?_;simp;try (refine hK _ rfl ?_;clear hK K)
   refine Aa.val hca ?_;simp;refine hK _ rfl ?_;clear hK K;(repeat refine AW.seq_k fun K hK=>?_);refine AW.rg ?_;simp;try (refine hK _ rfl ?_;clear hK K)
   refine AW.no ?_ rfl;refine AW.skip ?_;try simp
   refine hK _ rfl ?_;clear hK K;(repeat refine AW.seq_k fun K hK=>?_);refine AW.rg ?_;simp;try (refine hK _ rfl ?_;clear hK K)
   refine Aa.val hcb ?_;simp;refine hK _ rfl ?_;clear hK K;(repeat refine AW.seq_k fun K hK=>?_);refine AW.rg ?_;simp[h1];try (refine hK _ rfl ?_;clear hK K)
   refine AW.yes ?_ rfl;(repeat refine AW.seq_k fun K hK=>?_);refine AW.rg ?_;simp;try (refine hK _ rfl ?_;clear hK K)
   exact AW.ret (Af [Au [],.int .i64 e] rfl ⟨.nilsl 1,.same _,trivial⟩ ⟨rfl,rfl⟩)
 ·have hT:Tn a b=(Sx a,[]):=by unfold Tn;rw[if_pos h0]
  rw[hT];generalize Sx a=e at *;refine Ad Tryz.func76 rfl rfl 101 rfl (Nat.le_of_ble_eq_true rfl) ?_;(repeat refine AW.seq_k fun K hK=>?_);refine AW.rg ?_;simp[Al];try (refine hK _ rfl ?_;clear hK K)
  (repeat refine AW.seq_k fun K hK=>?_);refine AW.rg ?_;simp;try (refine hK _ rfl ?_;clear hK K)
  refine Aa.val hca ?_;simp;refine hK _ rfl ?_;clear hK K;(repeat refine AW.seq_k fun K hK=>?_);refine AW.rg ?_;simp[h0];try (refine hK _ rfl ?_;clear hK K)
  refine AW.yes ?_ rfl;(repeat refine AW.seq_k fun K hK=>?_);refine AW.rg ?_;simp;try (refine hK _ rfl ?_;clear hK K)
  exact AW.ret (Af [Au [],.int .i64 e] rfl ⟨.nilsl 1,.same _,trivial⟩ ⟨rfl,rfl⟩)
end Go.Av
end
section
namespace Go.Av
open Go.Proofs Go.Lam
theorem Sf (n:Int) (h1:-9223372036854775808≤n) (h2:n<9223372036854775808):Ak Tryz.prog 104 [.int .i64 n] Ac.emp fun v m=>v=(Ar (Gr n)).av∧m=Ac.emp:=by
 have ho:=Qg0 n 1 h1 h2 (by omega) (by omega) (by omega);have e:Rat.divInt n 1=Gr n:=rfl;rw[e,D6]at ho;generalize Gr n=q at *;rw[Dx];unfold H6 at *;refine Ad Tryz.func104 rfl rfl 11 rfl (Nat.le_of_ble_eq_true rfl) ?_;(repeat refine AW.seq_k fun K hK=>?_);refine AW.rg ?_;simp[Al];try (refine hK _ rfl ?_;clear hK K)
 refine Ae.intro fun b2 hb2=>?_;refine hK _ rfl ?_;clear hK K;(repeat refine AW.seq_k fun K hK=>?_);refine AW.rg ?_;simp;try (refine hK _ rfl ?_;clear hK K)
 refine Aa.val ho ?_;simp;refine Ae.intro fun b3 hb3=>?_;simp only[Am,Az,and_true]at hb3;try simp[hb3]
 refine hK _ rfl ?_;clear hK K;(repeat refine AW.seq_k fun K hK=>?_);refine AW.rg ?_;simp[hb3];try (refine hK _ rfl ?_;clear hK K)
 exact AW.ret (Af (vs:=[.agg [.bool (decide (q.num<0)),Ao (Ap q.num.natAbs),.bool false,Ao (Ap q.den)]]) [.agg [.bool (decide (q.num<0)),Ao (Ap q.num.natAbs),.bool false,Ao (Ap q.den)]] (by simp[hb3]) (by simp) ⟨rfl,rfl⟩)
theorem Gn (n:Int) (h1:-9223372036854775808≤n) (h2:n<9223372036854775808):Ak Tryz.prog 28 [.int .i64 n] Ac.emp fun v m=>v=(Ar (Gr n)).av∧m=Ac.emp:=by
 have ho:=Qdf n 1 h1 h2 (by omega) (by omega) (by omega);have e:Rat.divInt n 1=Gr n:=rfl;rw[e,D6]at ho;generalize Gr n=q at *;rw[Dx];unfold H6 at *;refine Ad Tryz.func28 rfl rfl 11 rfl (Nat.le_of_ble_eq_true rfl) ?_;(repeat refine AW.seq_k fun K hK=>?_);refine AW.rg ?_;simp[Al];try (refine hK _ rfl ?_;clear hK K)
 refine Ae.intro fun b2 hb2=>?_;refine hK _ rfl ?_;clear hK K;(repeat refine AW.seq_k fun K hK=>?_);refine AW.rg ?_;simp;try (refine hK _ rfl ?_;clear hK K)
 refine Aa.val ho ?_;simp;refine Ae.intro fun b3 hb3=>?_;simp only[Am,Az,and_true]at hb3;try simp[hb3]
 refine hK _ rfl ?_;clear hK K;(repeat refine AW.seq_k fun K hK=>?_);refine AW.rg ?_;simp[hb3];try (refine hK _ rfl ?_;clear hK K)
 exact AW.ret (Af (vs:=[.agg [.bool (decide (q.num<0)),Ao (Ap q.num.natAbs),.bool false,Ao (Ap q.den)]]) [.agg [.bool (decide (q.num<0)),Ao (Ap q.num.natAbs),.bool false,Ao (Ap q.den)]] (by simp[hb3]) (by simp) ⟨rfl,rfl⟩)
theorem Zk (a b:RR) (ha:a.Lb) (hb:b.Lb) (oa:a.ok=true) (ob:b.ok=true):Ak Tryz.prog 105 [a.av,b.av] Ac.emp fun v m=>v=.bool (decide (a.q≠b.q))∧m=Ac.emp:=by
 have hc:=Qjt a b ha hb oa ob;refine Ad Tryz.func105 rfl rfl 15 rfl (Nat.le_of_ble_eq_true rfl) ?_;unfold RR.av at *;(repeat refine AW.seq_k fun K hK=>?_);refine AW.rgR [2,3] ?_;simp[Al];try (refine hK _ rfl ?_;clear hK K)
 (repeat refine AW.seq_k fun K hK=>?_);refine AW.rg ?_;simp;try (refine hK _ rfl ?_;clear hK K)
 refine Aa.pure hc ?_;rintro _ ⟨c,rfl,hc0⟩;simp;try (refine hK _ rfl ?_;clear hK K)
 (repeat refine AW.seq_k fun K hK=>?_);refine AW.rg ?_;simp;try (refine hK _ rfl ?_;clear hK K)
 exact AW.ret (Ah rfl _ (.same _) ⟨by simp[oneOrTup,hc0],rfl⟩)
end Go.Av
end
section
namespace Go.Av
open Go.Proofs Go.Lam
def zR:AV:=.agg [.bool false,.nil,.bool false,.nil]
def zrI (n i:Nat):List AV:=Bo (List.replicate i (Ar 0))++List.replicate (n-i) zR
@[simp] theorem Qfk {n i:Nat} (h:i≤n):(zrI n i).length=n:=by simp[zrI,Bo];omega
theorem Qql {n i:Nat} (h:i<n):(zrI n i).set i (Ar 0).av=zrI n (i+1):=by
 unfold zrI;rw[List.set_append_right _ _ (by simp[Bo])];have e:n-i=(n-(i+1))+1:=by omega
 rw[e,List.replicate_succ,show i-(Bo (List.replicate i (Ar 0))).length=0 by simp[Bo]];simp only[List.set_cons_zero];simp[Bo,List.replicate_succ']
theorem S8 (n:Nat) (hn:n<2^30):Ak Tryz.prog 102 [.int .i64 (n:Nat)] Ac.emp fun v M=>∃b,v=.osl b 4 0 n∧M=Ac.emp.set b ⟨44,4,Bo (List.replicate n (Ar 0))⟩:=by
 have hw:=Sf 0 (by omega) (by omega);rw[Iv]at hw;refine Ad Tryz.func102 rfl rfl 17 rfl (Nat.le_of_ble_eq_true rfl) ?_;(repeat refine AW.seq_k fun K hK=>?_);refine AW.rg ?_;simp[Al];try (refine hK _ rfl ?_;clear hK K)
 (repeat refine AW.seq_k fun K hK=>?_);refine AW.rg ?_;simp[-Int.natCast_mul];try (refine hK _ rfl ?_;clear hK K)
 refine⟨by omega,Ae.intro fun b hb=>?_⟩;refine hK _ rfl ?_;clear hK K;have hz:List.replicate n (AV.agg [.bool false,.nil,.bool false,.nil])=zrI n 0:=by simp[zrI,Bo,zR]
 rw[hz];have hzn:zrI n n=Bo (List.replicate n (Ar 0)):=by simp[zrI]
 refine AW.seq_ex (ι:=Unit) (fun _=>[(3,.osl b 4 0 n)]) (fun _=>Ac.emp.set b ⟨44,4,zrI n n⟩) (fun _=>True) ?_ ?_
 ·(repeat refine AW.seq_k fun K hK=>?_);refine AW.rg ?_;simp;try (refine hK _ rfl ?_;clear hK K)
  refine AW.block (AW.loopS (ι:=Nat) (fun i=>[(3,.osl b 4 0 n),(7,.int .i64 (n:Nat)),(8,.int .i64 (i:Nat))]) (fun i=>Ac.emp.set b ⟨44,4,zrI n i⟩)
   (fun i=>i≤n) (fun i=>n-i) 0 (by simp) rfl (by simp) ?_)
  intro i g1;(repeat refine AW.seq_k fun K hK=>?_);refine AW.rg ?_;simp;try (refine hK _ rfl ?_;clear hK K)
  (repeat refine AW.seq ?_);refine AW.cs (fun hi=>?_) (fun hi=>?_) rfl<;>(try simp at hi)
  ·refine AW.skip ?_;try simp
   try (refine hK _ rfl ?_;clear hK K)
   have w1:=Aq (i+1) (by omega);have hzl:(zrI n i).length=n:=Qfk g1;(repeat refine AW.seq ?_);refine AW.block ?_;(repeat refine AW.seq_k fun K hK=>?_);refine AW.rg ?_;simp;try (refine hK _ rfl ?_;clear hK K)
   (repeat refine AW.seq_k fun K hK=>?_);refine AW.rg ?_;simp;try (refine hK _ rfl ?_;clear hK K)
   refine Aa.val hw ?_;simp[hi,hzl];rw[Qql hi];(repeat refine AW.seq_k fun K hK=>?_);refine AW.rg ?_;simp[-Int.natCast_add,w1];try (refine hK _ rfl ?_;clear hK K)
   exact⟨i+1,by omega,by omega,rfl,rfl⟩
  ·refine AW.exit ?_;try simp
   rw[show i=n by omega]
 rintro _ _;rw[hzn];(repeat refine AW.seq_k fun K hK=>?_);refine AW.rg ?_;simp;try (refine hK _ rfl ?_;clear hK K)
 refine AW.ret (Cf rfl (fun c y hy v hv=>?_) ⟨b,rfl,rfl⟩);by_cases e:c=b
 ·rw[e]at hy;simp at hy;cases hy;exact J5 _ v hv
 ·simp[Ac.set,e,Ac.emp]at hy
end Go.Av
end
section
namespace Go.Av
open Go.Proofs Go.Lam
def G1 (n:Int) (es:List RE) (p:List RR):Bool:=Di n es&&decide ((p.length:Int)=2*n)&&p.all RR.ok
def Hk (n:Int) (es:List RE) (p:List RR):AV:=.int .i64 (if G1 n es p=true then 0 else 1)
theorem Sh (n:Int) (es:List RE) (p:List RR) (hb:W5 es) (hp:∀x∈p,x.Lb):Ak Tryz.prog 67 [.int .i64 n,Bc es,An p] Ac.emp fun v m=>v=Hk n es p∧m=Ac.emp:=by
 have hc:=Rr n es hb;refine Ad Tryz.func67 rfl rfl 31 rfl (Nat.le_of_ble_eq_true rfl) ?_;unfold Bc An at *;(repeat refine AW.seq_k fun K hK=>?_);refine AW.rg ?_;simp[Al];try (refine hK _ rfl ?_;clear hK K)
 (repeat refine AW.seq_k fun K hK=>?_);refine AW.rg ?_;simp;try (refine hK _ rfl ?_;clear hK K)
 refine Aa.val hc ?_;by_cases hk:Di n es=true;rotate_left
 ·have e1:C6 n es=.int .i64 1:=by unfold C6;rw[if_neg hk]
  have e2:Hk n es p=.int .i64 1:=by unfold Hk G1;rw[Bool.not_eq_true]at hk;rw[hk];rfl
  simp[e1];try (refine hK _ rfl ?_;clear hK K)
  (repeat refine AW.seq_k fun K hK=>?_);refine AW.rg ?_;simp;try (refine hK _ rfl ?_;clear hK K)
  refine AW.yes ?_ rfl;(repeat refine AW.seq_k fun K hK=>?_);refine AW.rg ?_;simp;try (refine hK _ rfl ?_;clear hK K)
  exact AW.ret (Ah rfl _ (.same _) ⟨by rw[e2];rfl,rfl⟩)
 have e1:C6 n es=.int .i64 0:=by unfold C6;rw[if_pos hk]
 obtain⟨⟨h1,h2,h3⟩,_⟩:=Fi hk;simp[e1];try (refine hK _ rfl ?_;clear hK K)
 (repeat refine AW.seq_k fun K hK=>?_);refine AW.rg ?_;simp;try (refine hK _ rfl ?_;clear hK K)
 refine AW.no ?_ rfl;refine AW.skip ?_;try simp
 try (refine hK _ rfl ?_;clear hK K)
 have w2:IntKind.i64.wrap (2*n)=2*n:=Pk (by omega);by_cases hlen:(p.length:Int)=2*n;rotate_left
 ·have e2:Hk n es p=.int .i64 1:=by unfold Hk G1;rw[decide_eq_false hlen];simp
  (repeat refine AW.seq_k fun K hK=>?_);refine AW.rg ?_;simp[w2,hlen];try (refine hK _ rfl ?_;clear hK K)
  refine AW.yes ?_ rfl;(repeat refine AW.seq_k fun K hK=>?_);refine AW.rg ?_;simp;try (refine hK _ rfl ?_;clear hK K)
  exact AW.ret (Ah rfl _ (.same _) ⟨by rw[e2];rfl,rfl⟩)
 (repeat refine AW.seq_k fun K hK=>?_);refine AW.rg ?_;simp[w2,hlen];try (refine hK _ rfl ?_;clear hK K)
 refine AW.no ?_ (by simp[hlen]);refine AW.skip ?_;try simp
 try (refine hK _ rfl ?_;clear hK K)
 refine AW.seq_ex (ι:=Unit) (fun _=>[]) (fun _=>Ac.emp) (fun _=>p.all RR.ok=true) ?_ ?_
 ·(repeat refine AW.seq_k fun K hK=>?_);refine AW.rg ?_;simp;try (refine hK _ rfl ?_;clear hK K)
  refine AW.block (AW.loopS (ι:=Nat) (fun i=>[(21,.sl 4 (Bo p)),(22,.int .i64 (p.length:Nat)),(23,.int .i64 (i:Nat))]) (fun i=>Ac.emp)
   (fun i=>i≤p.length∧(p.take i).all RR.ok=true) (fun i=>p.length-i) 0 ⟨by simp,by simp⟩ rfl (by simp) ?_)
  rintro i ⟨g1,g2⟩;(repeat refine AW.seq_k fun K hK=>?_);refine AW.rg ?_;simp;try (refine hK _ rfl ?_;clear hK K)
  (repeat refine AW.seq ?_);refine AW.cs (fun hi=>?_) (fun hi=>?_) rfl<;>(try simp at hi)
  ·refine AW.skip ?_;try simp
   try (refine hK _ rfl ?_;clear hK K)
   have w1:=Aq (i+1) (by omega);have hxm:rr p i∈p:=by rw[Ja hi];exact List.getElem_mem hi
   have hv:=Gf (rr p i) (hp _ hxm);have hst:(p.take (i+1)).all RR.ok=(rr p i).ok:=by
    rw[List.take_add_one,List.getElem?_eq_getElem hi,List.all_append,g2,Ja hi];simp
   unfold RR.av at hv;(repeat refine AW.seq ?_);refine AW.block ?_;(repeat refine AW.seq_k fun K hK=>?_);refine AW.rg ?_;simp[hi];try (refine hK _ rfl ?_;clear hK K)
   refine Ae.intro fun b6 hb6=>?_;refine hK _ rfl ?_;clear hK K;refine AW.toEmp [(9,.rptr [.bool (rr p i).n1,Ao (rr p i).l1,.bool (rr p i).n2,Ao (rr p i).l2]),(21,.sl 4 (Bo p)),(22,.int .i64 (p.length:Nat)),(23,.int .i64 (i:Nat))] (by simp;exact Gh rfl) ?_;(repeat refine AW.seq_k fun K hK=>?_);refine AW.rg ?_;simp;try (refine hK _ rfl ?_;clear hK K)
   refine Aa.val hv ?_;simp;try (refine hK _ rfl ?_;clear hK K)
   cases hok:(rr p i).ok with
   |false =>
    have e2:Hk n es p=.int .i64 1:=by
     have:p.all RR.ok=false:=List.all_eq_false.2 ⟨rr p i,hxm,by rw[hok];simp⟩;unfold Hk G1;rw[this];simp
    refine AW.yes ?_ rfl;(repeat refine AW.seq_k fun K hK=>?_);refine AW.rg ?_;simp;try (refine hK _ rfl ?_;clear hK K)
    exact AW.ret (Ah rfl _ (.same _) ⟨by rw[e2];rfl,rfl⟩)
   |true =>
    refine AW.no ?_ rfl;refine AW.skip ?_;try simp
    try (refine hK _ rfl ?_;clear hK K)
    (repeat refine AW.seq_k fun K hK=>?_);refine AW.rg ?_;simp[-Int.natCast_add,w1];try (refine hK _ rfl ?_;clear hK K)
    exact⟨⟨by omega,by rw[hok]at hst;simpa using hst⟩,by omega⟩
  ·refine AW.exit ?_;try simp
   have:i=p.length:=by omega
   subst this;rw[List.take_length]at g2;simpa using g2
 ·rintro _ h;have e2:Hk n es p=.int .i64 0:=by unfold Hk G1;rw[hk,decide_eq_true hlen,h];rfl
  (repeat refine AW.seq_k fun K hK=>?_);refine AW.rg ?_;simp;try (refine hK _ rfl ?_;clear hK K)
  exact AW.ret (Ah rfl _ (.same _) ⟨by rw[e2];rfl,rfl⟩)
end Go.Av
end
section
namespace Go.Av
open Go.Proofs Go.Lam
def uI (a b s:Nat):Nat:=2*(if s<2 then a else b)+s % 2
def vI (a b s:Nat):Nat:=2*(if s<2 then b else a)+s % 2
def Ow (n:Nat) (p:List Rat) (a b:Nat):Nat→Option (List Rat)
 |0=>some (List.replicate (2*n) 0)
 |s+1=>(Ow n p a b s).bind fun r=>(Da (Ba p (uI a b s)) (Ba p (vI a b s))).map fun d=>r.set (uI a b s) d
def N5 (n:Nat) (E:Nat→Ed) (p:List Rat):Nat→Option (List (List Rat))
 |0=>some []
 |k+1=>(N5 n E p k).bind fun M=>(Ow n p (E k).1 (E k).2 4).map fun r=>M++[r]
def Rj (n:Nat) (p:List Rat):Option Nat:=(List.range n).find? fun i=>decide (1≤i)&&(decide (Ba p (2*i)≠Ba p 0) || decide (Ba p (2*i+1)≠Ba p 1))
def N7 (n:Nat) (p:List Rat):Option (List (List Rat)) :=
 let z:=List.replicate (2*n) (0:Rat)
 match Rj n p with
 |none=>some [z.set 0 1,z.set 1 1]
 |some i=>(Da (Ba p 1) (Ba p (2*i+1))).bind fun d1=>(Da (Ba p (2*i)) (Ba p 0)).map fun d2=>[z.set 0 1,z.set 1 1,(z.set (2*i) d1).set (2*i+1) d2]
def Cy (n:Nat) (r:List Rat):Prop:=r.length=2*n∧∀q∈r,B0 q
theorem Cy.set {n:Nat} {r:List Rat} (h:Cy n r) (i:Nat) {d:Rat} (hd:B0 d):Cy n (r.set i d):=⟨by rw[List.length_set];exact h.1,fun q hq=>by
 rcases List.mem_or_eq_of_mem_set hq with h1|h1
 ·exact h.2 q h1
 ·rw[h1];exact hd⟩
theorem Cy.zero (n:Nat):Cy n (List.replicate (2*n) 0):=⟨by simp,fun q hq=>by rw[List.eq_of_mem_replicate hq];exact Hf⟩
theorem Jl {n:Nat} {p:List Rat} {a b:Nat}:∀{s:Nat} {r:List Rat},Ow n p a b s=some r→Cy n r
 |0,r,h=>by cases h;exact Cy.zero n
 |s+1,r,h=>by
  rw[Ow]at h;obtain⟨r',h1,h2⟩:=Option.bind_eq_some_iff.1 h;obtain⟨d,h3,rfl⟩:=Option.map_eq_some_iff.1 h2;exact(Jl h1).set _ (Qo h3)
theorem Gq {n:Nat} {E:Nat→Ed} {p:List Rat}:∀{k:Nat} {M:List (List Rat)},N5 n E p k=some M→M.length=k∧∀r∈M,Cy n r
 |0,M,h=>by cases h;simp
 |k+1,M,h=>by
  rw[N5]at h;obtain⟨M',h1,h2⟩:=Option.bind_eq_some_iff.1 h;obtain⟨r,h3,rfl⟩:=Option.map_eq_some_iff.1 h2;obtain⟨h4,h5⟩:=Gq h1;refine⟨by simp[h4],fun x hx=>?_⟩;rcases List.mem_append.1 hx with hx | hx
  ·exact h5 x hx
  ·simp at hx;subst hx;exact Jl h3
theorem Wf {n:Nat} {p:List Rat} {a b s t:Nat} (h:Ow n p a b s=none) (hst:s≤t):Ow n p a b t=none:=by
 induction t with
 |zero=>rw[show s=0 by omega]at h;exact h
 |succ t ih =>
  rcases Nat.lt_or_ge t s with h1|h1
  ·rw[show t+1=s by omega];exact h
  ·rw[Ow,ih h1];rfl
theorem Vy {n:Nat} {E:Nat→Ed} {p:List Rat} {k t:Nat} (h:N5 n E p k=none) (hst:k≤t):N5 n E p t=none:=by
 induction t with
 |zero=>rw[show k=0 by omega]at h;exact h
 |succ t ih =>
  rcases Nat.lt_or_ge t k with h1|h1
  ·rw[show t+1=k by omega];exact h
  ·rw[N5,ih h1];rfl
end Go.Av
end
section
namespace Go.Av
open Go.Proofs Go.Lam
theorem Qfm {K:Nat} {q:Rat} (h:Fy K q) (h1:1≤K):Sz K q:=by
 obtain⟨z,rfl,hz⟩:=h;exact⟨hz,h1⟩
theorem Rl {a b:Rat} (ha:Fy 100 a) (hb:Fy 100 b):Da a b=some (a-b):=Ze (Qfm ha (by omega)) (Qfm hb (by omega)) (by unfold Bj;decide +kernel)
def Qld (p:List Rat) (a b i:Nat):Rat:=if i / 2=a then Ba p i-Ba p (2*b+i % 2) else if i / 2=b then Ba p i-Ba p (2*a+i % 2) else 0
theorem Qkc {N a b:Nat} {p:List Rat} (hp:∀i,i<2*N→Fy 100 (Ba p i)) (ha:a<N) (hb:b<N) (hab:a≠b):∃r,Ow N p a b 4=some r∧∀i,i<2*N→Ba r i=Qld p a b i:=by
 have h0:∀u v,u<2*N→v<2*N→Da (Ba p u) (Ba p v)=some (Ba p u-Ba p v):=fun u v hu hv=>Rl (hp u hu) (hp v hv);have e:Ow N p a b 4=some (((((List.replicate (2*N) (0:Rat)).set (2*a) (Ba p (2*a)-Ba p (2*b))).set (2*a+1) (Ba p (2*a+1)-Ba p (2*b+1))).set (2*b) (Ba p (2*b)-Ba p (2*a))).set (2*b+1) (Ba p (2*b+1)-Ba p (2*a+1))):=by
  simp only[Ow,uI,vI,Option.bind_some,Nat.lt_irrefl,if_false,Nat.reduceMod,Nat.reduceLT,if_true,Nat.zero_lt_succ,Nat.add_zero];rw[h0 (2*a) (2*b) (by omega) (by omega),Option.map_some,Option.bind_some,h0 (2*a+1) (2*b+1) (by omega) (by omega),Option.map_some,Option.bind_some,h0 (2*b) (2*a) (by omega) (by omega),Option.map_some,Option.bind_some,h0 (2*b+1) (2*a+1) (by omega) (by omega),Option.map_some]
 refine⟨_,e,fun i hi=>?_⟩;rw[Fl (by simp;omega),Fl (by simp;omega),Fl (by simp;omega),Fl (by simp;omega)];have hz:Ba (List.replicate (2*N) (0:Rat)) i=0:=by
  unfold Ba;rw[List.getD_eq_getElem?_getD,List.getElem?_replicate];split<;>rfl
 rw[hz];unfold Qld;by_cases e1:i=2*b+1
 ·subst e1;rw[if_pos rfl,if_neg (by omega),if_pos (by omega),show(2*b+1) % 2=1 by omega]
 ·rw[if_neg e1];by_cases e2:i=2*b
  ·subst e2;rw[if_pos rfl,if_neg (by omega),if_pos (by omega),show(2*b) % 2=0 by omega,Nat.add_zero]
  ·rw[if_neg e2];by_cases e3:i=2*a+1
   ·subst e3;rw[if_pos rfl,if_pos (by omega),show(2*a+1) % 2=1 by omega]
   ·rw[if_neg e3];by_cases e4:i=2*a
    ·subst e4;rw[if_pos rfl,if_pos (by omega),show(2*a) % 2=0 by omega,Nat.add_zero]
    ·rw[if_neg e4,if_neg (by omega),if_neg (by omega)]
theorem Yz {N:Nat} {E:Nat→Ed} {p:List Rat} (hp:∀i,i<2*N→Fy 100 (Ba p i)):∀k,(∀e,e<k→Ec N (E e))→∃M,N5 N E p k=some M∧∀e i,e<k→i<2*N→A6 M e i=Qld p (E e).1 (E e).2 i
 |0,_=>⟨[],rfl,fun e i he=>by omega⟩
 |k+1,h=>by
  obtain⟨M,h1,h2⟩:=Yz hp k fun e he=>h e (by omega);obtain⟨a,b,c⟩:=h k (by omega);obtain⟨r,h3,h4⟩:=Qkc hp a b c;have hl:=(Gq h1).1;refine⟨M++[r],by rw[N5,h1,Option.bind_some,h3];rfl,fun e i he hi=>?_⟩;unfold A6 Aj;by_cases hek:e<k
  ·rw[List.getD_eq_getElem?_getD,List.getElem?_append_left (by omega),←List.getD_eq_getElem?_getD];exact h2 e i hek hi
  ·have:e=k:=by omega
   subst this;rw[List.getD_eq_getElem?_getD,List.getElem?_append_right (by omega),hl,Nat.sub_self];exact h4 i hi
theorem Qmo {N a b i:Nat} {p:List Rat} (hp:∀i,i<2*N→Fy 100 (Ba p i)) (ha:a<N) (hb:b<N) (hi:i<2*N):Fy 256 (Qld p a b i):=by
 unfold Qld;split
 ·exact D8 (by omega) (Pn (hp i hi) (hp _ (by omega)))
 ·split
  ·exact D8 (by omega) (Pn (hp i hi) (hp _ (by omega)))
  ·exact Kf _
end Go.Av
end
section
namespace Go.Av
section
variable {P:Program}
def isB (o:Oper):Bool:=match o.op with
 |.build _ _=>true
 |_=>false
def Qq7 (P:Program) (o:Oper) (s:St) (k:AV→Ac→Prop):Prop:=match o.op with
 |.build t parts=>∃ti n e te zs,Ai P t=some ti∧ti.cls=.array n e∧Ai P e=some te∧te.size=1∧ti.zero=.agg zs∧zs.length=n∧parts.toList.map (·.1)=List.range n ∧
   (∀p∈parts.toList,∃kd m,s.ev p.2=.int kd m)∧k (.agg (parts.toList.map fun p=>s.ev p.2)) s.m
 |_=>False
theorem Qc9 (n:Nat):∀(parts:List (Nat × Value)) (vs:Array Value),(∀p∈parts,p.1<n∧p.2.cells=#[p.2])→vs.size=n →
  ∃vs',Instr.fill (fun i=>some (i*1,1)) vs parts=some vs'∧vs'.size=n∧∀i:Nat,vs'[i]?=match parts.reverse.find? (fun p=>p.1==i)with | some p=>some p.2 | none=>vs[i]?
 |[],vs,_,hs=>⟨vs,rfl,hs,fun i=>rfl⟩
 |(i,v)::rest,vs,h,hs=>by
  obtain⟨h1,h2⟩:=h (i,v) (by simp);simp only at h1 h2;obtain⟨vs',e1,e2,e3⟩:=Qc9 n rest (vs.setIfInBounds i v) (fun p hp=>h p (by simp[hp])) (by simpa using hs);refine⟨vs',?_,e2,fun j=>?_⟩
  ·unfold Instr.fill;simp only[Nat.mul_one,h2];rw[if_neg (by simp;omega)];simpa using e1
  ·rw[e3 j,List.reverse_cons,List.find?_append];cases hf:rest.reverse.find? (fun p=>p.1==j)with
   |some p=>simp
   |none =>
    simp only[Option.none_or,List.find?_cons,List.find?_nil];by_cases hij:i=j
    ·subst hij;have hi:i<vs.size:=by rw[hs];exact h1
     simp[hi]
    ·have:(i==j)=false:=by simpa using hij
     rw[this];simp[Array.getElem?_setIfInBounds,hij]
theorem Qfw {F G:Nat→Prop} {w0 w:World} {s:St} {a:Act} (hrel:Ee F G w0 s a w) {o:Oper} (hok:Fg s.n o=true) {K:St→Prop} (h:Qq7 P o s fun v m'=>K ({s with m:=m'}.put o.dst v)) (Q:Exit→Act→World→Prop):o.wp P a w (En F G w0 s.n K) Q:=by
 have hd:L5 s.n o.dst=true:=by unfold Fg at hok;rw[Bool.and_eq_true]at hok;exact hok.1
 have hall:∀x∈o.op.operands.toList,G6 s.n x=true:=by unfold Fg at hok;rw[Bool.and_eq_true]at hok;exact List.all_eq_true.1 hok.2
 unfold Qq7 at h;split at h
 ·rename_i t parts ho
  rw[ho]at hall;obtain⟨ti,n,e,te,zs,ht,hc,hte,hz1,hzz,hzl,hidx,hone,hk⟩:=h;obtain⟨inf,d,z,hi,hdd,hz,g1,g2,g3,g4,g5⟩:=(Eu ht).get;obtain⟨ie,de,ze,hie,hde,hze,k1,k2,k3,k4,k5⟩:=(Eu hte).get;rw[←g3]at hc;cases d<;>simp only[Ds,reduceCtorEq,Mc.array.injEq]at hc
  obtain⟨rfl,rfl⟩:=hc;have hzs:z.cells.size=zs.length:=by
   have hzc:VR w F (.agg zs) z:=by rw[←hzz,←g4];exact Ig w F z
   exact(hzc.cells (by simp)).1
  have hpl:∀p∈parts.toList,∃kd m,s.ev p.2=.int kd m∧a.eval p.2=.int kd m:=fun p hp=>by
   have h1:=hrel.ev (hall p.2 (by
    have e0:(Op.build t parts).operands.toList=parts.toList.map (·.2):=by simp[Op.operands]
    rw[e0];exact List.mem_map.2 ⟨p,hp,rfl⟩))
   obtain⟨kd,m,h2⟩:=hone p hp;rw[h2]at h1;cases hv:a.eval p.2<;>rw[hv]at h1<;>cases h1
   exact⟨_,_,h2,rfl⟩
  have hlt:∀p∈parts.toList,p.1<zs.length:=fun p hp=>by
   have:p.1∈parts.toList.map (·.1):=List.mem_map.2 ⟨p,hp,rfl⟩;rw[hidx,List.mem_range]at this;omega
  have hsz:parts.toList.length=zs.length:=by
   have:=congrArg List.length hidx;rw[List.length_map,List.length_range]at this;omega
  obtain⟨vs',f1,f2,f3⟩:=Qc9 zs.length (parts.toList.map fun p=>(p.1,a.eval p.2)) z.cells (fun q hq=>by
   obtain⟨p,hp,rfl⟩:=List.mem_map.1 hq;obtain⟨kd,m,_,h3⟩:=hpl p hp;exact⟨hlt p hp,by simp only[h3];rfl⟩) hzs
  have hval:∀j (hj:j<parts.toList.length),vs'[j]?=some (a.eval (parts.toList[j]).2):=fun j hj=>by
   rw[f3 j];have hj1:(parts.toList[j]).1=j:=by
    have:(parts.toList.map (·.1))[j]?=some j:=by rw[hidx];rw[List.getElem?_range (by omega)]
    rw[List.getElem?_map,List.getElem?_eq_getElem hj,Option.map_some]at this;exact Option.some.inj this
   have huniq:∀i (hi:i<parts.toList.length),(parts.toList[i]).1=j→i=j:=fun i hi e=>by
    have:(parts.toList.map (·.1))[i]?=some i:=by rw[hidx];rw[List.getElem?_range (by omega)]
    rw[List.getElem?_map,List.getElem?_eq_getElem hi,Option.map_some]at this;have:=Option.some.inj this;omega
   cases hf:(parts.toList.map fun p=>(p.1,a.eval p.2)).reverse.find? (fun p=>p.1==j)with
   |none =>
    have:=List.find?_eq_none.1 hf (j,a.eval (parts.toList[j]).2) (by
     rw[List.mem_reverse,List.mem_map];exact⟨parts.toList[j],List.getElem_mem hj,by rw[hj1]⟩)
    simp at this
   |some q =>
    have h1:=List.mem_of_find?_eq_some hf;have h2:=List.find?_some hf;rw[List.mem_reverse,List.mem_map]at h1;obtain⟨p,hp,rfl⟩:=h1;obtain⟨i,hi',rfl⟩:=List.mem_iff_getElem.1 hp;have:=huniq i hi' (by simpa using h2);subst this;rfl
  refine Dr (cv:=.agg vs') ?_ ⟨_,hk,H5 _ _ _,hrel.put hd (.agg _ _ (by rw[f2,List.length_map,hsz]) fun j u v hu hv=>?_)⟩
  ·have hzv:(zeroValue t).run P w=.ok z w:=by simp[zeroValue,typeInfo,hi,hz]
   unfold execOp;rw[ho];simp[Instr.build,hzv,run_underlying hdd,Fz hie,k1,hz1];simp only[Nat.mul_one]at f1;rw[f1];simp
  ·rw[List.getElem?_map]at hu;obtain⟨p,hp,rfl⟩:=Option.map_eq_some_iff.1 hu;obtain⟨hj,rfl⟩:=List.getElem?_eq_some_iff.1 hp;rw[hval j hj]at hv;cases hv;obtain⟨kd,m,h2,h3⟩:=hpl _ (List.getElem_mem hj);rw[h2,h3];exact .int kd m
 ·exact h.elim
def Qg (P:Program) (cf:Dy) (o:Oper) (K:St→Prop) (s:St):Prop:=if isB o=true then Qq7 P o s fun v m'=>K ({s with m:=m'}.put o.dst v) else E0 P cf o K s
def Oa (P:Program) (cf:Dy):List Oper→(St→Prop)→St→Prop
 |[],K,s=>K s
 |o::rest,K,s=>o.guard=none∧Qg P cf o (Oa P cf rest K) s
theorem Qgi {F G:Nat→Prop} {w0 w:World} {s:St} {a:Act} (hrel:Ee F G w0 s a w) {cf:Dy} (hav:∀b,cf.av b→b<w.heap.size) {o:Oper} (hok:Fg s.n o=true) {K:St→Prop} (h:Qg P cf o K s) (Q:Exit→Act→World→Prop):o.wp P a w (En F G w0 s.n K) Q:=by
 unfold Qg at h;split at h
 ·exact Qfw hrel hok h Q
 ·exact Kp hrel hav hok h Q
theorem S3 {F G:Nat→Prop} {w0:World} {cf:Dy} (hcf:∀b,¬cf.av b) {ops:Array Oper} {K:St→Prop} {QQ:Exit→Act→World→Prop} (n:Nat) (hQ:∀a w,En F G w0 n K a w→QQ .normal a w) :
  ∀(l:List Oper) (s:St) (a:Act) (w:World),s.n=n→(∀o∈l,(Fg n o&&Hq ops n o)=true)→Ee F G w0 s a w→Oa P cf l K s→wpList P ops QQ l a w
 |[],s,a,w,hn,_,hr,hk=>hQ a w ⟨s,hk,hn,hr⟩
 |o::rest,s,a,w,hn,hok,hr,hk=>by
  have ho:=hok o (by simp);rw[Bool.and_eq_true]at ho;have hrest:∀o∈rest,(Fg n o&&Hq ops n o)=true:=fun x hx=>hok x (by simp[hx]);have hmono:∀{s:St} {a:Act} {w:World},s.n=n→En F G w0 s.n (Oa P cf rest K) a w→wpList P ops QQ rest a w:=by
   rintro s a w hn ⟨s',h1,h2,h3⟩;exact S3 hcf n hQ rest s' a w (h2.trans hn) hrest h3 h1
  have hop:Ee F G w0 s a w→Qg P cf o (Oa P cf rest K) s→o.wp P a w (wpList P ops QQ rest) QQ:=by
   intro hr hk;have:=Qgi hr (fun b hb=>(hcf b hb).elim) (by rw[hn];exact ho.1) hk QQ;unfold Oper.wp at this ⊢
   revert this
   generalize(execOp a.eval o).run P w=res;intro this;have hm:∀a w,En F G w0 s.n (Oa P cf rest K) a w→wpList P ops QQ rest a w:=fun a w h=>hmono hn h;unfold Oper.upon at this ⊢;split at this<;>first
    |exact hm _ _ this
    |(refine Calls.mono this ?_;intro e w' h;cases e<;>first | exact hm _ _ h | exact h)
    |(refine Rows.mono this ?_;intro e w' h;exact hm _ _ h)
    |exact this
    |exact this.elim
  unfold wpList;unfold Oa at hk;rw[if_pos (by simp[Region.wanted,hk.1])];exact .inl (hop hr hk.2)
theorem AW.rgB {Q:Exit→St→Prop} {s:St} {id:Nat} {ops:Array Oper} (ro:List Nat) (h:Oa P (Dy.txt (roL ro)) ops.toList (Q .normal) s) (hok:B1 s.n ops=true:=by kernel_rfl):AW P (.region id ops false) Q s:=by
 intro F G w0 a w hr;refine wp_region_list (S3 (F:=F) (G:=G) (w0:=w0) (cf:=Dy.txt (roL ro)) (fun _ h=>h) s.n (K:=Q .normal) (fun a w h=>h) ops.toList s a w rfl (fun o ho=>?_) hr h);unfold B1 at hok;exact List.all_eq_true.1 hok o ho
@[simp] theorem Qxh (cf:Dy) (K:St→Prop) (s:St):Oa P cf [] K s=K s:=(rfl)
@[simp] theorem Qvj (cf:Dy) (d:Option Tmp) (op:Op) (t:TypeId) (p:String) (a:Array Edge) (l:List Oper) (K:St→Prop) (s:St) :
  Oa P cf ({dst:=d,op:=op,type:=t,pos:=p,after:=a,guard:=none}::l) K s↔Qg P cf {dst:=d,op:=op,type:=t,pos:=p,after:=a,guard:=none} (Oa P cf l K) s:=by
 show(_∧_)↔_
 simp
@[simp] theorem Qxk (cf:Dy) (K:St→Prop) (s:St) (d:Option Tmp) (x:Operand) (ty:TypeId) (p:String) (a:Array Edge) (g:Option (Nat × Bool)):Qg P cf ⟨d,.move x,ty,p,a,g⟩ K s=E0 P cf ⟨d,.move x,ty,p,a,g⟩ K s:=(rfl)
@[simp] theorem Qsg (cf:Dy) (K:St→Prop) (s:St) (d:Option Tmp) (x:Operand) (ty:TypeId) (p:String) (a:Array Edge) (g:Option (Nat × Bool)):Qg P cf ⟨d,.assign x,ty,p,a,g⟩ K s=E0 P cf ⟨d,.assign x,ty,p,a,g⟩ K s:=(rfl)
@[simp] theorem Qvn (cf:Dy) (K:St→Prop) (s:St) (d:Option Tmp) (o:BinOp) (t t':TypeId) (x y:Operand) (ty:TypeId) (p:String) (a:Array Edge) (g:Option (Nat × Bool)):Qg P cf ⟨d,.binOp o t x y t',ty,p,a,g⟩ K s=E0 P cf ⟨d,.binOp o t x y t',ty,p,a,g⟩ K s:=(rfl)
@[simp] theorem Q0b (cf:Dy) (K:St→Prop) (s:St) (d:Option Tmp) (t:TypeId) (x:Operand) (ty:TypeId) (p:String) (a:Array Edge) (g:Option (Nat × Bool)):Qg P cf ⟨d,.load t x,ty,p,a,g⟩ K s=E0 P cf ⟨d,.load t x,ty,p,a,g⟩ K s:=(rfl)
@[simp] theorem Qmy (cf:Dy) (K:St→Prop) (s:St) (d:Option Tmp) (t:TypeId) (x:Operand) (i:Nat) (ty:TypeId) (p:String) (a:Array Edge) (g:Option (Nat × Bool)):Qg P cf ⟨d,.fieldAddr t x i,ty,p,a,g⟩ K s=E0 P cf ⟨d,.fieldAddr t x i,ty,p,a,g⟩ K s:=(rfl)
@[simp] theorem Qkm (cf:Dy) (K:St→Prop) (s:St) (d:Option Tmp) (t:TypeId) (n:Nat) (ps:Array (Nat × Operand)) (ty:TypeId) (p:String) (a:Array Edge) (g:Option (Nat × Bool)):Qg P cf ⟨d,.buildSlice t n ps,ty,p,a,g⟩ K s=E0 P cf ⟨d,.buildSlice t n ps,ty,p,a,g⟩ K s:=(rfl)
@[simp] theorem Qxe (cf:Dy) (K:St→Prop) (s:St) (d:Option Tmp) (c:Call) (ty:TypeId) (p:String) (a:Array Edge) (g:Option (Nat × Bool)):Qg P cf ⟨d,.call c,ty,p,a,g⟩ K s=E0 P cf ⟨d,.call c,ty,p,a,g⟩ K s:=(rfl)
@[simp] theorem Qv4 (cf:Dy) (K:St→Prop) (s:St) (d:Option Tmp) (t ty:TypeId) (parts:Array (Nat × Operand)) (p:String) (a:Array Edge) (g:Option (Nat × Bool)):Qg P cf ⟨d,.build t parts,ty,p,a,g⟩ K s↔∃ti n e te zs,Ai P t=some ti∧ti.cls=.array n e∧Ai P e=some te∧te.size=1∧ti.zero=.agg zs∧zs.length=n∧parts.toList.map (·.1)=List.range n ∧
   (∀p∈parts.toList,∃kd m,s.ev p.2=.int kd m)∧I8 K s d (.agg (parts.toList.map fun p=>s.ev p.2)) s.m:=by
 unfold Qg Qq7;simp only[isB,if_true];exact Iff.rfl
end
end Go.Av
end
section
namespace Go.Av
open Go.Proofs Go.Lam
def eqB (w:Nat) (M:List (List Rat)):List AV:=(Be M).map An++List.replicate (w-M.length) .nil
def eqR (n:Nat) (es:List RE) (p:List Rat) (v:AV) (m:Ac):Prop:=match N5 n (Ag es) p es.length with
 |some M=>∃B,v=.tup [.osl B 1 0 es.length,.int .i64 0]∧m=Ac.emp.set B ⟨51,1,(Be M).map An⟩
 |none=>v=.tup [Au [],.int .i64 2]∧m=Ac.emp
theorem Mh (N:Nat) (es:List RE) (p:List Rat) (hN:1≤N) (hN12:N≤12) (hok:Nj N es) (h3:es.length≤40) (hp:Cy N p):Ak Tryz.prog 68 [.int .i64 (N:Nat),Bc es,An (p.map Ar)] Ac.emp (eqR N es p):=by
 have hzr:=S8 (2*N) (by omega);have w0:=Aq (2*N) (by omega);refine Ad Tryz.func68 rfl rfl 89 rfl (Nat.le_of_ble_eq_true rfl) ?_;unfold Bc An at *;(repeat refine AW.seq_k fun K hK=>?_);refine AW.rg ?_;simp[Al];try (refine hK _ rfl ?_;clear hK K)
 (repeat refine AW.seq_k fun K hK=>?_);refine AW.rg ?_;simp;try (refine hK _ rfl ?_;clear hK K)
 refine⟨by omega,Ae.intro fun B hB=>?_⟩;refine hK _ rfl ?_;clear hK K;have hB0:List.replicate es.length AV.nil=eqB es.length []:=by simp[eqB,Be]
 rw[hB0];refine AW.seq_ex (ι:=List (List Rat)) (fun M=>[(8,.osl B 1 0 es.length)]) (fun M=>Ac.emp.set B ⟨51,1,eqB es.length M⟩) (fun M=>N5 N (Ag es) p es.length=some M) ?_ ?_
 ·(repeat refine AW.seq_k fun K hK=>?_);refine AW.rg ?_;simp;try (refine hK _ rfl ?_;clear hK K)
  refine AW.block (AW.loopS (ι:=List (List Rat) × Nat) (fun z=>[(0,.int .i64 (N:Nat)),(1,.sl 6 (Dt es)),(2,.sl 4 (Bo (p.map Ar))),(8,.osl B 1 0 es.length),(20,.sl 6 (Dt es)),(21,.int .i64 (es.length:Nat)),(22,.int .i64 (z.2:Nat))]) (fun z=>Ac.emp.set B ⟨51,1,eqB es.length z.1⟩)
   (fun z=>z.2≤es.length∧N5 N (Ag es) p z.2=some z.1) (fun z=>es.length-z.2) ([],0) ⟨by simp,rfl⟩ rfl (by simp) ?_)
  rintro⟨M,i⟩ ⟨g1,g2⟩;simp only at g1 g2;obtain⟨gl,gg⟩:=Gq g2;(repeat refine AW.seq_k fun K hK=>?_);refine AW.rg ?_;simp;try (refine hK _ rfl ?_;clear hK K)
  (repeat refine AW.seq ?_);refine AW.cs (fun hi=>?_) (fun hi=>?_) rfl<;>(try simp at hi)
  ·refine AW.skip ?_;try simp
   try (refine hK _ rfl ?_;clear hK K)
   have w1:=Aq (i+1) (by omega);obtain⟨e1,e2,e3⟩:=hok i hi;obtain⟨a,ha⟩:∃a,(Ag es i).1=a:=⟨_,rfl⟩;obtain⟨b,hb⟩:∃b,(Ag es i).2=b:=⟨_,rfl⟩;have hsc:N5 N (Ag es) p (i+1)=(Ow N p a b 4).map fun r=>M++[r]:=by rw[N5,g2,ha,hb];rfl
   rw[ha]at e1;rw[hb]at e2;have han:a<N:=ha ▸ e3.1;have hbn:b<N:=hb ▸ e3.2.1;(repeat refine AW.seq ?_);refine AW.block ?_;(repeat refine AW.seq_k fun K hK=>?_);refine AW.rg ?_;simp[hi,Cq,e1,e2];try (refine hK _ rfl ?_;clear hK K)
   refine Ae.intro fun b10 hb10=>?_;refine hK _ rfl ?_;clear hK K;have ones0:∀c y,Ac.emp.set B ⟨51,1,eqB es.length M⟩ c=some y→∀v∈y.l,v.cells.all AV.one=true:=by
    intro c y hy v hv;by_cases e:c=B
    ·rw[e,Ac.set_same]at hy;cases hy;unfold eqB at hv;rcases List.mem_append.1 hv with hv | hv
     ·obtain⟨x,_,rfl⟩:=List.mem_map.1 hv;rfl
     ·rw[List.eq_of_mem_replicate hv];rfl
    ·rw[Ac.set_other _ _ e]at hy;cases hy
   generalize hM0:Ac.emp.set B ⟨51,1,eqB es.length M⟩=M0 at *;refine AW.turn [(0,.int .i64 (N:Nat)),(1,.sl 6 (Dt es)),(2,.sl 4 (Bo (p.map Ar))),(8,.osl B 1 0 es.length),(9,.int .i64 (i:Nat)),(10,.rptr [.int .i64 (a:Nat),.int .i64 (b:Nat),.bool (H9 es i).sq.n1,Ao (H9 es i).sq.l1,.bool (H9 es i).sq.n2,Ao (H9 es i).sq.l2]),(20,.sl 6 (Dt es)),(21,.int .i64 (es.length:Nat)),(22,.int .i64 (i:Nat))] M0 (Bm.drop hb10 ones0)
    (by simp;exact .ptr b10 6 0 0 ⟨46,6,[.agg [.int .i64 (a:Nat),.int .i64 (b:Nat),.bool (H9 es i).sq.n1,Ao (H9 es i).sq.l1,.bool (H9 es i).sq.n2,Ao (H9 es i).sq.l2]]⟩ (.agg [.int .i64 (a:Nat),.int .i64 (b:Nat),.bool (H9 es i).sq.n1,Ao (H9 es i).sq.l1,.bool (H9 es i).sq.n2,Ao (H9 es i).sq.l2]) (Ac.set_same _ _ _) hb10 rfl rfl) ?_
   (repeat refine AW.seq_k fun K hK=>?_);refine AW.rg ?_;simp[-Int.natCast_mul,w0];try (refine hK _ rfl ?_;clear hK K)
   refine Aa.make (R:=fun b v x=>v=.osl b 4 0 (2*N)∧x=⟨44,4,Bo (List.replicate (2*N) (Ar 0))⟩) (hzr.mono fun v m ⟨b,h1,h2⟩=>⟨b,_,⟨h1,rfl⟩,h2⟩) ?_;rintro br _ _ ⟨rfl,rfl⟩ hbr _;simp[-Int.natCast_mul];try (refine hK _ rfl ?_;clear hK K)
   have hz0:Bo (List.replicate (2*N) (Ar 0))=Bo ((List.replicate (2*N) (0:Rat)).map Ar):=by simp
   rw[hz0];have wa:=Aq (2*a) (by omega);have wb:=Aq (2*b) (by omega);refine AW.seq_ex (ι:=List Rat) (fun _=>[(0,.int .i64 (N:Nat)),(1,.sl 6 (Dt es)),(2,.sl 4 (Bo (p.map Ar))),(8,.osl B 1 0 es.length),(9,.int .i64 (i:Nat)),(11,.osl br 4 0 (2*N)),(20,.sl 6 (Dt es)),(21,.int .i64 (es.length:Nat)),(22,.int .i64 (i:Nat))]) (fun r=>M0.set br ⟨44,4,Bo (r.map Ar)⟩) (fun r=>Ow N p a b 4=some r) ?_ ?_
   ·(repeat refine AW.seq_k fun K hK=>?_);refine AW.rgB [44] ?_;simp[-Int.natCast_mul,wa,wb];refine⟨2,3,⟨rfl,rfl⟩,_,ti3,rfl,rfl,rfl,2,3,⟨rfl,rfl⟩,_,ti3,rfl,rfl,rfl,?_⟩;try (refine hK _ rfl ?_;clear hK K)
    refine AW.block (AW.loopS (ι:=List Rat × Nat) (fun z=>[(0,.int .i64 (N:Nat)),(1,.sl 6 (Dt es)),(2,.sl 4 (Bo (p.map Ar))),(8,.osl B 1 0 es.length),(9,.int .i64 (i:Nat)),(11,.osl br 4 0 (2*N)),(20,.sl 6 (Dt es)),(21,.int .i64 (es.length:Nat)),(22,.int .i64 (i:Nat)),(44,.sl 2 [.agg [.int .i64 ((2*a:Nat):Int),.int .i64 ((2*b:Nat):Int)],.agg [.int .i64 ((2*b:Nat):Int),.int .i64 ((2*a:Nat):Int)]]),(45,.int .i64 2),(46,.int .i64 (z.2:Nat))]) (fun z=>M0.set br ⟨44,4,Bo (z.1.map Ar)⟩) (fun z=>z.2≤2∧Ow N p a b (2*z.2)=some z.1) (fun z=>2-z.2)
     (List.replicate (2*N) 0,0) ⟨by simp,rfl⟩ (by simp) (by simp[-Int.natCast_mul]) ?_)
    rintro⟨r,t⟩ ⟨k1,k2⟩;simp only at k1 k2;(repeat refine AW.seq_k fun K hK=>?_);refine AW.rg ?_;simp[-Int.natCast_mul];try (refine hK _ rfl ?_;clear hK K)
    (repeat refine AW.seq ?_);refine AW.cs (fun ht=>?_) (fun ht=>?_) rfl<;>(try simp at ht)
    ·refine AW.skip ?_;try simp[-Int.natCast_mul]
     try (refine hK _ rfl ?_;clear hK K)
     have wt:=Aq (t+1) (by omega);obtain⟨u,hu⟩:∃u,(if t<1 then 2*a else 2*b)=u:=⟨_,rfl⟩;obtain⟨v,hv⟩:∃v,(if t<1 then 2*b else 2*a)=v:=⟨_,rfl⟩;have hpr:∀h:t<[AV.agg [.int .i64 ((2*a:Nat):Int),.int .i64 ((2*b:Nat):Int)],AV.agg [.int .i64 ((2*b:Nat):Int),.int .i64 ((2*a:Nat):Int)]].length,[AV.agg [.int .i64 ((2*a:Nat):Int),.int .i64 ((2*b:Nat):Int)],AV.agg [.int .i64 ((2*b:Nat):Int),.int .i64 ((2*a:Nat):Int)]][t]=.agg [.int .i64 (u:Nat),.int .i64 (v:Nat)]:=fun h=>by
      rcases(by omega:t=0∨t=1)with rfl|rfl
      ·rw[←hu,←hv];rfl
      ·rw[←hu,←hv];rfl
     generalize hprs:[AV.agg [.int .i64 ((2*a:Nat):Int),.int .i64 ((2*b:Nat):Int)],AV.agg [.int .i64 ((2*b:Nat):Int),.int .i64 ((2*a:Nat):Int)]]=PRS at hpr ⊢;have hprl:PRS.length=2:=by rw[←hprs];rfl
     (repeat refine AW.seq ?_);refine AW.block ?_;(repeat refine AW.seq_k fun K hK=>?_);refine AW.rg ?_;simp[ht,hprl,hpr,Mc.agg];try (refine hK _ rfl ?_;clear hK K)
     refine Ae.intro fun b13 hb13=>?_;refine hK _ rfl ?_;clear hK K;have ones1:∀c y,M0.set br ⟨44,4,Bo (r.map Ar)⟩ c=some y→∀v∈y.l,v.cells.all AV.one=true:=by
      intro c y hy v hv;by_cases e:c=br
      ·rw[e,Ac.set_same]at hy;cases hy;exact J5 _ v hv
      ·rw[Ac.set_other _ _ e]at hy;exact ones0 c y hy v hv
     refine AW.turn [(0,.int .i64 (N:Nat)),(1,.sl 6 (Dt es)),(2,.sl 4 (Bo (p.map Ar))),(8,.osl B 1 0 es.length),(9,.int .i64 (i:Nat)),(11,.osl br 4 0 (2*N)),(20,.sl 6 (Dt es)),(21,.int .i64 (es.length:Nat)),(22,.int .i64 (i:Nat)),(13,.rptr [.int .i64 (u:Nat),.int .i64 (v:Nat)]),(44,.sl 2 PRS),(45,.int .i64 2),(46,.int .i64 (t:Nat))] (M0.set br ⟨44,4,Bo (r.map Ar)⟩) (Bm.drop hb13 ones1)
      (by simp;exact .ptr b13 2 0 0 ⟨121,2,[.agg [.int .i64 (u:Nat),.int .i64 (v:Nat)]]⟩ (.agg [.int .i64 (u:Nat),.int .i64 (v:Nat)]) (Ac.set_same _ _ _) hb13 rfl rfl) ?_
     (repeat refine AW.seq_k fun K hK=>?_);refine AW.rg ?_;simp;try (refine hK _ rfl ?_;clear hK K)
     refine AW.block (AW.loopS (ι:=List Rat × Nat) (fun z=>[(0,.int .i64 (N:Nat)),(1,.sl 6 (Dt es)),(2,.sl 4 (Bo (p.map Ar))),(8,.osl B 1 0 es.length),(9,.int .i64 (i:Nat)),(11,.osl br 4 0 (2*N)),(20,.sl 6 (Dt es)),(21,.int .i64 (es.length:Nat)),(22,.int .i64 (i:Nat)),(13,.rptr [.int .i64 (u:Nat),.int .i64 (v:Nat)]),(44,.sl 2 PRS),(45,.int .i64 2),(46,.int .i64 (t:Nat)),(50,.int .i64 (z.2:Nat))]) (fun z=>M0.set br ⟨44,4,Bo (z.1.map Ar)⟩) (fun z=>z.2≤2∧Ow N p a b (2*t+z.2)=some z.1) (fun z=>2-z.2)
      (r,0) ⟨by simp,k2⟩ rfl (by simp) ?_)
     rintro⟨r,k⟩ ⟨j1,j2⟩;simp only at j1 j2;(repeat refine AW.seq_k fun K hK=>?_);refine AW.rg ?_;simp;try (refine hK _ rfl ?_;clear hK K)
     (repeat refine AW.seq ?_);refine AW.cs (fun hk=>?_) (fun hk=>?_) rfl<;>(try simp at hk)
     ·refine AW.skip ?_;try simp
      try (refine hK _ rfl ?_;clear hK K)
      have wk:=Aq (k+1) (by omega);have hul:u+k<2*N:=by rw[←hu];split<;>omega
      have hvl:v+k<2*N:=by rw[←hv];split<;>omega
      have wu:=Aq (u+k) (by omega);have wv:=Aq (v+k) (by omega);have hpl:p.length=2*N:=hp.1;have hg:∀i,i<2*N→B0 (Ba p i):=fun i hi=>by
       unfold Ba;rw[List.getD_eq_getElem?_getD,List.getElem?_eq_getElem (by omega)];exact hp.2 _ (List.getElem_mem _)
      have hsu:=N0 (Ba p (u+k)) (Ba p (v+k)) (hg _ hul) (hg _ hvl);have hrr:∀i,i<2*N→rr (p.map Ar) i=Ar (Ba p i):=fun i hi=>by
       rw[Ja (by simp;omega)];unfold Ba;simp[hpl,hi]
      (repeat refine AW.seq ?_);refine AW.block ?_;(repeat refine AW.seq_k fun K hK=>?_);refine AW.rg ?_;simp;try (refine hK _ rfl ?_;clear hK K)
      (repeat refine AW.seq_k fun K hK=>?_);refine AW.rd [0,1,2,3,4,5,6,7,8,9,10,11,12,13,14,15,16,17,18,19,20] Dm ?_;simp[-Int.natCast_mul,-Int.natCast_add,wu,wv,hul,hvl,hpl,hrr];cases hd:Da (Ba p (u+k)) (Ba p (v+k))with
      |none =>
       rw[hd,←Dx,←Dx,D6]at hsu;unfold RR.av B9 at hsu;refine Aa.val hsu ?_;simp[-Int.natCast_add];refine Ae.intro fun b15 hb15=>?_;refine hK _ rfl ?_;clear hK K;(repeat refine AW.seq_k fun K hK=>?_);refine AW.rg ?_;simp[-Int.natCast_add];try (refine hK _ rfl ?_;clear hK K)
       refine AW.yes ?_ rfl;(repeat refine AW.seq_k fun K hK=>?_);refine AW.rg ?_;simp[-Int.natCast_add];try (refine hK _ rfl ?_;clear hK K)
       have hno:eqR N es p (.tup [Au [],.int .i64 2]) Ac.emp:=by
        have hui:uI a b (2*t+k)=u+k:=by unfold uI;rw[←hu];split<;>split<;>omega
        have hvi:vI a b (2*t+k)=v+k:=by unfold vI;rw[←hv];split<;>split<;>omega
        have hs1:Ow N p a b (2*t+k+1)=none:=by rw[Ow,j2,hui,hvi,Option.bind_some,hd];rfl
        have hs4:=Wf (t:=4) hs1 (by omega);have hm:=Vy (t:=es.length) (show N5 N (Ag es) p (i+1)=none by rw[hsc,hs4];rfl) (by omega);unfold eqR;rw[hm];exact⟨rfl,rfl⟩
       exact AW.ret (Af [Au [],.int .i64 2] rfl ⟨.nilsl 1,.same _,trivial⟩ hno)
      |some d =>
       rw[hd,←Dx,←Dx,D6,←Dx]at hsu;unfold RR.av at hsu;refine Aa.val hsu ?_;simp[-Int.natCast_add];refine Ae.intro fun b15 hb15=>?_;refine hK _ rfl ?_;clear hK K;have hui:uI a b (2*t+k)=u+k:=by unfold uI;rw[←hu];split<;>split<;>omega
       have hvi:vI a b (2*t+k)=v+k:=by unfold vI;rw[←hv];split<;>split<;>omega
       have hst:Ow N p a b (2*t+(k+1))=some (r.set (u+k) d):=by
        rw[show 2*t+(k+1)=(2*t+k)+1 by omega,Ow,j2,hui,hvi,Option.bind_some,hd];rfl
       have ones2:∀c y,M0.set br ⟨44,4,Bo (r.map Ar)⟩ c=some y→∀v∈y.l,v.cells.all AV.one=true:=by
        intro c y hy v hv;by_cases e:c=br
        ·rw[e,Ac.set_same]at hy;cases hy;exact J5 _ v hv
        ·rw[Ac.set_other _ _ e]at hy;exact ones0 c y hy v hv
       have hrl:(Bo (r.map Ar)).length=2*N:=by simp[Bo];exact(Jl j2).1
       refine AW.turn [(0,.int .i64 (N:Nat)),(1,.sl 6 (Dt es)),(2,.sl 4 (Bo (p.map Ar))),(8,.osl B 1 0 es.length),(9,.int .i64 (i:Nat)),(11,.osl br 4 0 (2*N)),(20,.sl 6 (Dt es)),(21,.int .i64 (es.length:Nat)),(22,.int .i64 (i:Nat)),(13,.rptr [.int .i64 (u:Nat),.int .i64 (v:Nat)]),(14,.int .i64 (k:Nat)),(15,.rptr [.bool (Ar d).n1,Ao (Ar d).l1,.bool (Ar d).n2,Ao (Ar d).l2]),(16,.int .i64 0),(44,.sl 2 PRS),(45,.int .i64 2),(46,.int .i64 (t:Nat)),(50,.int .i64 (k:Nat))] (M0.set br ⟨44,4,Bo (r.map Ar)⟩) (Bm.drop hb15 ones2)
        (by simp[-Int.natCast_add];exact Gh hb15) ?_
       (repeat refine AW.seq_k fun K hK=>?_);refine AW.rg ?_;simp;try (refine hK _ rfl ?_;clear hK K)
       refine AW.no ?_ rfl;refine AW.skip ?_;try simp
       try (refine hK _ rfl ?_;clear hK K)
       (repeat refine AW.seq_k fun K hK=>?_);refine AW.rg ?_;simp[-Int.natCast_mul,-Int.natCast_add,wu,hul,hrl];try (refine hK _ rfl ?_;clear hK K)
       have hset:(Bo (r.map Ar)).set (u+k) (.agg [.bool (Ar d).n1,Ao (Ar d).l1,.bool (Ar d).n2,Ao (Ar d).l2])=Bo ((r.set (u+k) d).map Ar):=by
        unfold Bo;rw[List.map_set,List.map_set];rfl
       rw[hset];(repeat refine AW.seq_k fun K hK=>?_);refine AW.rg ?_;simp[-Int.natCast_add,wk];try (refine hK _ rfl ?_;clear hK K)
       exact⟨r.set (u+k) d,k+1,⟨by omega,hst⟩,by omega,by rw[List.map_set],rfl⟩
     ·refine AW.exit ?_;try simp
      have:k=2:=by omega
      subst this;(repeat refine AW.seq_k fun K hK=>?_);refine AW.rg ?_;simp[-Int.natCast_add,wt];try (refine hK _ rfl ?_;clear hK K)
      exact⟨r,t+1,⟨by omega,by rw[show 2*(t+1)=2*t+2 by omega];exact j2⟩,by omega,rfl,rfl⟩
    ·refine AW.exit ?_;try simp[-Int.natCast_mul]
     have:t=2:=by omega
     subst this;exact⟨r,k2,rfl⟩
   rintro r hr;have hrl:(Bo (r.map Ar)).length=2*N:=by simp[Bo];exact(Jl hr).1
   have hsr:N5 N (Ag es) p (i+1)=some (M++[r]):=by rw[hsc,hr];rfl
   have hbl:(eqB es.length M).length=es.length:=by simp[eqB,Be,gl];omega
   have hpush:(eqB es.length M).set i (.sl 4 (Bo (r.map Ar)))=eqB es.length (M++[r]):=by
    unfold eqB;rw[List.set_append_right _ _ (by simp[Be,gl]),show i-((Be M).map An).length=0 by simp[Be,gl],show es.length-M.length=(es.length-(M.length+1))+1 by omega,List.replicate_succ,List.set_cons_zero];simp[Be,An]
   refine AW.turn [(0,.int .i64 (N:Nat)),(1,.sl 6 (Dt es)),(2,.sl 4 (Bo (p.map Ar))),(8,.osl B 1 0 es.length),(9,.int .i64 (i:Nat)),(11,.sl 4 (Bo (r.map Ar))),(20,.sl 6 (Dt es)),(21,.int .i64 (es.length:Nat)),(22,.int .i64 (i:Nat))] M0 (Bm.drop hbr ones0) ?_ ?_
   ·simp;refine .osl br 4 0 (2*N) _ (Bo (r.map Ar)) (Ac.set_same _ _ _) hbr rfl hrl (by simp[hrl]) (fun k v v' h1 h2=>?_);rw[Nat.zero_add]at h1;rw[h1]at h2;cases h2;exact .same _
   subst hM0;(repeat refine AW.seq_k fun K hK=>?_);refine AW.rg ?_;simp[hi,hbl];try (refine hK _ rfl ?_;clear hK K)
   rw[hpush];(repeat refine AW.seq_k fun K hK=>?_);refine AW.rg ?_;simp[-Int.natCast_add,w1];try (refine hK _ rfl ?_;clear hK K)
   exact⟨_,i+1,⟨by omega,hsr⟩,by omega,rfl,rfl⟩
  ·refine AW.exit ?_;try simp
   have:i=es.length:=by omega
   subst this;exact⟨M,g2,rfl⟩
 rintro M hM;obtain⟨gl,gg⟩:=Gq hM;(repeat refine AW.seq_k fun K hK=>?_);refine AW.rg ?_;simp;try (refine hK _ rfl ?_;clear hK K)
 have e0:eqB es.length M=(Be M).map An:=by unfold eqB;rw[gl];simp
 rw[e0];refine AW.ret (Cf rfl (F4.set (M:=Ac.emp) (fun c y hy=>by cases hy) B (Pf M)) ?_);unfold eqR;rw[hM];exact⟨B,rfl,rfl⟩
end Go.Av
end
section
namespace Go.Av
open Go.Proofs Go.Lam
noncomputable def Je (m:List (List RR)):AV:=match (W9 m).1,(W9 m).2 with
 |0,v::_=>.tup [An (v.map Ar),.bool true,.int .i64 0]
 |e,_=>.tup [An [],.bool false,.int .i64 e]
theorem V3 (m:List (List RR)) (hm:Zf m):Ak Tryz.prog 70 [Au m] Ac.emp fun v mm=>v=Je m∧mm=Ac.emp:=by
 have hk:=Zs m hm;unfold Je;generalize W9 m=K0 at *;obtain⟨e,V⟩:=K0;simp only at *;refine Ad Tryz.func70 rfl rfl 23 rfl (Nat.le_of_ble_eq_true rfl) ?_;unfold Au at hk ⊢;(repeat refine AW.seq_k fun K hK=>?_);refine AW.rg ?_;simp[Al];try (refine hK _ rfl ?_;clear hK K)
 (repeat refine AW.seq_k fun K hK=>?_);refine AW.rg ?_;simp;try (refine hK _ rfl ?_;clear hK K)
 refine Aa.val hk ?_;simp;try (refine hK _ rfl ?_;clear hK K)
 by_cases he:e=0
 ·subst he;cases V with
  |nil =>
   (repeat refine AW.seq_k fun K hK=>?_);refine AW.rg ?_;simp[Be];try (refine hK _ rfl ?_;clear hK K)
   refine AW.yes ?_ (by simp[Be]);(repeat refine AW.seq_k fun K hK=>?_);refine AW.rg ?_;simp;try (refine hK _ rfl ?_;clear hK K)
   exact AW.ret (Af [An [],.bool false,.int .i64 0] rfl ⟨.nilsl 4,.same _,.same _,trivial⟩ ⟨rfl,rfl⟩)
  |cons v t =>
   (repeat refine AW.seq_k fun K hK=>?_);refine AW.rg ?_;simp[-Int.natCast_add,Be];try (refine hK _ rfl ?_;clear hK K)
   refine AW.no ?_ (by simp[-Int.natCast_add,Be]);refine AW.skip ?_;try simp[-Int.natCast_add]
   try (refine hK _ rfl ?_;clear hK K)
   (repeat refine AW.seq_k fun K hK=>?_);refine AW.rg ?_;simp[-Int.natCast_add,Be];try (refine hK _ rfl ?_;clear hK K)
   exact AW.ret (Af [An (v.map Ar),.bool true,.int .i64 0] rfl ⟨.same _,.same _,.same _,trivial⟩ ⟨rfl,rfl⟩)
 ·(repeat refine AW.seq_k fun K hK=>?_);refine AW.rg ?_;simp[he];try (refine hK _ rfl ?_;clear hK K)
  refine AW.yes ?_ (by simp[he]);(repeat refine AW.seq_k fun K hK=>?_);refine AW.rg ?_;simp;try (refine hK _ rfl ?_;clear hK K)
  exact AW.ret (Af [An [],.bool false,.int .i64 e] rfl ⟨.nilsl 4,.same _,.same _,trivial⟩ ⟨by cases V<;>(split<;>first | rfl | contradiction | simp_all),rfl⟩)
end Go.Av
end
section
namespace Go.Av
open Go.Proofs Go.Lam
def Kt (n:Nat) (p:List Rat):AV:=match N7 n p with
 |some M=>.tup [Au (Be M),.int .i64 0]
 |none=>.tup [Au [],.int .i64 2]
def Mn (p:List Rat) (k:Nat):Prop:=Ba p (2*k)=Ba p 0∧Ba p (2*k+1)=Ba p 1
theorem Yx {n:Nat} {p:List Rat} (h:∀k,1≤k→k<n→Mn p k):Rj n p=none:=by
 unfold Rj;rw[List.find?_range_eq_none];intro k hk;by_cases h1:1≤k
 ·obtain⟨a,b⟩:=h k h1 hk;simp[a,b]
 ·simp[h1]
theorem Nw {n i:Nat} {p:List Rat} (h1:1≤i) (hi:i<n) (hd:¬Mn p i) (h:∀k,1≤k→k<i→Mn p k):Rj n p=some i:=by
 unfold Rj;rw[List.find?_range_eq_some];refine⟨?_,List.mem_range.2 hi,fun k hk=>?_⟩
 ·unfold Mn at hd;by_cases a:Ba p (2*i)=Ba p 0
  ·have b:¬Ba p (2*i+1)=Ba p 1:=fun b=>hd ⟨a,b⟩;simp[h1,b]
  ·simp[h1,a]
 ·by_cases g:1≤k
  ·obtain⟨a,b⟩:=h k g hk;simp[a,b]
  ·simp[g]
def Zu (o:Option Rat):RR:=match o with | some d=>Ar d | none=>⟨false,[],false,[]⟩
def Qcr (o:Option Rat):Int:=match o with | some _=>0 | none=>2
theorem Qbl (o:Option Rat):D6 o=.tup [(Zu o).av,.int .i64 (Qcr o)]:=by cases o<;>rfl
theorem He {n i:Nat} {p:List Rat} (h:Rj n p=some i):N7 n p=(Da (Ba p 1) (Ba p (2*i+1))).bind fun d1=>(Da (Ba p (2*i)) (Ba p 0)).map fun d2=>[(List.replicate (2*n) (0:Rat)).set 0 1,(List.replicate (2*n) (0:Rat)).set 1 1,((List.replicate (2*n) (0:Rat)).set (2*i) d1).set (2*i+1) d2]:=by
 unfold N7;rw[h]
theorem Cb {M M':Ac} {b n z:Nat} {l:List AV} {e:TypeId} (h:M b=some ⟨e,z,l⟩) (h':M' b=none) (hl:l.length=n):B2 M M' (.osl b z 0 n) (.sl z l) :=
 .osl b z 0 n _ l h h' rfl hl (by simp[hl]) (fun k v v' h1 h2=>by rw[Nat.zero_add]at h1;rw[h1]at h2;cases h2;exact .same _)
theorem Qij (N:Nat) (p:List Rat) (hN:1≤N) (hN12:N≤12) (hp:Cy N p):Ak Tryz.prog 69 [.int .i64 (N:Nat),An (p.map Ar)] Ac.emp fun v m=>v=Kt N p∧m=Ac.emp:=by
 have hzr:=S8 (2*N) (by omega);have hw1:=Sf 1 (by omega) (by omega);rw[I3]at hw1;have w0:=Aq (2*N) (by omega);have hpl:p.length=2*N:=hp.1;have hg:∀i,i<2*N→B0 (Ba p i):=fun i hi=>by
  unfold Ba;rw[List.getD_eq_getElem?_getD,List.getElem?_eq_getElem (by omega)];exact hp.2 _ (List.getElem_mem _)
 have hrr:∀i,i<2*N→rr (p.map Ar) i=Ar (Ba p i):=fun i hi=>by
  rw[Ja (by simp;omega)];unfold Ba;simp[hpl,hi]
 have hdf:∀i j,i<2*N→j<2*N→Ak Tryz.prog 105 [(Ar (Ba p i)).av,(Ar (Ba p j)).av] Ac.emp fun v m=>v=.bool (decide (Ba p i≠Ba p j))∧m=Ac.emp:=fun i j hi hj=>by
  have:=Zk (Ar (Ba p i)) (Ar (Ba p j)) (Eb _) (Eb _) (D0 (hg i hi)) (D0 (hg j hj));rw[F3,F3]at this;exact this
 refine Ad Tryz.func69 rfl rfl 99 rfl (Nat.le_of_ble_eq_true rfl) ?_;unfold An at *;(repeat refine AW.seq_k fun K hK=>?_);refine AW.rg ?_;simp[Al];try (refine hK _ rfl ?_;clear hK K)
 (repeat refine AW.seq_k fun K hK=>?_);refine AW.rg ?_;simp[-Int.natCast_mul,w0];try (refine hK _ rfl ?_;clear hK K)
 refine Aa.make (R:=fun b v x=>v=.osl b 4 0 (2*N)∧x=⟨44,4,Bo (List.replicate (2*N) (Ar 0))⟩) (hzr.mono fun v m ⟨b,h1,h2⟩=>⟨b,_,⟨h1,rfl⟩,h2⟩) ?_;rintro b0 _ _ ⟨rfl,rfl⟩ hb0 _;simp[-Int.natCast_mul,w0];refine Aa.make (R:=fun b v x=>v=.osl b 4 0 (2*N)∧x=⟨44,4,Bo (List.replicate (2*N) (Ar 0))⟩) (hzr.mono fun v m ⟨b,h1,h2⟩=>⟨b,_,⟨h1,rfl⟩,h2⟩) ?_;rintro b1 _ _ ⟨rfl,rfl⟩ hb1 _;simp[-Int.natCast_mul];refine Ae.intro fun B hB=>?_;try (refine hK _ rfl ?_;clear hK K)
 have hz0:Bo (List.replicate (2*N) (Ar 0))=Bo ((List.replicate (2*N) (0:Rat)).map Ar):=by simp
 have hzl:(Bo (List.replicate (2*N) (Ar 0))).length=2*N:=by simp[Bo]
 generalize hz:Bo (List.replicate (2*N) (Ar 0))=Z at *;have n10:b1≠b0:=fun h=>by simp[h]at hb1
 have nB0:B≠b0:=fun h=>by simp[h]at hB
 have nB1:B≠b1:=fun h=>by simp[h]at hB
 have hN2:0<2*N:=by omega
 have hN3:1<2*N:=by omega
 (repeat refine AW.seq_k fun K hK=>?_);refine AW.rdA B [0,1,2,3,4,5,6,7,8,9,10,11] Dm (by simp[-Int.natCast_mul,hzl,hN2,hN3,n10,nB0,nB1]) ?_;simp[-Int.natCast_mul,hzl,hN2,hN3,n10,nB0,nB1];try (refine hK _ rfl ?_;clear hK K)
 refine Aa.val hw1 ?_;simp[-Int.natCast_mul];refine Aa.val hw1 ?_;simp[-Int.natCast_mul,hzl,hN2,hN3,n10,nB0,nB1,Ne.symm nB0,Ne.symm nB1];try (refine hK _ rfl ?_;clear hK K)
 have hr0:Z.set 0 (Ar 1).av=Bo (((List.replicate (2*N) (0:Rat)).set 0 1).map Ar):=by rw[hz0,List.map_set];exact Il _ _ _
 have hr1:Z.set 1 (Ar 1).av=Bo (((List.replicate (2*N) (0:Rat)).set 1 1).map Ar):=by rw[hz0,List.map_set];exact Il _ _ _
 rw[hr0,hr1];have hl0:(Bo (((List.replicate (2*N) (0:Rat)).set 0 1).map Ar)).length=2*N:=by simp[Bo]
 have hl1:(Bo (((List.replicate (2*N) (0:Rat)).set 1 1).map Ar)).length=2*N:=by simp[Bo]
 have hem:∀l,(Be [(List.replicate (2*N) (0:Rat)).set 0 1,(List.replicate (2*N) (0:Rat)).set 1 1,l]).map An=[.sl 4 (Bo (((List.replicate (2*N) (0:Rat)).set 0 1).map Ar)),.sl 4 (Bo (((List.replicate (2*N) (0:Rat)).set 1 1).map Ar)),.sl 4 (Bo (l.map Ar))]:=fun _=>rfl;have hem2:(Be [(List.replicate (2*N) (0:Rat)).set 0 1,(List.replicate (2*N) (0:Rat)).set 1 1]).map An=[.sl 4 (Bo (((List.replicate (2*N) (0:Rat)).set 0 1).map Ar)),.sl 4 (Bo (((List.replicate (2*N) (0:Rat)).set 1 1).map Ar))]:=rfl;have hpN:Rj N p=none→Kt N p=.tup [.sl 1 [.sl 4 (Bo (((List.replicate (2*N) (0:Rat)).set 0 1).map Ar)),.sl 4 (Bo (((List.replicate (2*N) (0:Rat)).set 1 1).map Ar))],.int .i64 0]:=fun h=>by
  unfold Kt N7 Au;rw[h];rfl
 generalize Bo (((List.replicate (2*N) (0:Rat)).set 0 1).map Ar)=R0 at *;generalize Bo (((List.replicate (2*N) (0:Rat)).set 1 1).map Ar)=R1 at *;generalize hM0:Ac.emp.set B ⟨51,1,[.sl 4 R0,.sl 4 R1]⟩=M0;have hM0B:M0 B=some ⟨51,1,[.sl 4 R0,.sl 4 R1]⟩:=by rw[←hM0];exact Ac.set_same _ _ _
 have hM0n:∀c,c≠B→M0 c=none:=fun c h=>by rw[←hM0];exact Ac.set_other _ _ h
 have ones0:F4 M0:=by
  rw[←hM0];exact F4.set (M:=Ac.emp) (fun c y hy=>by cases hy) B (by simp[AV.cells,AV.one])
 refine AW.turn [(0,.int .i64 (N:Nat)),(1,.sl 4 (Bo (p.map Ar))),(6,.osl B 1 0 2)] M0 ⟨fun c x' hx'=>?_⟩ (by simp[-Int.natCast_mul]) ?_
 ·by_cases hc:c=B
  ·subst hc;rw[hM0B]at hx';cases hx';refine⟨⟨51,1,[.osl b0 4 0 (2*N),.osl b1 4 0 (2*N)]⟩,by simp[nB0,nB1],rfl,rfl,rfl,fun k v v' h1 h2=>?_⟩
   match k with
   |0 =>
    cases h1;cases h2;exact⟨Cb (by simp[Ne.symm n10];rfl) (hM0n _ (Ne.symm nB0)) hl0,rfl⟩
   |1 =>
    cases h1;cases h2;exact⟨Cb (by simp;rfl) (hM0n _ (Ne.symm nB1)) hl1,rfl⟩
   |k+2=>cases h1
  ·rw[hM0n c hc]at hx';cases hx'
 refine AW.seq_ex (ι:=Unit) (fun _=>[(6,.osl B 1 0 2)]) (fun _=>M0) (fun _=>Rj N p=none) ?_ ?_
 ·(repeat refine AW.seq_k fun K hK=>?_);refine AW.rg ?_;simp;try (refine hK _ rfl ?_;clear hK K)
  refine AW.block (AW.loopS (ι:=Nat) (fun i=>[(0,.int .i64 (N:Nat)),(1,.sl 4 (Bo (p.map Ar))),(6,.osl B 1 0 2),(7,.int .i64 ((2*i:Nat):Int))]) (fun _=>M0) (fun i=>1≤i∧i≤N∧∀k,1≤k→k<i→Mn p k) (fun i=>N-i) 1 ⟨by omega,by omega,fun k h1 h2=>by omega⟩ rfl (by simp) ?_);rintro i ⟨g1,g2,g3⟩;(repeat refine AW.seq_k fun K hK=>?_);refine AW.rg ?_;simp[-Int.natCast_mul,w0];try (refine hK _ rfl ?_;clear hK K)
  (repeat refine AW.seq ?_);refine AW.cs (fun hi=>?_) (fun hi=>?_) rfl<;>(try simp at hi)
  ·refine AW.skip ?_;try simp[-Int.natCast_mul]
   try (refine hK _ rfl ?_;clear hK K)
   have hi':i<N:=by omega
   have a0:2*i<2*N:=by omega
   have a1:2*i+1<2*N:=by omega
   have w2:=Aq (2*i+1) (by omega);have w3:=Aq (2*i+2) (by omega);have d0:=hdf (2*i) 0 a0 hN2;have d1:=hdf (2*i+1) 1 a1 hN3;unfold RR.av at d0 d1;have hr0:=hrr _ a0;have hr1:=hrr _ a1;have hr2:=hrr 0 hN2;have hr3:=hrr 1 hN3;obtain⟨T,hT⟩:∃T:Bool,(T=true↔Mn p i):=⟨(decide (Ba p (2*i)=Ba p 0)&&decide (Ba p (2*i+1)=Ba p 1)),by simp[Mn]⟩;(repeat refine AW.seq ?_);refine AW.block ?_;refine AW.seq_k fun K hK=>?_;refine AW.seq_ex (ι:=Unit) (fun _=>[(0,.int .i64 (N:Nat)),(1,.sl 4 (Bo (p.map Ar))),(6,.osl B 1 0 2),(7,.int .i64 ((2*i:Nat):Int)),(54,.bool T)]) (fun _=>M0) (fun _=>True) ?_ ?_
   ·refine AW.rd [0,1,2,3,4,5,6,7,8,9,10,11,12,13,14,15,16,17,18,19,20] Dm ?_;simp[-Int.natCast_mul,hpl,a0,hN2,hr0,hr2];refine Aa.val d0 ?_;by_cases e0:Ba p (2*i)=Ba p 0
    ·simp[-Int.natCast_add,-Int.natCast_mul,e0,w2,hpl,a1,hN3,hr1,hr3];refine Aa.val d1 ?_;simp[-Int.natCast_add,-Int.natCast_mul];rw[Bool.eq_iff_iff,hT];simp[Mn,e0]
    ·simp[-Int.natCast_mul,e0];rw[←Bool.not_eq_true,hT];simp[Mn,e0]
   rintro _ _;cases T with
   |true =>
    have hs:=hT.1 rfl;refine AW.yes ?_ rfl;refine AW.exit ?_;try simp[-Int.natCast_mul]
    (repeat refine AW.seq_k fun K hK=>?_);refine AW.rg ?_;simp[-Int.natCast_add,-Int.natCast_mul,w3];try (refine hK _ rfl ?_;clear hK K)
    exact⟨i+1,⟨by omega,by omega,fun k h1 h2=>by
     rcases Nat.lt_or_ge k i with h|h
     ·exact g3 k h1 h
     ·rw[show k=i by omega];exact hs⟩,by omega,rfl⟩
   |false =>
    have hns:¬Mn p i:=fun h=>by have:=hT.2 h;cases this
    have hpj:=Nw g1 hi' hns g3;have s1:=N0 (Ba p 1) (Ba p (2*i+1)) (hg _ hN3) (hg _ a1);have s2:=N0 (Ba p (2*i)) (Ba p 0) (hg _ a0) (hg _ hN2);rw[Qbl,←Dx,←Dx]at s1 s2;unfold RR.av at s1 s2;refine AW.no ?_ rfl;refine AW.skip ?_;try simp[-Int.natCast_mul]
    try (refine hK _ rfl ?_;clear hK K)
    (repeat refine AW.seq_k fun K hK=>?_);refine AW.rg ?_;simp[-Int.natCast_mul,w0];try (refine hK _ rfl ?_;clear hK K)
    refine Aa.make (R:=fun b v x=>v=.osl b 4 0 (2*N)∧x=⟨44,4,Z⟩) (hzr.mono fun v m ⟨b,h1,h2⟩=>⟨b,_,⟨h1,rfl⟩,h2⟩) ?_;rintro br _ _ ⟨rfl,rfl⟩ hbr _;simp[-Int.natCast_mul];try (refine hK _ rfl ?_;clear hK K)
    (repeat refine AW.seq_k fun K hK=>?_);refine AW.rg ?_;simp[-Int.natCast_mul];try (refine hK _ rfl ?_;clear hK K)
    (repeat refine AW.seq_k fun K hK=>?_);refine AW.rd [0,1,2,3,4,5,6,7,8,9,10,11,12,13,14,15,16] Dm ?_;simp[-Int.natCast_add,-Int.natCast_mul,hpl,w2,a1,hN3,hr1,hr3];try (refine hK _ rfl ?_;clear hK K)
    refine Aa.val s1 ?_;simp[-Int.natCast_add,-Int.natCast_mul,hzl,a0];try (refine hK _ rfl ?_;clear hK K)
    (repeat refine AW.seq_k fun K hK=>?_);refine AW.rd [0,1,2,3,4,5,6,7,8,9,10,11,12,13,14,15,16] Dm ?_;simp[-Int.natCast_add,-Int.natCast_mul,hpl,w2,a0,hN2,hr0,hr2];try (refine hK _ rfl ?_;clear hK K)
    refine Aa.val s2 ?_;simp[-Int.natCast_add,-Int.natCast_mul,hzl,a1];try (refine hK _ rfl ?_;clear hK K)
    cases h1:Da (Ba p 1) (Ba p (2*i+1))with
    |none =>
     have hno:Kt N p=.tup [Au [],.int .i64 2]:=by unfold Kt;rw[He hpj,h1];rfl
     (repeat refine AW.seq_k fun K hK=>?_);refine AW.rg ?_;simp[-Int.natCast_add,-Int.natCast_mul,Qcr];try (refine hK _ rfl ?_;clear hK K)
     refine AW.yes ?_ rfl;(repeat refine AW.seq_k fun K hK=>?_);refine AW.rg ?_;simp[-Int.natCast_add,-Int.natCast_mul];try (refine hK _ rfl ?_;clear hK K)
     exact AW.ret (Af [Au [],.int .i64 2] rfl ⟨.nilsl 1,.same _,trivial⟩ ⟨by rw[hno];rfl,rfl⟩)
    |some x1 =>
     cases h2:Da (Ba p (2*i)) (Ba p 0)with
     |none =>
      have hno:Kt N p=.tup [Au [],.int .i64 2]:=by unfold Kt;rw[He hpj,h1,h2];rfl
      (repeat refine AW.seq_k fun K hK=>?_);refine AW.rg ?_;simp[-Int.natCast_add,-Int.natCast_mul,Qcr];try (refine hK _ rfl ?_;clear hK K)
      refine AW.no ?_ rfl;refine AW.skip ?_;try simp[-Int.natCast_add,-Int.natCast_mul]
      try (refine hK _ rfl ?_;clear hK K)
      (repeat refine AW.seq_k fun K hK=>?_);refine AW.rg ?_;simp[-Int.natCast_add,-Int.natCast_mul,Qcr];try (refine hK _ rfl ?_;clear hK K)
      refine AW.yes ?_ rfl;(repeat refine AW.seq_k fun K hK=>?_);refine AW.rg ?_;simp[-Int.natCast_add,-Int.natCast_mul];try (refine hK _ rfl ?_;clear hK K)
      exact AW.ret (Af [Au [],.int .i64 2] rfl ⟨.nilsl 1,.same _,trivial⟩ ⟨by rw[hno];rfl,rfl⟩)
     |some x2 =>
      (repeat refine AW.seq_k fun K hK=>?_);refine AW.rg ?_;simp[-Int.natCast_add,-Int.natCast_mul,Qcr];try (refine hK _ rfl ?_;clear hK K)
      refine AW.no ?_ rfl;refine AW.skip ?_;try simp[-Int.natCast_add,-Int.natCast_mul]
      try (refine hK _ rfl ?_;clear hK K)
      (repeat refine AW.seq_k fun K hK=>?_);refine AW.rg ?_;simp[-Int.natCast_add,-Int.natCast_mul,Qcr];try (refine hK _ rfl ?_;clear hK K)
      refine AW.no ?_ rfl;refine AW.skip ?_;try simp[-Int.natCast_add,-Int.natCast_mul]
      try (refine hK _ rfl ?_;clear hK K)
      have hrow:(Z.set (2*i) (.agg [.bool (Zu (some x1)).n1,Ao (Zu (some x1)).l1,.bool (Zu (some x1)).n2,Ao (Zu (some x1)).l2])).set (2*i+1) (.agg [.bool (Zu (some x2)).n1,Ao (Zu (some x2)).l1,.bool (Zu (some x2)).n2,Ao (Zu (some x2)).l2])=Bo ((((List.replicate (2*N) (0:Rat)).set (2*i) x1).set (2*i+1) x2).map Ar):=by
       rw[hz0,List.map_set,List.map_set];exact(congrArg (fun l=>List.set l (2*i+1) (Ar x2).av) (Il _ _ (Ar x1))).trans (Il _ _ (Ar x2))
      have hyes:Kt N p=.tup [.sl 1 [.sl 4 R0,.sl 4 R1,.sl 4 (Bo ((((List.replicate (2*N) (0:Rat)).set (2*i) x1).set (2*i+1) x2).map Ar))],.int .i64 0]:=by
       unfold Kt;rw[He hpj,h1,h2];unfold Au;simp only[Option.bind_some,Option.map_some];rw[hem]
      rw[hrow];have hrl:(Bo ((((List.replicate (2*N) (0:Rat)).set (2*i) x1).set (2*i+1) x2).map Ar)).length=2*N:=by simp[Bo]
      generalize Bo ((((List.replicate (2*N) (0:Rat)).set (2*i) x1).set (2*i+1) x2).map Ar)=RW at *;refine AW.turn [(6,.osl B 1 0 2),(8,.sl 4 RW)] M0 (Bm.drop hbr ones0) (by simp[-Int.natCast_add,-Int.natCast_mul];exact Cb (Ac.set_same _ _ _) hbr hrl) ?_;(repeat refine AW.seq_k fun K hK=>?_);refine AW.rgR [96] ?_;simp[-Int.natCast_mul,hM0B];try (refine hK _ rfl ?_;clear hK K)
      refine⟨by unfold maxLen;omega,Ae.intro fun b' hb'=>?_⟩;refine hK _ rfl ?_;clear hK K;exact AW.ret (Af [.sl 1 [.sl 4 R0,.sl 4 R1,.sl 4 RW],.int .i64 0] rfl ⟨Cb (Ac.set_same _ _ _) rfl rfl,.same _,trivial⟩ ⟨by rw[hyes];rfl,rfl⟩)
  ·refine AW.exit ?_;try simp[-Int.natCast_mul]
   have:i=N:=by omega
   subst this;exact Yx g3
 ·rintro _ hj;(repeat refine AW.seq_k fun K hK=>?_);refine AW.rg ?_;simp;try (refine hK _ rfl ?_;clear hK K)
  have hV:B2 M0 Ac.emp (.osl B 1 0 2) (.sl 1 [.sl 4 R0,.sl 4 R1]):=Cb hM0B rfl rfl;exact AW.ret (Af [.sl 1 [.sl 4 R0,.sl 4 R1],.int .i64 0] rfl ⟨hV,.same _,trivial⟩ ⟨by rw[hpN hj];rfl,rfl⟩)
end Go.Av
end
section
namespace Go.Av
open Go.Proofs Go.Lam
theorem S4 (n:Int) (h1:-9223372036854775808≤n) (h2:n<9223372036854775808):Ak Tryz.prog 75 [.int .i64 n] Ac.emp fun v m=>v=(Ar (Gr n)).av∧m=Ac.emp:=by
 have ho:=Qdf n 1 h1 h2 (by omega) (by omega) (by omega);have e:Rat.divInt n 1=Gr n:=rfl;rw[e,D6]at ho;generalize Gr n=q at *;rw[Dx];unfold H6 at *;refine Ad Tryz.func75 rfl rfl 11 rfl (Nat.le_of_ble_eq_true rfl) ?_;(repeat refine AW.seq_k fun K hK=>?_);refine AW.rg ?_;simp[Al];try (refine hK _ rfl ?_;clear hK K)
 refine Ae.intro fun b2 hb2=>?_;refine hK _ rfl ?_;clear hK K;(repeat refine AW.seq_k fun K hK=>?_);refine AW.rg ?_;simp;try (refine hK _ rfl ?_;clear hK K)
 refine Aa.val ho ?_;simp;refine Ae.intro fun b3 hb3=>?_;simp only[Am,Az,and_true]at hb3;try simp[hb3]
 refine hK _ rfl ?_;clear hK K;(repeat refine AW.seq_k fun K hK=>?_);refine AW.rg ?_;simp[hb3];try (refine hK _ rfl ?_;clear hK K)
 exact AW.ret (Af (vs:=[.agg [.bool (decide (q.num<0)),Ao (Ap q.num.natAbs),.bool false,Ao (Ap q.den)]]) [.agg [.bool (decide (q.num<0)),Ao (Ap q.num.natAbs),.bool false,Ao (Ap q.den)]] (by simp[hb3]) (by simp) ⟨rfl,rfl⟩)
theorem Qic (n:Nat) (hn:n<2^30):Ak Tryz.prog 64 [.int .i64 n] Ac.emp (Qp4 n):=by
 have hw:=S4 0 (by omega) (by omega);rw[Iv]at hw;refine Ad Tryz.func64 rfl rfl 15 rfl (Nat.le_of_ble_eq_true rfl) ?_;(repeat refine AW.seq_k fun K hK=>?_);refine AW.rg ?_;simp[Al];try (refine hK _ rfl ?_;clear hK K)
 (repeat refine AW.seq_k fun K hK=>?_);refine AW.rg ?_;simp;try (refine hK _ rfl ?_;clear hK K)
 refine AW.seq_ex (ι:=AV × Ac) (fun z=>[(3,z.1)]) (fun z=>z.2) (fun z=>Qp4 n z.1 z.2) ?_ ?_
 ·(repeat refine AW.seq_k fun K hK=>?_);refine AW.rg ?_;simp;try (refine hK _ rfl ?_;clear hK K)
  refine AW.block (AW.loopS (ι:=Nat × AV × Ac) (fun z=>[(0,.int .i64 n),(3,z.2.1),(4,.int .i64 (z.1:Nat))]) (fun z=>z.2.2) (fun z=>z.1≤n∧Qp4 z.1 z.2.1 z.2.2) (fun z=>n-z.1) (0,.nil,Ac.emp) ⟨by simp,.inl ⟨rfl,rfl,rfl⟩⟩ rfl (by simp) ?_);rintro⟨i,v,M⟩ ⟨g1,g2⟩;simp only at g1 g2;(repeat refine AW.seq_k fun K hK=>?_);refine AW.rg ?_;simp;try (refine hK _ rfl ?_;clear hK K)
  (repeat refine AW.seq ?_);refine AW.cs (fun hi=>?_) (fun hi=>?_) rfl<;>(try simp at hi)
  ·refine AW.skip ?_;try simp
   refine hK _ rfl ?_;clear hK K;have w1:=Aq (i+1) (by omega);refine AW.seq_ex (ι:=AV × Ac) (fun z=>[(0,.int .i64 n),(3,z.1),(4,.int .i64 (i:Nat))]) (fun z=>z.2) (fun z=>Qp4 (i+1) z.1 z.2) ?_ ?_
   ·(repeat refine AW.seq ?_);refine AW.block ?_;rcases g2 with⟨z1,z2,z3⟩ | ⟨b0,z2,z3⟩
    ·subst z1 z2 z3;(repeat refine AW.seq_k fun K hK=>?_);refine AW.rgR [12] ?_;simp;try (refine hK _ rfl ?_;clear hK K)
     refine Aa.val hw ?_;simp;exact⟨by unfold maxLen;omega,Ae.intro fun b hb=>⟨_,_,.inr ⟨b,rfl,rfl⟩,rfl,rfl⟩⟩
    ·subst z2 z3;(repeat refine AW.seq_k fun K hK=>?_);refine AW.rgR [12] ?_;simp;try (refine hK _ rfl ?_;clear hK K)
     refine Aa.val hw ?_;simp;exact⟨by omega,by unfold maxLen;omega,Ae.intro fun b hb=>⟨_,_,.inr ⟨b,rfl,rfl⟩,by rw[List.replicate_succ'];simp[Bo],rfl⟩⟩
   rintro⟨v,M⟩ hs;(repeat refine AW.seq_k fun K hK=>?_);refine AW.rg ?_;simp[-Int.natCast_add,w1];try (refine hK _ rfl ?_;clear hK K)
   exact⟨i+1,v,M,⟨hi,hs⟩,by omega,by simp⟩
  ·refine AW.exit ?_;try simp
   have:i=n:=by omega
   subst this;exact⟨v,M,g2,rfl,rfl⟩
 rintro⟨v,M⟩ hs;simp only at hs;(repeat refine AW.seq_k fun K hK=>?_);refine AW.rg ?_;simp;try (refine hK _ rfl ?_;clear hK K)
 refine AW.ret (Cf rfl ?_ hs);rcases hs with⟨_,_,z3⟩ | ⟨b,_,z3⟩
 ·intro b y hy;rw[z3]at hy;cases hy
 ·rw[z3];exact F4.set (fun c y hy=>by cases hy) b (J5 _)
theorem Qb7 (n:Nat) (h0:0<n) (hn:n<2^30):Ak Tryz.prog 64 [.int .i64 n] Ac.emp fun v m=>∃b x,(v=.osl b 4 0 n∧x=⟨44,4,Bo (List.replicate n (Ar 0))⟩)∧m=Ac.emp.set b x:=by
 refine(Qic n hn).mono ?_;rintro v m (⟨h,_⟩ | ⟨b,h1,h2⟩)
 ·omega
 ·exact⟨b,_,⟨h1,rfl⟩,h2⟩
theorem Le {a b:Rat} (ha:B0 a):Ak Tryz.prog 33 [(Ar a).av,(Ar b).av] Ac.emp fun v m=>v=.bool (decide (a=b))∧m=Ac.emp:=by
 refine(Qjy (Ar a) (Ar b) (Qev ha)).mono ?_;rintro v m ⟨⟨t,rfl,ht⟩,h2⟩;refine⟨?_,h2⟩;have e:Ar a=Ar b↔a=b:=⟨fun h=>by rw[←F3 a,h,F3],fun h=>by rw[h]⟩;rw[e]at ht;cases t<;>simp_all
theorem Qu (r:List Rat) (i:Nat) (d:Rat):(Bo (r.map Ar)).set i (.agg [.bool (Ar d).n1,Ao (Ar d).l1,.bool (Ar d).n2,Ao (Ar d).l2])=Bo ((r.set i d).map Ar):=by
 rw[List.map_set];exact Il _ _ (Ar d)
end Go.Av
end
section
namespace Go.Av
open Go.Proofs Go.Lam
def Qff (n:Nat) (es:List RE) (p:List Rat) (v:AV) (m:Ac):Prop:=match N5 n (Ag es) p es.length with
 |some M=>∃ov ob,v=.tup [ov,.int .i64 0]∧Fo m 51 1 ov ob ((Be M).map An)
 |none=>v=.tup [Au [],.int .i64 2]∧m=Ac.emp
structure EqS where
 M:Ac
 ov:AV
 ob:List Nat
 E:List (List Rat)
theorem Qa9 (N:Nat) (es:List RE) (p:List Rat) (hN:1≤N) (hN12:N≤12) (hok:Nj N es) (h3:es.length≤40) (hp:Cy N p):Ak Tryz.prog 30 [.int .i64 (N:Nat),Bc es,An (p.map Ar)] Ac.emp (Qff N es p):=by
 have hzr:=Qb7 (2*N) (by omega) (by omega);have w0:=Aq (2*N) (by omega);have hpl:p.length=2*N:=hp.1;have hg:∀i,i<2*N→B0 (Ba p i):=fun i hi=>by
  unfold Ba;rw[List.getD_eq_getElem?_getD,List.getElem?_eq_getElem (by omega)];exact hp.2 _ (List.getElem_mem _)
 have hrr:∀i,i<2*N→rr (p.map Ar) i=Ar (Ba p i):=fun i hi=>by
  rw[Ja (by simp;omega)];unfold Ba;simp[hpl,hi]
 refine Ad Tryz.func30 rfl rfl 103 rfl (Nat.le_of_ble_eq_true rfl) ?_;unfold Bc An at *;(repeat refine AW.seq_k fun K hK=>?_);refine AW.rg ?_;simp[Al];try (refine hK _ rfl ?_;clear hK K)
 (repeat refine AW.seq_k fun K hK=>?_);refine AW.rg ?_;simp;try (refine hK _ rfl ?_;clear hK K)
 refine AW.seq_ex (ι:=EqS) (fun z=>[(8,z.ov)]) (fun z=>z.M) (fun z=>N5 N (Ag es) p es.length=some z.E∧Fo z.M 51 1 z.ov z.ob ((Be z.E).map An)) ?_ ?_
 ·(repeat refine AW.seq_k fun K hK=>?_);refine AW.rg ?_;simp;try (refine hK _ rfl ?_;clear hK K)
  refine AW.block (AW.loopS (ι:=EqS × Nat) (fun z=>[(0,.int .i64 (N:Nat)),(1,.sl 6 (Dt es)),(2,.sl 4 (Bo (p.map Ar))),(8,z.1.ov),(9,.int .i64 (z.2:Nat))]) (fun z=>z.1.M) (fun z=>z.2≤es.length∧N5 N (Ag es) p z.2=some z.1.E∧Fo z.1.M 51 1 z.1.ov z.1.ob ((Be z.1.E).map An)) (fun z=>es.length-z.2) (⟨Ac.emp,.nil,[],[]⟩,0) ⟨by simp,rfl,Fo.start _ _⟩ rfl (by simp) ?_);rintro⟨⟨M,ov,ob,E⟩,i⟩ ⟨g1,g2,g3⟩;simp only at g1 g2 g3;obtain⟨gl,gg⟩:=Gq g2;(repeat refine AW.seq_k fun K hK=>?_);refine AW.rg ?_;simp;try (refine hK _ rfl ?_;clear hK K)
  (repeat refine AW.seq ?_);refine AW.cs (fun hi=>?_) (fun hi=>?_) rfl<;>(try simp at hi)
  ·refine AW.skip ?_;try simp
   try (refine hK _ rfl ?_;clear hK K)
   have w1:=Aq (i+1) (by omega);obtain⟨e1,e2,e3⟩:=hok i hi;obtain⟨a,ha⟩:∃a,(Ag es i).1=a:=⟨_,rfl⟩;obtain⟨b,hb⟩:∃b,(Ag es i).2=b:=⟨_,rfl⟩;have hsc:N5 N (Ag es) p (i+1)=(Ow N p a b 4).map fun r=>E++[r]:=by rw[N5,g2,ha,hb];rfl
   rw[ha]at e1;rw[hb]at e2;have han:a<N:=ha ▸ e3.1;have hbn:b<N:=hb ▸ e3.2.1;have wa:=Aq (2*a) (by omega);have wb:=Aq (2*b) (by omega);have ones0:F4 M:=g3.ones (Pf _);(repeat refine AW.seq ?_);refine AW.block ?_;(repeat refine AW.seq_k fun K hK=>?_);refine AW.rg ?_;simp[-Int.natCast_mul,hi,Cq,e1,e2,wa];try (refine hK _ rfl ?_;clear hK K)
   (repeat refine AW.seq_k fun K hK=>?_);refine AW.rg ?_;simp[-Int.natCast_mul,hi,Cq,e1,e2,wb];try (refine hK _ rfl ?_;clear hK K)
   (repeat refine AW.seq_k fun K hK=>?_);refine AW.rg ?_;simp[-Int.natCast_mul,w0];try (refine hK _ rfl ?_;clear hK K)
   refine Aa.make hzr ?_;rintro br _ _ ⟨rfl,rfl⟩ hbr _;simp[-Int.natCast_mul];try (refine hK _ rfl ?_;clear hK K)
   have hz0:Bo (List.replicate (2*N) (Ar 0))=Bo ((List.replicate (2*N) (0:Rat)).map Ar):=by simp
   rw[hz0];refine AW.seq_ex (ι:=List Rat) (fun _=>[(0,.int .i64 (N:Nat)),(1,.sl 6 (Dt es)),(2,.sl 4 (Bo (p.map Ar))),(8,ov),(9,.int .i64 (i:Nat)),(10,.int .i64 ((2*a:Nat):Int)),(11,.int .i64 ((2*b:Nat):Int)),(12,.osl br 4 0 (2*N))]) (fun r=>M.set br ⟨44,4,Bo (r.map Ar)⟩) (fun r=>Ow N p a b 2=some r) ?_ ?_
   ·(repeat refine AW.seq_k fun K hK=>?_);refine AW.rg ?_;simp[-Int.natCast_mul];try (refine hK _ rfl ?_;clear hK K)
    refine AW.block (AW.loopS (ι:=List Rat × Nat) (fun z=>[(0,.int .i64 (N:Nat)),(1,.sl 6 (Dt es)),(2,.sl 4 (Bo (p.map Ar))),(8,ov),(9,.int .i64 (i:Nat)),(10,.int .i64 ((2*a:Nat):Int)),(11,.int .i64 ((2*b:Nat):Int)),(12,.osl br 4 0 (2*N)),(13,.int .i64 (z.2:Nat))]) (fun z=>M.set br ⟨44,4,Bo (z.1.map Ar)⟩) (fun z=>z.2≤2∧Ow N p a b (0+z.2)=some z.1) (fun z=>2-z.2)
     (List.replicate (2*N) 0,0) ⟨by simp,rfl⟩ (by simp) (by simp[-Int.natCast_mul]) ?_)
    rintro⟨r,k⟩ ⟨j1,j2⟩;simp only at j1 j2;(repeat refine AW.seq_k fun K hK=>?_);refine AW.rg ?_;simp[-Int.natCast_mul];try (refine hK _ rfl ?_;clear hK K)
    (repeat refine AW.seq ?_);refine AW.cs (fun hk=>?_) (fun hk=>?_) rfl<;>(try simp at hk)
    ·refine AW.skip ?_;try simp[-Int.natCast_mul]
     try (refine hK _ rfl ?_;clear hK K)
     have wk:=Aq (k+1) (by omega);have hul:2*a+k<2*N:=by omega
     have hvl:2*b+k<2*N:=by omega
     have wu:=Aq (2*a+k) (by omega);have wv:=Aq (2*b+k) (by omega);have hsu:=Nq (Ba p (2*a+k)) (Ba p (2*b+k)) (hg _ hul) (hg _ hvl);have hui:uI a b (0+k)=2*a+k:=by unfold uI;split<;>omega
     have hvi:vI a b (0+k)=2*b+k:=by unfold vI;split<;>omega
     have ones2:F4 (M.set br ⟨44,4,Bo (r.map Ar)⟩):=ones0.set br (J5 _);have hrl:(Bo (r.map Ar)).length=2*N:=by simp[Bo];exact(Jl j2).1
     (repeat refine AW.seq ?_);refine AW.block ?_;(repeat refine AW.seq_k fun K hK=>?_);refine AW.rd [0,1,2,3,4,5,6,7,8,9,10,11,12,13,14,15,16,17,18] Dm ?_;simp[-Int.natCast_add,-Int.natCast_mul,wu,wv,hul,hvl,hpl,hrr];try (refine hK _ rfl ?_;clear hK K)
     cases hd:Da (Ba p (2*a+k)) (Ba p (2*b+k))with
     |none =>
      rw[hd,←Dx,←Dx,D6]at hsu;unfold RR.av B9 at hsu;refine Aa.val hsu ?_;simp[-Int.natCast_add,-Int.natCast_mul];refine Ae.intro fun b15 hb15=>?_;refine hK _ rfl ?_;clear hK K;(repeat refine AW.seq_k fun K hK=>?_);refine AW.rg ?_;simp[-Int.natCast_add,-Int.natCast_mul];try (refine hK _ rfl ?_;clear hK K)
      refine AW.yes ?_ rfl;(repeat refine AW.seq_k fun K hK=>?_);refine AW.rg ?_;simp[-Int.natCast_add,-Int.natCast_mul];try (refine hK _ rfl ?_;clear hK K)
      have hno:Qff N es p (.tup [Au [],.int .i64 2]) Ac.emp:=by
       have hs1:Ow N p a b (0+k+1)=none:=by rw[Ow,j2,hui,hvi,Option.bind_some,hd];rfl
       have hs4:=Wf (t:=4) hs1 (by omega);have hm:=Vy (t:=es.length) (show N5 N (Ag es) p (i+1)=none by rw[hsc,hs4];rfl) (by omega);unfold Qff;rw[hm];exact⟨rfl,rfl⟩
      exact AW.ret (Af [Au [],.int .i64 2] rfl ⟨.nilsl 1,.same _,trivial⟩ hno)
     |some d =>
      rw[hd,←Dx,←Dx,D6,←Dx]at hsu;unfold RR.av at hsu;refine Aa.val hsu ?_;simp[-Int.natCast_add,-Int.natCast_mul];refine Ae.intro fun b15 hb15=>?_;refine hK _ rfl ?_;clear hK K;have hst:Ow N p a b (0+(k+1))=some (r.set (2*a+k) d):=by
       rw[show 0+(k+1)=(0+k)+1 by omega,Ow,j2,hui,hvi,Option.bind_some,hd];rfl
      refine AW.turn [(0,.int .i64 (N:Nat)),(1,.sl 6 (Dt es)),(2,.sl 4 (Bo (p.map Ar))),(8,ov),(9,.int .i64 (i:Nat)),(10,.int .i64 ((2*a:Nat):Int)),(11,.int .i64 ((2*b:Nat):Int)),(12,.osl br 4 0 (2*N)),(13,.int .i64 (k:Nat)),(14,.rptr [.bool (Ar d).n1,Ao (Ar d).l1,.bool (Ar d).n2,Ao (Ar d).l2]),(15,.int .i64 0)] (M.set br ⟨44,4,Bo (r.map Ar)⟩) (Bm.drop hb15 ones2)
       (by simp[-Int.natCast_add,-Int.natCast_mul];exact Gh hb15) ?_
      (repeat refine AW.seq_k fun K hK=>?_);refine AW.rg ?_;simp[-Int.natCast_mul];try (refine hK _ rfl ?_;clear hK K)
      refine AW.no ?_ rfl;refine AW.skip ?_;try simp[-Int.natCast_mul]
      try (refine hK _ rfl ?_;clear hK K)
      (repeat refine AW.seq_k fun K hK=>?_);refine AW.rg ?_;simp[-Int.natCast_add,-Int.natCast_mul,wu,hul,hrl];try (refine hK _ rfl ?_;clear hK K)
      rw[Qu];(repeat refine AW.seq_k fun K hK=>?_);refine AW.rg ?_;simp[-Int.natCast_add,-Int.natCast_mul,wk];try (refine hK _ rfl ?_;clear hK K)
      exact⟨r.set (2*a+k) d,k+1,⟨by omega,by simpa using hst⟩,by omega,by rw[List.map_set],rfl⟩
    ·refine AW.exit ?_;try simp[-Int.natCast_mul]
     have:k=2:=by omega
     subst this;exact⟨r,j2,rfl⟩
   rintro r2 hr2;refine AW.seq_ex (ι:=List Rat) (fun _=>[(0,.int .i64 (N:Nat)),(1,.sl 6 (Dt es)),(2,.sl 4 (Bo (p.map Ar))),(8,ov),(9,.int .i64 (i:Nat)),(10,.int .i64 ((2*a:Nat):Int)),(11,.int .i64 ((2*b:Nat):Int)),(12,.osl br 4 0 (2*N))]) (fun r=>M.set br ⟨44,4,Bo (r.map Ar)⟩) (fun r=>Ow N p a b 4=some r) ?_ ?_
   ·(repeat refine AW.seq_k fun K hK=>?_);refine AW.rg ?_;simp[-Int.natCast_mul];try (refine hK _ rfl ?_;clear hK K)
    refine AW.block (AW.loopS (ι:=List Rat × Nat) (fun z=>[(0,.int .i64 (N:Nat)),(1,.sl 6 (Dt es)),(2,.sl 4 (Bo (p.map Ar))),(8,ov),(9,.int .i64 (i:Nat)),(10,.int .i64 ((2*a:Nat):Int)),(11,.int .i64 ((2*b:Nat):Int)),(12,.osl br 4 0 (2*N)),(16,.int .i64 (z.2:Nat))]) (fun z=>M.set br ⟨44,4,Bo (z.1.map Ar)⟩) (fun z=>z.2≤2∧Ow N p a b (2+z.2)=some z.1) (fun z=>2-z.2)
     (r2,0) ⟨by simp,hr2⟩ (by simp) (by simp[-Int.natCast_mul]) ?_)
    rintro⟨r,k⟩ ⟨j1,j2⟩;simp only at j1 j2;(repeat refine AW.seq_k fun K hK=>?_);refine AW.rg ?_;simp[-Int.natCast_mul];try (refine hK _ rfl ?_;clear hK K)
    (repeat refine AW.seq ?_);refine AW.cs (fun hk=>?_) (fun hk=>?_) rfl<;>(try simp at hk)
    ·refine AW.skip ?_;try simp[-Int.natCast_mul]
     try (refine hK _ rfl ?_;clear hK K)
     have wk:=Aq (k+1) (by omega);have hul:2*b+k<2*N:=by omega
     have hvl:2*a+k<2*N:=by omega
     have wu:=Aq (2*b+k) (by omega);have wv:=Aq (2*a+k) (by omega);have hsu:=Nq (Ba p (2*b+k)) (Ba p (2*a+k)) (hg _ hul) (hg _ hvl);have hui:uI a b (2+k)=2*b+k:=by unfold uI;split<;>omega
     have hvi:vI a b (2+k)=2*a+k:=by unfold vI;split<;>omega
     have ones2:F4 (M.set br ⟨44,4,Bo (r.map Ar)⟩):=ones0.set br (J5 _);have hrl:(Bo (r.map Ar)).length=2*N:=by simp[Bo];exact(Jl j2).1
     (repeat refine AW.seq ?_);refine AW.block ?_;(repeat refine AW.seq_k fun K hK=>?_);refine AW.rd [0,1,2,3,4,5,6,7,8,9,10,11,12,13,14,15,16,17,18] Dm ?_;simp[-Int.natCast_add,-Int.natCast_mul,wu,wv,hul,hvl,hpl,hrr];try (refine hK _ rfl ?_;clear hK K)
     cases hd:Da (Ba p (2*b+k)) (Ba p (2*a+k))with
     |none =>
      rw[hd,←Dx,←Dx,D6]at hsu;unfold RR.av B9 at hsu;refine Aa.val hsu ?_;simp[-Int.natCast_add,-Int.natCast_mul];refine Ae.intro fun b15 hb15=>?_;refine hK _ rfl ?_;clear hK K;(repeat refine AW.seq_k fun K hK=>?_);refine AW.rg ?_;simp[-Int.natCast_add,-Int.natCast_mul];try (refine hK _ rfl ?_;clear hK K)
      refine AW.yes ?_ rfl;(repeat refine AW.seq_k fun K hK=>?_);refine AW.rg ?_;simp[-Int.natCast_add,-Int.natCast_mul];try (refine hK _ rfl ?_;clear hK K)
      have hno:Qff N es p (.tup [Au [],.int .i64 2]) Ac.emp:=by
       have hs1:Ow N p a b (2+k+1)=none:=by rw[Ow,j2,hui,hvi,Option.bind_some,hd];rfl
       have hs4:=Wf (t:=4) hs1 (by omega);have hm:=Vy (t:=es.length) (show N5 N (Ag es) p (i+1)=none by rw[hsc,hs4];rfl) (by omega);unfold Qff;rw[hm];exact⟨rfl,rfl⟩
      exact AW.ret (Af [Au [],.int .i64 2] rfl ⟨.nilsl 1,.same _,trivial⟩ hno)
     |some d =>
      rw[hd,←Dx,←Dx,D6,←Dx]at hsu;unfold RR.av at hsu;refine Aa.val hsu ?_;simp[-Int.natCast_add,-Int.natCast_mul];refine Ae.intro fun b15 hb15=>?_;refine hK _ rfl ?_;clear hK K;have hst:Ow N p a b (2+(k+1))=some (r.set (2*b+k) d):=by
       rw[show 2+(k+1)=(2+k)+1 by omega,Ow,j2,hui,hvi,Option.bind_some,hd];rfl
      refine AW.turn [(0,.int .i64 (N:Nat)),(1,.sl 6 (Dt es)),(2,.sl 4 (Bo (p.map Ar))),(8,ov),(9,.int .i64 (i:Nat)),(10,.int .i64 ((2*a:Nat):Int)),(11,.int .i64 ((2*b:Nat):Int)),(12,.osl br 4 0 (2*N)),(16,.int .i64 (k:Nat)),(17,.rptr [.bool (Ar d).n1,Ao (Ar d).l1,.bool (Ar d).n2,Ao (Ar d).l2]),(18,.int .i64 0)] (M.set br ⟨44,4,Bo (r.map Ar)⟩) (Bm.drop hb15 ones2)
       (by simp[-Int.natCast_add,-Int.natCast_mul];exact Gh hb15) ?_
      (repeat refine AW.seq_k fun K hK=>?_);refine AW.rg ?_;simp[-Int.natCast_mul];try (refine hK _ rfl ?_;clear hK K)
      refine AW.no ?_ rfl;refine AW.skip ?_;try simp[-Int.natCast_mul]
      try (refine hK _ rfl ?_;clear hK K)
      (repeat refine AW.seq_k fun K hK=>?_);refine AW.rg ?_;simp[-Int.natCast_add,-Int.natCast_mul,wu,hul,hrl];try (refine hK _ rfl ?_;clear hK K)
      rw[Qu];(repeat refine AW.seq_k fun K hK=>?_);refine AW.rg ?_;simp[-Int.natCast_add,-Int.natCast_mul,wk];try (refine hK _ rfl ?_;clear hK K)
      exact⟨r.set (2*b+k) d,k+1,⟨by omega,by simpa using hst⟩,by omega,by rw[List.map_set],rfl⟩
    ·refine AW.exit ?_;try simp[-Int.natCast_mul]
     have:k=2:=by omega
     subst this;exact⟨r,j2,rfl⟩
   rintro r hr;have hrl:(Bo (r.map Ar)).length=2*N:=by simp[Bo];exact(Jl hr).1
   have hsr:N5 N (Ag es) p (i+1)=some (E++[r]):=by rw[hsc,hr];rfl
   refine AW.turn [(0,.int .i64 (N:Nat)),(1,.sl 6 (Dt es)),(2,.sl 4 (Bo (p.map Ar))),(8,ov),(9,.int .i64 (i:Nat)),(12,.sl 4 (Bo (r.map Ar)))] M (Bm.drop hbr ones0) ?_ ?_
   ·simp[-Int.natCast_mul];exact Cb (Ac.set_same _ _ _) hbr hrl
   have hll:((Be E).map An).length≤40:=by simp[Be];omega
   have hem:(Be (E++[r])).map An=(Be E).map An++[.sl 4 (Bo (r.map Ar))]:=by simp[Be,An]
   have hfin:∀ov' ob' M',Fo M' 51 1 ov' ob' ((Be E).map An++[.sl 4 (Bo (r.map Ar))])→Fo M' 51 1 ov' ob' ((Be (E++[r])).map An):=fun _ _ _ h=>by rw[hem];exact h
   generalize(Be E).map An=l at *;rcases g3.lst with⟨z1,z2,z3⟩ | ⟨b0,z2,z3,z4⟩
   ·subst z1 z2 z3;(repeat refine AW.seq_k fun K hK=>?_);refine AW.rgR [100] ?_;simp;try (refine hK _ rfl ?_;clear hK K)
    refine⟨by unfold maxLen;omega,Ae.intro fun b' hb'=>?_⟩;(repeat refine AW.seq_k fun K hK=>?_);refine AW.rg ?_;simp[-Int.natCast_add,w1];try (refine hK _ rfl ?_;clear hK K)
    exact⟨⟨_,_,[b'],E++[r]⟩,i+1,⟨by omega,hsr,hfin _ _ _ (g3.push0 b' _)⟩,by omega,rfl,rfl,rfl⟩
   ·subst z2 z3;(repeat refine AW.seq_k fun K hK=>?_);refine AW.rgR [100] ?_;simp[z4];try (refine hK _ rfl ?_;clear hK K)
    refine⟨by omega,by unfold maxLen;omega,Ae.intro fun b' hb'=>?_⟩;(repeat refine AW.seq_k fun K hK=>?_);refine AW.rg ?_;simp[-Int.natCast_add,w1];try (refine hK _ rfl ?_;clear hK K)
    exact⟨⟨_,_,[b'],E++[r]⟩,i+1,⟨by omega,hsr,hfin _ _ _ (g3.push1 b' _)⟩,by omega,rfl,rfl,rfl⟩
  ·refine AW.exit ?_;try simp
   have:i=es.length:=by omega
   subst this;exact⟨⟨M,ov,ob,E⟩,⟨g2,g3⟩,by simp⟩
 rintro⟨M,ov,ob,E⟩ ⟨g2,g3⟩;simp only at g2 g3;(repeat refine AW.seq_k fun K hK=>?_);refine AW.rg ?_;simp;try (refine hK _ rfl ?_;clear hK K)
 refine AW.ret (Cf rfl (g3.ones (Pf _)) ?_);unfold Qff;rw[g2];exact⟨ov,ob,rfl,g3⟩
end Go.Av
end
section
namespace Go.Av
open Go.Proofs Go.Lam
theorem Qep (N:Nat) (p:List Rat) (hN:1≤N) (hN12:N≤12) (hp:Cy N p):Ak Tryz.prog 39 [.int .i64 (N:Nat),An (p.map Ar)] Ac.emp fun v m=>v=Kt N p∧m=Ac.emp:=by
 have hzr:=Qb7 (2*N) (by omega) (by omega);have hw1:=S4 1 (by omega) (by omega);rw[I3]at hw1;have w0:=Aq (2*N) (by omega);have hpl:p.length=2*N:=hp.1;have hg:∀i,i<2*N→B0 (Ba p i):=fun i hi=>by
  unfold Ba;rw[List.getD_eq_getElem?_getD,List.getElem?_eq_getElem (by omega)];exact hp.2 _ (List.getElem_mem _)
 have hrr:∀i,i<2*N→rr (p.map Ar) i=Ar (Ba p i):=fun i hi=>by
  rw[Ja (by simp;omega)];unfold Ba;simp[hpl,hi]
 refine Ad Tryz.func39 rfl rfl 106 rfl (Nat.le_of_ble_eq_true rfl) ?_;unfold An at *;(repeat refine AW.seq_k fun K hK=>?_);refine AW.rg ?_;simp[Al];try (refine hK _ rfl ?_;clear hK K)
 (repeat refine AW.seq_k fun K hK=>?_);refine AW.rg ?_;simp[-Int.natCast_mul,w0];try (refine hK _ rfl ?_;clear hK K)
 refine Aa.make hzr ?_;rintro b0 _ _ ⟨rfl,rfl⟩ hb0 _;simp[-Int.natCast_mul];try (refine hK _ rfl ?_;clear hK K)
 (repeat refine AW.seq_k fun K hK=>?_);refine AW.rg ?_;simp[-Int.natCast_mul,w0];try (refine hK _ rfl ?_;clear hK K)
 refine Aa.make hzr ?_;rintro b1 _ _ ⟨rfl,rfl⟩ hb1 _;simp[-Int.natCast_mul];try (refine hK _ rfl ?_;clear hK K)
 have hz0:Bo (List.replicate (2*N) (Ar 0))=Bo ((List.replicate (2*N) (0:Rat)).map Ar):=by simp
 have hzl:(Bo (List.replicate (2*N) (Ar 0))).length=2*N:=by simp[Bo]
 generalize hz:Bo (List.replicate (2*N) (Ar 0))=Z at *;have n10:b1≠b0:=fun h=>by simp[h]at hb1
 have hN2:0<2*N:=by omega
 have hN3:1<2*N:=by omega
 (repeat refine AW.seq_k fun K hK=>?_);refine AW.rg ?_;simp[-Int.natCast_mul,hzl,hN2,hN3,n10,Ne.symm n10];try (refine hK _ rfl ?_;clear hK K)
 refine Aa.val hw1 ?_;simp[-Int.natCast_mul,hzl,hN2,hN3,n10,Ne.symm n10];try (refine hK _ rfl ?_;clear hK K)
 (repeat refine AW.seq_k fun K hK=>?_);refine AW.rg ?_;simp[-Int.natCast_mul,hzl,hN2,hN3,n10,Ne.symm n10];try (refine hK _ rfl ?_;clear hK K)
 refine Aa.val hw1 ?_;simp[-Int.natCast_mul,hzl,hN2,hN3,n10,Ne.symm n10];try (refine hK _ rfl ?_;clear hK K)
 (repeat refine AW.seq_k fun K hK=>?_);refine AW.rg ?_;simp[-Int.natCast_mul];try (refine hK _ rfl ?_;clear hK K)
 refine Ae.intro fun B hB=>?_;try (refine hK _ rfl ?_;clear hK K)
 have nB0:B≠b0:=fun h=>by rw[h]at hB;simp[n10,Ne.symm n10]at hB
 have nB1:B≠b1:=fun h=>by rw[h]at hB;simp[n10,Ne.symm n10]at hB
 have hr0:Z.set 0 (Ar 1).av=Bo (((List.replicate (2*N) (0:Rat)).set 0 1).map Ar):=by rw[hz0,List.map_set];exact Il _ _ _
 have hr1:Z.set 1 (Ar 1).av=Bo (((List.replicate (2*N) (0:Rat)).set 1 1).map Ar):=by rw[hz0,List.map_set];exact Il _ _ _
 rw[hr0,hr1];have hl0:(Bo (((List.replicate (2*N) (0:Rat)).set 0 1).map Ar)).length=2*N:=by simp[Bo]
 have hl1:(Bo (((List.replicate (2*N) (0:Rat)).set 1 1).map Ar)).length=2*N:=by simp[Bo]
 have hem:∀l,(Be [(List.replicate (2*N) (0:Rat)).set 0 1,(List.replicate (2*N) (0:Rat)).set 1 1,l]).map An=[.sl 4 (Bo (((List.replicate (2*N) (0:Rat)).set 0 1).map Ar)),.sl 4 (Bo (((List.replicate (2*N) (0:Rat)).set 1 1).map Ar)),.sl 4 (Bo (l.map Ar))]:=fun _=>rfl;have hem2:(Be [(List.replicate (2*N) (0:Rat)).set 0 1,(List.replicate (2*N) (0:Rat)).set 1 1]).map An=[.sl 4 (Bo (((List.replicate (2*N) (0:Rat)).set 0 1).map Ar)),.sl 4 (Bo (((List.replicate (2*N) (0:Rat)).set 1 1).map Ar))]:=rfl;have hpN:Rj N p=none→Kt N p=.tup [.sl 1 [.sl 4 (Bo (((List.replicate (2*N) (0:Rat)).set 0 1).map Ar)),.sl 4 (Bo (((List.replicate (2*N) (0:Rat)).set 1 1).map Ar))],.int .i64 0]:=fun h=>by
  unfold Kt N7 Au;rw[h];rfl
 generalize Bo (((List.replicate (2*N) (0:Rat)).set 0 1).map Ar)=R0 at *;generalize Bo (((List.replicate (2*N) (0:Rat)).set 1 1).map Ar)=R1 at *;generalize hM0:Ac.emp.set B ⟨51,1,[.sl 4 R0,.sl 4 R1]⟩=M0;have hM0B:M0 B=some ⟨51,1,[.sl 4 R0,.sl 4 R1]⟩:=by rw[←hM0];exact Ac.set_same _ _ _
 have hM0n:∀c,c≠B→M0 c=none:=fun c h=>by rw[←hM0];exact Ac.set_other _ _ h
 have ones0:F4 M0:=by
  rw[←hM0];exact F4.set (M:=Ac.emp) (fun c y hy=>by cases hy) B (by simp[AV.cells,AV.one])
 refine AW.turn [(0,.int .i64 (N:Nat)),(1,.sl 4 (Bo (p.map Ar))),(8,.osl B 1 0 2)] M0 ⟨fun c x' hx'=>?_⟩ (by simp[-Int.natCast_mul]) ?_
 ·by_cases hc:c=B
  ·subst hc;rw[hM0B]at hx';cases hx';refine⟨⟨51,1,[.osl b0 4 0 (2*N),.osl b1 4 0 (2*N)]⟩,by simp[nB0,nB1],rfl,rfl,rfl,fun k v v' h1 h2=>?_⟩
   match k with
   |0 =>
    cases h1;cases h2;exact⟨Cb (by simp[Ne.symm n10,Ne.symm nB0];rfl) (hM0n _ (Ne.symm nB0)) hl0,rfl⟩
   |1 =>
    cases h1;cases h2;exact⟨Cb (by simp[Ne.symm nB1];rfl) (hM0n _ (Ne.symm nB1)) hl1,rfl⟩
   |k+2=>cases h1
  ·rw[hM0n c hc]at hx';cases hx'
 refine AW.seq_ex (ι:=Unit) (fun _=>[(8,.osl B 1 0 2)]) (fun _=>M0) (fun _=>Rj N p=none) ?_ ?_
 ·(repeat refine AW.seq_k fun K hK=>?_);refine AW.rg ?_;simp;try (refine hK _ rfl ?_;clear hK K)
  refine AW.block (AW.loopS (ι:=Nat) (fun i=>[(0,.int .i64 (N:Nat)),(1,.sl 4 (Bo (p.map Ar))),(8,.osl B 1 0 2),(9,.int .i64 (i:Nat))]) (fun _=>M0) (fun i=>1≤i∧i≤N∧∀k,1≤k→k<i→Mn p k) (fun i=>N-i) 1 ⟨by omega,by omega,fun k h1 h2=>by omega⟩ rfl (by simp) ?_);rintro i ⟨g1,g2,g3⟩;(repeat refine AW.seq_k fun K hK=>?_);refine AW.rg ?_;simp;try (refine hK _ rfl ?_;clear hK K)
  (repeat refine AW.seq ?_);refine AW.cs (fun hi=>?_) (fun hi=>?_) rfl<;>(try simp at hi)
  ·refine AW.skip ?_;try simp
   try (refine hK _ rfl ?_;clear hK K)
   have a0:2*i<2*N:=by omega
   have a1:2*i+1<2*N:=by omega
   have w1:=Aq (2*i) (by omega);have w2:=Aq (2*i+1) (by omega);have w3:=Aq (i+1) (by omega);have d0:=Le (b:=Ba p 0) (hg _ a0);have d1:=Le (b:=Ba p 1) (hg _ a1);unfold RR.av at d0 d1;have hr0:=hrr _ a0;have hr1:=hrr _ a1;have hr2:=hrr 0 hN2;have hr3:=hrr 1 hN3;obtain⟨T,hT⟩:∃T:Bool,(T=true↔Mn p i):=⟨(decide (Ba p (2*i)=Ba p 0)&&decide (Ba p (2*i+1)=Ba p 1)),by simp[Mn]⟩;(repeat refine AW.seq ?_);refine AW.block ?_;refine AW.seq_k fun K hK=>?_;refine AW.seq_ex (ι:=Unit) (fun _=>[(0,.int .i64 (N:Nat)),(1,.sl 4 (Bo (p.map Ar))),(8,.osl B 1 0 2),(9,.int .i64 (i:Nat)),(55,.bool T)]) (fun _=>M0) (fun _=>True) ?_ ?_
   ·refine AW.rd [0,1,2,3,4,5,6,7,8,9,10,11,12,13,14,15,16,17,18,19,20] Dm ?_;simp[-Int.natCast_mul,hpl,a0,hN2,hr0,hr2,w1];refine Aa.val d0 ?_;by_cases e0:Ba p (2*i)=Ba p 0
    ·simp[-Int.natCast_add,-Int.natCast_mul,e0,w1,w2,hpl,a1,hN3,hr1,hr3];refine Aa.val d1 ?_;simp[-Int.natCast_add,-Int.natCast_mul];rw[Bool.eq_iff_iff,hT];simp[Mn,e0]
    ·simp[-Int.natCast_mul,e0];rw[←Bool.not_eq_true,hT];simp[Mn,e0]
   rintro _ _;cases T with
   |true =>
    have hs:=hT.1 rfl;refine AW.yes ?_ rfl;refine AW.exit ?_;try simp
    (repeat refine AW.seq_k fun K hK=>?_);refine AW.rg ?_;simp[-Int.natCast_add,w3];try (refine hK _ rfl ?_;clear hK K)
    exact⟨⟨by omega,fun k h1 h2=>by
     rcases Nat.lt_or_ge k i with h|h
     ·exact g3 k h1 h
     ·rw[show k=i by omega];exact hs⟩,by omega⟩
   |false =>
    have hns:¬Mn p i:=fun h=>by have:=hT.2 h;cases this
    have hpj:=Nw g1 hi hns g3;have s1:=Nq (Ba p 1) (Ba p (2*i+1)) (hg _ hN3) (hg _ a1);have s2:=Nq (Ba p (2*i)) (Ba p 0) (hg _ a0) (hg _ hN2);rw[Qbl,←Dx,←Dx]at s1 s2;unfold RR.av at s1 s2;refine AW.no ?_ rfl;refine AW.skip ?_;try simp
    try (refine hK _ rfl ?_;clear hK K)
    (repeat refine AW.seq_k fun K hK=>?_);refine AW.rg ?_;simp[-Int.natCast_mul,w0];try (refine hK _ rfl ?_;clear hK K)
    refine Aa.make hzr ?_;rintro br _ _ ⟨rfl,rfl⟩ hbr _;simp[-Int.natCast_mul];try (refine hK _ rfl ?_;clear hK K)
    have ones1:F4 (M0.set br ⟨44,4,Z⟩):=ones0.set br (by rw[←hz];exact J5 _);(repeat refine AW.seq_k fun K hK=>?_);refine AW.rd [0,1,2,3,4,5,6,7,8,9,10,11,12,13,14,15] Dm ?_;simp[-Int.natCast_add,-Int.natCast_mul,hpl,w1,w2,a1,hN3,hr1,hr3];try (refine hK _ rfl ?_;clear hK K)
    refine Aa.val s1 ?_;simp[-Int.natCast_add,-Int.natCast_mul];refine Ae.intro fun b11 hb11=>?_;refine hK _ rfl ?_;clear hK K;cases h1:Da (Ba p 1) (Ba p (2*i+1))with
    |none =>
     have hno:Kt N p=.tup [Au [],.int .i64 2]:=by unfold Kt;rw[He hpj,h1];rfl
     (repeat refine AW.seq_k fun K hK=>?_);refine AW.rg ?_;simp[-Int.natCast_add,-Int.natCast_mul,Qcr];try (refine hK _ rfl ?_;clear hK K)
     refine AW.yes ?_ rfl;(repeat refine AW.seq_k fun K hK=>?_);refine AW.rg ?_;simp[-Int.natCast_add,-Int.natCast_mul];try (refine hK _ rfl ?_;clear hK K)
     exact AW.ret (Af [Au [],.int .i64 2] rfl ⟨.nilsl 1,.same _,trivial⟩ ⟨by rw[hno];rfl,rfl⟩)
    |some x1 =>
     refine AW.turn [(0,.int .i64 (N:Nat)),(1,.sl 4 (Bo (p.map Ar))),(8,.osl B 1 0 2),(9,.int .i64 (i:Nat)),(10,.osl br 4 0 (2*N)),(11,.rptr [.bool (Ar x1).n1,Ao (Ar x1).l1,.bool (Ar x1).n2,Ao (Ar x1).l2]),(12,.int .i64 0)] (M0.set br ⟨44,4,Z⟩) (Bm.drop hb11 ones1) (by simp[-Int.natCast_add,-Int.natCast_mul];exact⟨Gh hb11,.same _⟩) ?_;(repeat refine AW.seq_k fun K hK=>?_);refine AW.rg ?_;simp;try (refine hK _ rfl ?_;clear hK K)
     refine AW.no ?_ rfl;refine AW.skip ?_;try simp
     try (refine hK _ rfl ?_;clear hK K)
     (repeat refine AW.seq_k fun K hK=>?_);refine AW.rd [0,1,2,3,4,5,6,7,8,9,10,11,12,13,14] Dm ?_;simp[-Int.natCast_mul,hpl,w1,w2,a0,hN2,hr0,hr2];try (refine hK _ rfl ?_;clear hK K)
     refine Aa.val s2 ?_;simp[-Int.natCast_mul];refine Ae.intro fun b13 hb13=>?_;refine hK _ rfl ?_;clear hK K;cases h2:Da (Ba p (2*i)) (Ba p 0)with
     |none =>
      have hno:Kt N p=.tup [Au [],.int .i64 2]:=by unfold Kt;rw[He hpj,h1,h2];rfl
      (repeat refine AW.seq_k fun K hK=>?_);refine AW.rg ?_;simp[-Int.natCast_mul,Qcr];try (refine hK _ rfl ?_;clear hK K)
      refine AW.yes ?_ rfl;(repeat refine AW.seq_k fun K hK=>?_);refine AW.rg ?_;simp[-Int.natCast_mul];try (refine hK _ rfl ?_;clear hK K)
      exact AW.ret (Af [Au [],.int .i64 2] rfl ⟨.nilsl 1,.same _,trivial⟩ ⟨by rw[hno];rfl,rfl⟩)
     |some x2 =>
      refine AW.turn [(0,.int .i64 (N:Nat)),(1,.sl 4 (Bo (p.map Ar))),(8,.osl B 1 0 2),(9,.int .i64 (i:Nat)),(10,.osl br 4 0 (2*N)),(11,.rptr [.bool (Ar x1).n1,Ao (Ar x1).l1,.bool (Ar x1).n2,Ao (Ar x1).l2]),(13,.rptr [.bool (Ar x2).n1,Ao (Ar x2).l1,.bool (Ar x2).n2,Ao (Ar x2).l2]),(14,.int .i64 0)] (M0.set br ⟨44,4,Z⟩) (Bm.drop hb13 ones1) (by simp[-Int.natCast_mul];exact⟨Gh hb13,.same _⟩) ?_;(repeat refine AW.seq_k fun K hK=>?_);refine AW.rg ?_;simp;try (refine hK _ rfl ?_;clear hK K)
      refine AW.no ?_ rfl;refine AW.skip ?_;try simp
      try (refine hK _ rfl ?_;clear hK K)
      (repeat refine AW.seq_k fun K hK=>?_);refine AW.rg ?_;simp[-Int.natCast_mul,w1,hzl,a0];try (refine hK _ rfl ?_;clear hK K)
      (repeat refine AW.seq_k fun K hK=>?_);refine AW.rg ?_;simp[-Int.natCast_add,-Int.natCast_mul,w1,w2,hzl,a1];try (refine hK _ rfl ?_;clear hK K)
      have hrow:(Z.set (2*i) (.agg [.bool (Ar x1).n1,Ao (Ar x1).l1,.bool (Ar x1).n2,Ao (Ar x1).l2])).set (2*i+1) (.agg [.bool (Ar x2).n1,Ao (Ar x2).l1,.bool (Ar x2).n2,Ao (Ar x2).l2])=Bo ((((List.replicate (2*N) (0:Rat)).set (2*i) x1).set (2*i+1) x2).map Ar):=by
       rw[hz0,Qu,Qu]
      have hyes:Kt N p=.tup [.sl 1 [.sl 4 R0,.sl 4 R1,.sl 4 (Bo ((((List.replicate (2*N) (0:Rat)).set (2*i) x1).set (2*i+1) x2).map Ar))],.int .i64 0]:=by
       unfold Kt;rw[He hpj,h1,h2];unfold Au;simp only[Option.bind_some,Option.map_some];rw[hem]
      rw[hrow];have hrl:(Bo ((((List.replicate (2*N) (0:Rat)).set (2*i) x1).set (2*i+1) x2).map Ar)).length=2*N:=by simp[Bo]
      generalize Bo ((((List.replicate (2*N) (0:Rat)).set (2*i) x1).set (2*i+1) x2).map Ar)=RW at *;refine AW.turn [(8,.osl B 1 0 2),(10,.sl 4 RW)] M0 (Bm.drop hbr ones0) (by simp[-Int.natCast_add,-Int.natCast_mul];exact Cb (Ac.set_same _ _ _) hbr hrl) ?_;(repeat refine AW.seq_k fun K hK=>?_);refine AW.rgR [103] ?_;simp[hM0B];try (refine hK _ rfl ?_;clear hK K)
      refine⟨by unfold maxLen;omega,Ae.intro fun b' hb'=>?_⟩;refine hK _ rfl ?_;clear hK K;exact AW.ret (Af [.sl 1 [.sl 4 R0,.sl 4 R1,.sl 4 RW],.int .i64 0] rfl ⟨Cb (Ac.set_same _ _ _) rfl rfl,.same _,trivial⟩ ⟨by rw[hyes];rfl,rfl⟩)
  ·refine AW.exit ?_;try simp
   have:i=N:=by omega
   subst this;exact Yx g3
 ·rintro _ hj;(repeat refine AW.seq_k fun K hK=>?_);refine AW.rg ?_;simp;try (refine hK _ rfl ?_;clear hK K)
  have hV:B2 M0 Ac.emp (.osl B 1 0 2) (.sl 1 [.sl 4 R0,.sl 4 R1]):=Cb hM0B rfl rfl;exact AW.ret (Af [.sl 1 [.sl 4 R0,.sl 4 R1],.int .i64 0] rfl ⟨hV,.same _,trivial⟩ ⟨by rw[hpN hj];rfl,rfl⟩)
end Go.Av
end
section
namespace Go.Av
open Go.Proofs Go.Lam
noncomputable def Z1 (n:Int) (es:List RE) (p:List RR):AV :=
 if G1 n es p=true then
  match (N5 n.toNat (Ag es) (p.map RR.q) es.length).bind fun M=>(N7 n.toNat (p.map RR.q)).bind fun P=>some (M++P)with
  |some M=>Je (Be M)
  |none=>.tup [An [],.bool false,.int .i64 2]
 else .tup [An [],.bool false,.int .i64 1]
theorem Qm6 {n:Int} {es:List RE} {p:List RR} (h:¬G1 n es p=true):Z1 n es p=.tup [An [],.bool false,.int .i64 1]:=by unfold Z1;rw[if_neg h]
theorem Z2 {n:Int} {es:List RE} {p:List RR} (h:G1 n es p=true):Z1 n es p=match (N5 n.toNat (Ag es) (p.map RR.q) es.length).bind fun M=>(N7 n.toNat (p.map RR.q)).bind fun P=>some (M++P)with
  |some M=>Je (Be M)
  |none=>.tup [An [],.bool false,.int .i64 2]:=by unfold Z1;rw[if_pos h]
theorem U7 (m:List (List RR)):∃a b c,Je m=.tup [a,b,c]:=by
 unfold Je;split<;>exact⟨_,_,_,rfl⟩
theorem Qkp (n:Int) (es:List RE) (p:List RR):∃a b c,Z1 n es p=.tup [a,b,c]:=by
 unfold Z1;split
 ·split
  ·exact U7 _
  ·exact⟨_,_,_,rfl⟩
 ·exact⟨_,_,_,rfl⟩
theorem Va {n:Int} {es:List RE} {p:List RR} (hp:∀x∈p,x.Lb) (h:G1 n es p=true):∃N:Nat,n=(N:Nat)∧1≤N∧N≤12∧Nj (N:Int).toNat es∧es.length≤40∧Cy N (p.map RR.q)∧p=(p.map RR.q).map Ar:=by
 unfold G1 at h;simp only[Bool.and_eq_true,decide_eq_true_eq,List.all_eq_true]at h;obtain⟨⟨hk,h2⟩,h3⟩:=h;obtain⟨⟨q1,q2,q3⟩,_⟩:=Fi hk;obtain⟨N,rfl⟩:=Int.eq_ofNat_of_zero_le (show 0≤n by omega);refine⟨N,rfl,by omega,by omega,Nl hk,q3,⟨by simp;omega,fun q hq=>?_⟩,?_⟩
 ·obtain⟨x,hx,rfl⟩:=List.mem_map.1 hq;exact(Et (hp x hx) (h3 x hx)).1
 ·rw[List.map_map]
  conv=>lhs;rw[←List.map_id p]
  exact List.map_congr_left fun x hx=>(Et (hp x hx) (h3 x hx)).2
theorem Qln {n:Nat} {p:List Rat} {P:List (List Rat)} (h:N7 n p=some P):1≤P.length∧P.length≤3:=by
 unfold N7 at h;split at h
 ·cases h;simp
 ·obtain⟨d1,_,h2⟩:=Option.bind_eq_some_iff.1 h;obtain⟨d2,_,rfl⟩:=Option.map_eq_some_iff.1 h2;simp
theorem P9 (n:Int) (es:List RE) (p:List RR) (hb:W5 es) (hp:∀x∈p,x.Lb) (hpl:p.length<2^63):Ak Tryz.prog 32 [.int .i64 n,Bc es,An p] Ac.emp fun v m=>v=Z1 n es p∧m=Ac.emp:=by
 have hc:=Sh n es p hb hp;by_cases hpl:G1 n es p=true;rotate_left
 ·have e1:Hk n es p=.int .i64 1:=by unfold Hk;rw[if_neg hpl]
  have hz:=Qm6 hpl;rw[e1]at hc;refine Ad Tryz.func32 rfl rfl 46 rfl (Nat.le_of_ble_eq_true rfl) ?_;unfold Bc An at *;(repeat refine AW.seq_k fun K hK=>?_);refine AW.rg ?_;simp[Al];try (refine hK _ rfl ?_;clear hK K)
  (repeat refine AW.seq_k fun K hK=>?_);refine AW.rg ?_;simp;try (refine hK _ rfl ?_;clear hK K)
  refine Aa.val hc ?_;simp;try (refine hK _ rfl ?_;clear hK K)
  (repeat refine AW.seq_k fun K hK=>?_);refine AW.rg ?_;simp;try (refine hK _ rfl ?_;clear hK K)
  refine AW.yes ?_ rfl;(repeat refine AW.seq_k fun K hK=>?_);refine AW.rg ?_;simp;try (refine hK _ rfl ?_;clear hK K)
  exact AW.ret (Af [An [],.bool false,.int .i64 1] rfl ⟨.nilsl 4,.same _,.same _,trivial⟩ ⟨by rw[hz];rfl,rfl⟩)
 have e1:Hk n es p=.int .i64 0:=by unfold Hk;rw[if_pos hpl]
 rw[e1]at hc;obtain⟨N,rfl,N1,N2,hok,h3,hrow,hpe⟩:=Va hp hpl;have hS:=Z2 hpl;simp only[Int.toNat_natCast]at hok hS;have heq:=Mh N es (p.map RR.q) N1 N2 hok h3 hrow;have hpi:=Qij N (p.map RR.q) N1 N2 hrow;generalize p.map RR.q=q at *;subst hpe;unfold eqR at heq;refine Ad Tryz.func32 rfl rfl 46 rfl (Nat.le_of_ble_eq_true rfl) ?_;unfold Bc An at hc;unfold Bc An;(repeat refine AW.seq_k fun K hK=>?_);refine AW.rg ?_;simp[Al];try (refine hK _ rfl ?_;clear hK K)
 (repeat refine AW.seq_k fun K hK=>?_);refine AW.rg ?_;simp;try (refine hK _ rfl ?_;clear hK K)
 refine Aa.val hc ?_;simp;try (refine hK _ rfl ?_;clear hK K)
 (repeat refine AW.seq_k fun K hK=>?_);refine AW.rg ?_;simp;try (refine hK _ rfl ?_;clear hK K)
 refine AW.no ?_ rfl;refine AW.skip ?_;try simp
 try (refine hK _ rfl ?_;clear hK K)
 cases hE:N5 N (Ag es) q es.length with
 |none =>
  rw[hE]at heq hS;simp only[Option.bind_none]at hS;unfold Au at heq;(repeat refine AW.seq_k fun K hK=>?_);refine AW.rg ?_;simp;try (refine hK _ rfl ?_;clear hK K)
  refine Aa.val heq ?_;simp;try (refine hK _ rfl ?_;clear hK K)
  (repeat refine AW.seq_k fun K hK=>?_);refine AW.rg ?_;simp;try (refine hK _ rfl ?_;clear hK K)
  refine AW.yes ?_ rfl;(repeat refine AW.seq_k fun K hK=>?_);refine AW.rg ?_;simp;try (refine hK _ rfl ?_;clear hK K)
  exact AW.ret (Af [An [],.bool false,.int .i64 2] rfl ⟨.nilsl 4,.same _,.same _,trivial⟩ ⟨by rw[hS];rfl,rfl⟩)
 |some M =>
  rw[hE]at heq hS;simp only[Option.bind_some]at hS;obtain⟨gl,gg⟩:=Gq hE;have hMl:((Be M).map An).length=es.length:=by simp[Be,gl]
  (repeat refine AW.seq_k fun K hK=>?_);refine AW.rg ?_;simp;try (refine hK _ rfl ?_;clear hK K)
  refine Aa.whole (fun _ h=>h) heq ?_;rintro _ X ⟨B,rfl,rfl⟩;simp;try (refine hK _ rfl ?_;clear hK K)
  (repeat refine AW.seq_k fun K hK=>?_);refine AW.rg ?_;simp;try (refine hK _ rfl ?_;clear hK K)
  refine AW.no ?_ rfl;refine AW.skip ?_;try simp
  try (refine hK _ rfl ?_;clear hK K)
  unfold Kt at hpi;cases hP:N7 N q with
  |none =>
   rw[hP]at hpi hS;simp only at hpi;simp only[Option.bind_none]at hS;unfold Au at hpi;(repeat refine AW.seq_k fun K hK=>?_);refine AW.rg ?_;simp;try (refine hK _ rfl ?_;clear hK K)
   refine Aa.val hpi ?_;simp;try (refine hK _ rfl ?_;clear hK K)
   (repeat refine AW.seq_k fun K hK=>?_);refine AW.rg ?_;simp;try (refine hK _ rfl ?_;clear hK K)
   refine AW.yes ?_ rfl;(repeat refine AW.seq_k fun K hK=>?_);refine AW.rg ?_;simp;try (refine hK _ rfl ?_;clear hK K)
   exact AW.ret (Af [An [],.bool false,.int .i64 2] rfl ⟨.nilsl 4,.same _,.same _,trivial⟩ ⟨by rw[hS];rfl,rfl⟩)
  |some P =>
   rw[hP]at hpi hS;simp only at hpi;simp only[Option.bind_some]at hS;have hPl:=Qln hP;have hPl2:((Be P).map An).length≤3:=by simpa[Be]using hPl.2
   have hPl1:1≤((Be P).map An).length:=by simpa[Be]using hPl.1
   have hone:∀x∈(Be P).map An,x.cells.length=1∧∀y∈x.cells,y.one=true:=fun x hx=>by
    obtain⟨y,_,rfl⟩:=List.mem_map.1 hx;exact⟨rfl,by simp[An,AV.cells,AV.one]⟩
   have hfi:=V3 (Be (M++P)) (Mo _);rw[←hS]at hfi;have happ:Au (Be (M++P))=.sl 1 ((Be M).map An++(Be P).map An):=by unfold Au Be;rw[List.map_append,List.map_append]
   rw[happ]at hfi;obtain⟨r1,r2,r3,hr⟩:=Qkp N es (q.map Ar);rw[hr]at hfi ⊢;unfold Au at hpi;generalize(Be M).map An=LM at *;generalize(Be P).map An=LP at *;(repeat refine AW.seq_k fun K hK=>?_);refine AW.rg ?_;simp;try (refine hK _ rfl ?_;clear hK K)
   refine Aa.val hpi ?_;simp;try (refine hK _ rfl ?_;clear hK K)
   (repeat refine AW.seq_k fun K hK=>?_);refine AW.rg ?_;simp;try (refine hK _ rfl ?_;clear hK K)
   refine AW.no ?_ rfl;refine AW.skip ?_;try simp
   try (refine hK _ rfl ?_;clear hK K)
   (repeat refine AW.seq_k fun K hK=>?_);refine AW.rg ?_;simp[hone];try (refine hK _ rfl ?_;clear hK K)
   (repeat refine⟨by first | omega | exact hone | (unfold maxLen;omega),?_⟩);refine Ae.intro fun b' hb'=>?_;refine Aa.whole (fun _ h=>h) (Ak.view (args':=[.sl 1 (LM++LP)]) ⟨rfl,fun j u u' h1 h2=>?_⟩ hfi) ?_
   ·match j with
    |0=>cases h1;cases h2;exact Cb (Ac.set_same _ _ _) rfl (by simp[hMl])
    |k+1=>cases h1
   rintro _ _ ⟨rfl,rfl⟩;simp;try (refine hK _ rfl ?_;clear hK K)
   exact AW.ret (Af [r1,r2,r3] rfl ⟨.same _,.same _,.same _,trivial⟩ ⟨rfl,rfl⟩)
end Go.Av
end
section
namespace Go.Av
open Go.Proofs Go.Lam
def eI (l:List Nat) (k:Nat):List RE:=(List.range k).map fun j=>⟨(l.getD (2*j) 0:Nat),(l.getD (2*j+1) 0:Nat),Ar 1⟩
def Uj (l:List Nat):List RE:=eI l (l.length / 2)
theorem Qpu (l:List Nat) (k:Nat):eI l (k+1)=eI l k++[⟨(l.getD (2*k) 0:Nat),(l.getD (2*k+1) 0:Nat),Ar 1⟩]:=by
 unfold eI;rw[List.range_succ,List.map_append];rfl
theorem V9 (l:List Nat) (hl:l.length≤100):Ak Tryz.prog 47 [.sl 1 (A0 l)] Ac.emp fun v m=>v=Bc (Uj l)∧m=Ac.emp:=by
 have hw:=Gn 1 (by omega) (by omega);rw[I3]at hw;unfold RR.av at hw;refine Ad Tryz.func47 rfl rfl 27 rfl (Nat.le_of_ble_eq_true rfl) ?_;(repeat refine AW.seq_k fun K hK=>?_);refine AW.rg ?_;simp[Al];try (refine hK _ rfl ?_;clear hK K)
 (repeat refine AW.seq_k fun K hK=>?_);refine AW.rg ?_;simp;try (refine hK _ rfl ?_;clear hK K)
 refine AW.seq_ex (ι:=J1) (fun z=>[(3,z.ov)]) (fun z=>z.M) (fun z=>Fo z.M 46 6 z.ov z.ob (Dt (Uj l))) ?_ ?_
 ·(repeat refine AW.seq_k fun K hK=>?_);refine AW.rg ?_;simp;try (refine hK _ rfl ?_;clear hK K)
  refine AW.block (AW.loopS (ι:=Nat × J1) (fun z=>[(0,.sl 1 (A0 l)),(3,z.2.ov),(4,.int .i64 ((2*z.1:Nat):Int))]) (fun z=>z.2.M) (fun z=>2*z.1≤l.length∧Fo z.2.M 46 6 z.2.ov z.2.ob (Dt (eI l z.1))) (fun z=>l.length-z.1) (0,⟨Ac.emp,.nil,[]⟩) ⟨by simp,Fo.start _ _⟩ rfl (by simp) ?_);rintro⟨i,M,ov,ob⟩ ⟨g1,g2⟩;simp only at g1 g2;simp only;have w1:=Aq (2*i+1) (by omega);have w2:=Aq (2*i+2) (by omega);(repeat refine AW.seq_k fun K hK=>?_);refine AW.rg ?_;simp[-Int.natCast_add,-Int.natCast_mul,w1];try (refine hK _ rfl ?_;clear hK K)
  (repeat refine AW.seq ?_);refine AW.cs (fun hi=>?_) (fun hi=>?_) rfl<;>(try simp at hi)
  ·refine AW.skip ?_;try simp[-Int.natCast_add,-Int.natCast_mul]
   try (refine hK _ rfl ?_;clear hK K)
   have h0:2*i<l.length:=by omega
   have e0:l.getD (2*i) 0=l[2*i]:=by rw[List.getD_eq_getElem?_getD,List.getElem?_eq_getElem h0];rfl
   have e1:l.getD (2*i+1) 0=l[2*i+1]:=by rw[List.getD_eq_getElem?_getD,List.getElem?_eq_getElem hi];rfl
   have hst:Dt (eI l (i+1))=Dt (eI l i)++[.agg [.int .i64 (l[2*i]:Nat),.int .i64 (l[2*i+1]:Nat),.bool (Ar 1).n1,Ao (Ar 1).l1,.bool (Ar 1).n2,Ao (Ar 1).l2]]:=by
    rw[Qpu,e0,e1];unfold Dt;rw[List.map_append];rfl
   have hfin:∀s:J1,Fo s.M 46 6 s.ov s.ob (Dt (eI l i)++[.agg [.int .i64 (l[2*i]:Nat),.int .i64 (l[2*i+1]:Nat),.bool (Ar 1).n1,Ao (Ar 1).l1,.bool (Ar 1).n2,Ao (Ar 1).l2]])→Fo s.M 46 6 s.ov s.ob (Dt (eI l (i+1))):=fun s h=>by rw[hst];exact h
   have hll:(Dt (eI l i)).length≤100:=by simp[eI];omega
   generalize Dt (eI l i)=LL at *;(repeat refine AW.seq ?_);refine AW.block ?_;rcases g2.lst with⟨z1,z2,z3⟩ | ⟨b0,z2,z3,z4⟩
   ·subst z1 z2 z3;refine AW.rdR [24] [0,1,2,3,4,5,6,7,8,9,10,11,12,13,14] Dm ?_;simp[-Int.natCast_add,-Int.natCast_mul,h0,hi,w1];refine Aa.val hw ?_;simp[-Int.natCast_add,-Int.natCast_mul];refine⟨by unfold maxLen;omega,Ae.intro fun b hb=>?_⟩;(repeat refine AW.seq_k fun K hK=>?_);refine AW.rg ?_;simp[-Int.natCast_add,-Int.natCast_mul,w2];try (refine hK _ rfl ?_;clear hK K)
    exact⟨i+1,⟨_,_,[b]⟩,⟨by omega,hfin _ (g2.push0 b _)⟩,by omega,rfl,rfl,rfl⟩
   ·subst z2 z3;refine AW.rdR [24] [0,1,2,3,4,5,6,7,8,9,10,11,12,13,14] Dm ?_;simp[-Int.natCast_add,-Int.natCast_mul,h0,hi,w1,z4];refine Aa.val hw ?_;simp[-Int.natCast_add,-Int.natCast_mul,z4];refine⟨by omega,by unfold maxLen;omega,Ae.intro fun b hb=>?_⟩;(repeat refine AW.seq_k fun K hK=>?_);refine AW.rg ?_;simp[-Int.natCast_add,-Int.natCast_mul,w2];try (refine hK _ rfl ?_;clear hK K)
    exact⟨i+1,⟨_,_,[b]⟩,⟨by omega,hfin _ (g2.push1 b _)⟩,by omega,rfl,rfl,rfl⟩
  ·refine AW.exit ?_;try simp[-Int.natCast_add,-Int.natCast_mul]
   have:i=l.length / 2:=by omega
   exact⟨⟨M,ov,ob⟩,by unfold Uj;rw[←this];exact g2,by simp⟩
 rintro⟨M,ov,ob⟩ g1;(repeat refine AW.seq_k fun K hK=>?_);refine AW.rg ?_;simp;try (refine hK _ rfl ?_;clear hK K)
 have hv:=g1.lst.view (M':=Ac.emp) (fun _ _=>rfl);exact AW.ret (Af [Bc (Uj l)] rfl ⟨hv,trivial⟩ ⟨rfl,rfl⟩)
end Go.Av
end
section
namespace Go.Av
open Go.Proofs Go.Lam
def l4:List Nat:=[0,1,1,2,2,3,3,0]
def l6:List Nat:=[0,1,1,2,2,3,3,0,0,2,1,3]
def exP:List Rat:=[0,0,1,0,1,1,0,1]
def exM:List (List Rat):=((N5 4 (Ag (Uj l4)) exP 4).bind fun M=>(N7 4 exP).bind fun P=>some (M++P)).getD []
def exZ:List (List Rat) × List Nat:=(E7 exM).getD ([],[])
theorem Qai:Di 4 (Uj l4)=true:=by decide +kernel
theorem Qp5:Ip 4 (Uj l4)=[0,1,2,3]:=by decide +kernel
theorem Qqf:W7 4 (Uj l4)=.int .i64 1:=by unfold W7;rw[if_pos Qai,Qp5];rfl
theorem Qc3:C6 4 (Uj l4)=.int .i64 0:=by unfold C6;rw[if_pos Qai]
theorem Qpj:(Vv 4 (Uj l4)).length=4:=by decide +kernel
theorem Qq1:∃l,Mu 4 (Uj l6) 5=.tup [.sl 1 (A0 l),.int .i64 0]∧l.length=6:=by
 have h:Jr 4 (Uj l6) 5=0:=by decide +kernel
 refine⟨_,by unfold Mu;rw[h],?_⟩;decide +kernel
theorem Q3w:((N5 4 (Ag (Uj l4)) exP 4).bind fun M=>(N7 4 exP).bind fun P=>some (M++P))=some exM:=by decide +kernel
theorem Qng:Bf 7 8 exM:=⟨by unfold Ey B0;decide +kernel,by unfold L8;decide +kernel,by decide +kernel⟩
theorem Qug:E7 exM=some exZ:=by decide +kernel
theorem Qw5:∃v V,Hc exZ.1 exZ.2 8 8=v::V∧v.length=8∧Ba v 4=1:=by
 have h:(match Hc exZ.1 exZ.2 8 8 with | v::_=>decide (v.length=8∧Ba v 4=1) | []=>false)=true:=by decide +kernel
 cases hk:Hc exZ.1 exZ.2 8 8 with
 |nil=>rw[hk]at h;cases h
 |cons v V=>rw[hk]at h;simp only[decide_eq_true_eq]at h;exact⟨v,V,rfl,h.1,h.2⟩
theorem Qwc:(exP.map Ar).all RR.ok=true:=by decide +kernel
theorem Qvw:∃v:List Rat,Z1 4 (Uj l4) (exP.map Ar)=.tup [An (v.map Ar),.bool true,.int .i64 0]∧v.length=8∧Ba v 4=1:=by
 obtain⟨v,V,h1,h2,h3⟩:=Qw5;refine⟨v,?_,h2,h3⟩;have hp:G1 4 (Uj l4) (exP.map Ar)=true:=by unfold G1;rw[Qai,Qwc];rfl
 have hq:(exP.map Ar).map RR.q=exP:=by
  rw[List.map_map]
  conv=>rhs;rw[←List.map_id exP]
  exact List.map_congr_left fun q _=>F3 q
 rw[Z2 hp,hq];have e4:(Uj l4).length=4:=by decide +kernel
 have hc:=Ql Qng (by decide +kernel) (by omega) (by omega);have hw:(Aj (Be exM) 0).length=8:=by rw[Bw,List.length_map];decide +kernel
 have hr:G2 (Be exM)=(0,exZ.1,exZ.2):=by
  unfold G2;rw[if_neg (by simp[hc]),T5,Qug]
 have hR:W9 (Be exM)=(0,v::V):=by
  unfold W9;rw[hr,if_neg (by simp),hw,h1]
 rw[e4,show(4:Int).toNat=4 from rfl,Q3w];simp only;unfold Je;rw[hR];rfl
theorem Aa.eat {P:Program} {av:Nat→Prop} {f:FuncId} {args:List AV} {M:Ac} {k:AV→Ac→Prop} {v:AV} {args':List AV} (h:Ak P f args' Ac.emp fun v' m'=>v'=v∧m'=Ac.emp) (hv:Eo M Ac.emp args args') (hk:k v Ac.emp) (hav:∀b,¬av b:=by exact fun _ h=>h):Aa P av f args M k :=
 Aa.whole hav (Ak.view (Dn hv) h) (by rintro _ _ ⟨rfl,rfl⟩;exact hk)
theorem Z5:Ak Tryz.prog 17 [] Ac.emp fun v m=>v=.bool true∧m=Ac.emp:=by
 have hlb:∀l,W5 (Uj l):=fun l x hx=>by
  unfold Uj eI at hx;obtain⟨j,_,rfl⟩:=List.mem_map.1 hx;exact Eb _
 have hln:True:=trivial;have he4:=V9 l4 (by decide);have he6:=V9 l6 (by decide);have hfr:=Xf 4 (Uj l4) (hlb _);have hcl:=Qgd 4 (Uj l4) (hlb _) (fun _=>by omega);have hmo:=P9 4 (Uj l4) (exP.map Ar) (hlb _) (fun x hx=>by obtain⟨q,_,rfl⟩:=List.mem_map.1 hx;exact Eb _) (by decide);have hci:=Qf3 4 (Uj l6) 5 (hlb _);obtain⟨cl,c1,c2⟩:=Qq1;obtain⟨v,m1,m2,m3⟩:=Qvw;have hcn:=Qpj;have hv4:B0 (Ba v 4):=by rw[m3];exact Wz
 have hs:=Le (a:=Ba v 4) (b:=1) hv4;rw[decide_eq_true m3]at hs;rw[Qqf,Qc3]at hfr;rw[Qc3]at hcl;rw[m1]at hmo;rw[c1]at hci;have hw0:=Gn 0 (by omega) (by omega);have hw1:=Gn 1 (by omega) (by omega);rw[Iv]at hw0;rw[I3]at hw1;have hrow:An (exP.map Ar)=.sl 4 [(Ar 0).av,(Ar 0).av,(Ar 1).av,(Ar 0).av,(Ar 1).av,(Ar 1).av,(Ar 0).av,(Ar 1).av]:=rfl;rw[hrow]at hmo;have hi4:AV.sl 1 (A0 l4)=.sl 1 [.int .i64 0,.int .i64 1,.int .i64 1,.int .i64 2,.int .i64 2,.int .i64 3,.int .i64 3,.int .i64 0]:=rfl
 have hi6:AV.sl 1 (A0 l6)=.sl 1 [.int .i64 0,.int .i64 1,.int .i64 1,.int .i64 2,.int .i64 2,.int .i64 3,.int .i64 3,.int .i64 0,.int .i64 0,.int .i64 2,.int .i64 1,.int .i64 3]:=rfl;rw[hi4]at he4;rw[hi6]at he6;generalize Uj l4=E4 at *;generalize Uj l6=E6 at *;generalize Vv 4 E4=CS at *;generalize(Ar 0)=Q0 at *;generalize hQ1:(Ar 1)=Q1 at *;refine Ad Tryz.func17 rfl rfl 89 rfl (Nat.le_of_ble_eq_true rfl) ?_;(repeat refine AW.seq_k fun K hK=>?_);refine AW.rg ?_;simp[Al];try (refine hK _ rfl ?_;clear hK K)
 (repeat refine AW.seq_k fun K hK=>?_);refine AW.rg ?_;simp;try (refine hK _ rfl ?_;clear hK K)
 refine Ae.intro fun b1 hb1=>?_;refine Aa.eat he4 ⟨Cb (Ac.set_same _ _ _) rfl rfl,trivial⟩ ?_;simp;try (refine hK _ rfl ?_;clear hK K)
 unfold Bc at *;(repeat refine AW.seq_k fun K hK=>?_);refine AW.rg ?_;simp;try (refine hK _ rfl ?_;clear hK K)
 refine Aa.val hfr ?_;simp;try (refine hK _ rfl ?_;clear hK K)
 (repeat refine AW.seq_k fun K hK=>?_);refine AW.rg ?_;simp;try (refine hK _ rfl ?_;clear hK K)
 refine Aa.val hcl ?_;simp;try (refine hK _ rfl ?_;clear hK K)
 (repeat refine AW.seq_k fun K hK=>?_);refine AW.rg ?_;simp;try (refine hK _ rfl ?_;clear hK K)
 refine Aa.val hw0 ?_;simp;refine Aa.val hw0 ?_;simp;refine Aa.val hw1 ?_;simp;refine Aa.val hw0 ?_;simp;refine Aa.val hw1 ?_;simp;refine Aa.val hw1 ?_;simp;refine Aa.val hw0 ?_;simp;refine Aa.val hw1 ?_;simp;refine Ae.intro fun b2 hb2=>?_;try (refine hK _ rfl ?_;clear hK K)
 (repeat refine AW.seq_k fun K hK=>?_);refine AW.rg ?_;simp;try (refine hK _ rfl ?_;clear hK K)
 refine Aa.eat hmo ⟨.same _,.same _,Cb (Ac.set_same _ _ _) rfl rfl,trivial⟩ ?_;simp;try (refine hK _ rfl ?_;clear hK K)
 (repeat refine AW.seq_k fun K hK=>?_);refine AW.rg ?_;simp;try (refine hK _ rfl ?_;clear hK K)
 refine Ae.intro fun b3 hb3=>?_;refine Aa.eat he6 ⟨Cb (Ac.set_same _ _ _) rfl rfl,trivial⟩ ?_;simp;refine Aa.val hci ?_;simp;try (refine hK _ rfl ?_;clear hK K)
 have hcl4:(G3 CS).length=4:=by unfold G3;simpa using hcn
 have hr4:rr (v.map Ar) 4=Ar (Ba v 4):=by rw[Ja (by simp[m2])];unfold Ba;simp[m2]
 generalize Ar (Ba v 4)=q4 at *;unfold RR.av at hs hw1;unfold An;(repeat refine AW.seq_k fun K hK=>?_);refine AW.rd [0,1,2,3,4,5,6,7,8,9,10,11,12,13,14,15,16,17,18,19,20,21,22,23,24,25,26,27,28,29,30,31,32,33,34,35,36,37,38,39,40,41,42,43] Dm ?_;simp[hcl4,m2,c2,hr4];try (refine hK _ rfl ?_;clear hK K)
 refine Aa.val hw1 ?_;simp[hcl4,m2,c2,hr4];refine Aa.val hs ?_;simp[hcl4,m2,c2,hr4];try (refine hK _ rfl ?_;clear hK K)
 exact AW.ret (Ah rfl _ (.same _) ⟨rfl,rfl⟩)
end Go.Av
end
section
namespace Go.Av
open Go.Proofs Go.Lam
theorem W8 (a:Int):∃r:Nat,r<65536∧G9 .and .i64 a 65535=(r:Int):=by
 have h:(BitVec.ofInt 64 a &&& BitVec.ofInt 64 65535).toNat<65536:=by
  rw[BitVec.toNat_and];have:=Nat.and_le_right (n:=(BitVec.ofInt 64 a).toNat) (m:=(BitVec.ofInt 64 65535).toNat);have e:(BitVec.ofInt 64 65535).toNat=65535:=by decide
  omega
 refine⟨(BitVec.ofInt 64 a &&& BitVec.ofInt 64 65535).toNat,h,?_⟩;show IntKind.i64.wrap (((BitVec.ofInt 64 a &&& BitVec.ofInt 64 65535).toNat:Nat):Int)=_
 exact wi (by omega)
theorem W5.snoc {o:List RE} (h:W5 o) {x:RE} (hx:x.sq.Lb):W5 (o++[x]):=fun y hy=>by
 rcases List.mem_append.1 hy with h1|h1
 ·exact h y h1
 ·simp at h1;subst h1;exact hx
theorem Qk8 {N:Nat} (h2:2≤N) (h8:N≤8):Di (N:Nat) []=true:=by
 unfold Di;simp;omega
theorem se0 (a b c d e f v:AV) (hv:v.cells=[v]):Cd 6 1 (.agg [a,b,c,d,e,f]) v 0=.agg [v,b,c,d,e,f]:=by simp only[Cd,hv];rfl
theorem se1 (a b c d e f v:AV) (hv:v.cells=[v]):Cd 6 1 (.agg [a,b,c,d,e,f]) v 1=.agg [a,v,c,d,e,f]:=by simp only[Cd,hv];rfl
theorem se2 (a b c d e f p q r s:AV):Cd 6 4 (.agg [a,b,c,d,e,f]) (.agg [p,q,r,s]) 2=.agg [a,b,p,q,r,s]:=by simp[Cd,AV.cells]
def Qv1 (N:Nat) (v:AV):Prop:=∃es,v=Bc es∧Di (N:Nat) es=true∧W5 es∧es.length≤24
theorem Qed (N:Nat) (l:List RE) (h2:2≤N) (h8:N≤8) (hl:l.length<2^63):Ak Tryz.prog 25 [.int .i64 (N:Nat),Bc l] Ac.emp fun v m=>Qv1 N v∧m=Ac.emp:=by
 have hw:=Gn 1 (by omega) (by omega);rw[I3]at hw;unfold RR.av at hw;have hN0:¬N=0:=by omega
 refine Ad Tryz.func25 rfl rfl 50 rfl (Nat.le_of_ble_eq_true rfl) ?_;unfold Bc;(repeat refine AW.seq_k fun K hK=>?_);refine AW.rg ?_;simp[Al];try (refine hK _ rfl ?_;clear hK K)
 (repeat refine AW.seq_k fun K hK=>?_);refine AW.rg ?_;simp;try (refine hK _ rfl ?_;clear hK K)
 refine AW.turn [(0,.int .i64 (N:Nat)),(1,.sl 6 (Dt l)),(5,.sl 6 (Dt []))] Ac.emp (Bm.refl _ (by intro b x hx;cases hx)) (by simp;exact .nilsl 6) ?_;refine AW.seq_ex (ι:=List RE) (fun o=>[(5,.sl 6 (Dt o))]) (fun _=>Ac.emp) (fun o=>Di (N:Nat) o=true∧W5 o∧o.length≤24) ?_ ?_
 ·(repeat refine AW.seq_k fun K hK=>?_);refine AW.rg ?_;simp;try (refine hK _ rfl ?_;clear hK K)
  refine AW.block (AW.loopS (ι:=List RE × Nat) (fun z=>[(0,.int .i64 (N:Nat)),(1,.sl 6 (Dt l)),(5,.sl 6 (Dt z.1)),(6,.int .i64 (z.2:Nat))]) (fun _=>Ac.emp) (fun z=>z.2≤l.length∧Di (N:Nat) z.1=true∧W5 z.1∧z.1.length≤24) (fun z=>l.length-z.2) ([],0) ⟨by simp,Qk8 h2 h8,fun x hx=>(by cases hx),by simp⟩ rfl (by simp) ?_);rintro⟨o,i⟩ ⟨g1,g2,g3,g4⟩;simp only at g1 g2 g3 g4;simp only;by_cases hi:i<l.length
  ·by_cases ho:o.length<24
   ·have ho':(o.length:Int)<24:=by omega
    (repeat refine AW.seq_k fun K hK=>?_);refine AW.rg ?_;simp[hi,ho'];try (refine hK _ rfl ?_;clear hK K)
    refine AW.yes ?_ rfl;refine AW.skip ?_;try simp
    try (refine hK _ rfl ?_;clear hK K)
    have w1:=Aq (i+1) (by omega);obtain⟨ra,ra1,ra2⟩:=W8 (H9 l i).a;obtain⟨rb,rb1,rb2⟩:=W8 (H9 l i).b;(repeat refine AW.seq ?_);refine AW.block ?_;(repeat refine AW.seq_k fun K hK=>?_);refine AW.rg ?_;simp[hi,Cq];try (refine hK _ rfl ?_;clear hK K)
    refine Ae.intro fun b7 hb7=>?_;try (refine hK _ rfl ?_;clear hK K)
    (repeat refine AW.seq_k fun K hK=>?_);refine AW.rg ?_;simp[-Int.natCast_emod,Cq,ra2,hN0,se0];try (refine hK _ rfl ?_;clear hK K)
    try (refine hK _ rfl ?_;clear hK K)
    (repeat refine AW.seq_k fun K hK=>?_);refine AW.rg ?_;simp[-Int.natCast_emod,Cq,rb2,hN0,se1];try (refine hK _ rfl ?_;clear hK K)
    try (refine hK _ rfl ?_;clear hK K)
    (repeat refine AW.seq_k fun K hK=>?_);refine AW.rg ?_;simp[-Int.natCast_emod];try (refine hK _ rfl ?_;clear hK K)
    refine Aa.val hw ?_;simp[-Int.natCast_emod,se2];try (refine hK _ rfl ?_;clear hK K)
    refine AW.toEmp [(0,.int .i64 (N:Nat)),(1,.sl 6 (Dt l)),(5,.sl 6 (Dt o)),(6,.int .i64 (i:Nat)),(7,.rptr [.int .i64 ((ra % N:Nat):Int),.int .i64 ((rb % N:Nat):Int),.bool (Ar 1).n1,Ao (Ar 1).l1,.bool (Ar 1).n2,Ao (Ar 1).l2])] (by simp[-Int.natCast_emod];exact .ptr b7 6 0 0 _ (.agg _) (Ac.set_same _ _ _) rfl rfl rfl) ?_;refine AW.seq_k fun K hK=>?_;refine AW.rdV [42] [1,3,4,0,2,5,6] Dm ?_;simp[-Int.natCast_emod];have ee:∀x∈Dt o,x.cells.length=6∧∀y∈x.cells,y.one=true:=fun x hx=>by
     obtain⟨e,_,rfl⟩:=List.mem_map.1 hx;exact⟨e.av_len,List.all_eq_true.1 e.av_ones⟩
    refine Ae.intro fun b _=>⟨ee,by omega,by unfold maxLen;omega,Ae.intro fun b' _=>⟨by omega,by unfold maxLen;omega,Ae.intro fun b'' hb''=>?_⟩⟩;refine hK _ rfl ?_;clear hK K;obtain⟨X,hX⟩:∃X:RE,X=⟨(ra % N:Nat),(rb % N:Nat),Ar 1⟩:=⟨_,rfl⟩;have hXa:X.av=.agg [.int .i64 ((ra % N:Nat):Int),.int .i64 ((rb % N:Nat):Int),.bool (Ar 1).n1,Ao (Ar 1).l1,.bool (Ar 1).n2,Ao (Ar 1).l2]:=by rw[hX];rfl
    have hsn:Dt o++[X.av]=Dt (o++[X]):=by simp[Dt]
    rw[←hXa];refine AW.toEmp [(0,.int .i64 (N:Nat)),(1,.sl 6 (Dt l)),(5,.sl 6 (Dt o)),(6,.int .i64 (i:Nat)),(8,.sl 6 (Dt (o++[X])))] (by simp[-Int.natCast_emod];rw[←hsn];exact Cb (Ac.set_same _ _ _) rfl (by simp)) ?_;have hl':W5 (o++[X]):=g3.snoc (by rw[hX];exact Eb _);have hck:=Qd8 (N:Nat) (o++[X]) hl';unfold Bc C6 at hck;cases hc:Di (N:Nat) (o++[X])with
    |true =>
     rw[hc]at hck;(repeat refine AW.seq_k fun K hK=>?_);refine AW.rg ?_;simp;try (refine hK _ rfl ?_;clear hK K)
     refine Aa.val hck ?_;simp;try (refine hK _ rfl ?_;clear hK K)
     refine AW.yes ?_ rfl;(repeat refine AW.seq_k fun K hK=>?_);refine AW.rg ?_;simp;try (refine hK _ rfl ?_;clear hK K)
     (repeat refine AW.seq_k fun K hK=>?_);refine AW.rg ?_;simp[-Int.natCast_add,w1];try (refine hK _ rfl ?_;clear hK K)
     exact⟨o++[X],i+1,⟨by omega,hc,hl',by simp;omega⟩,by omega,rfl,rfl⟩
    |false =>
     rw[hc]at hck;(repeat refine AW.seq_k fun K hK=>?_);refine AW.rg ?_;simp;try (refine hK _ rfl ?_;clear hK K)
     refine Aa.val hck ?_;simp;try (refine hK _ rfl ?_;clear hK K)
     refine AW.no ?_ rfl;refine AW.skip ?_;try simp
     try (refine hK _ rfl ?_;clear hK K)
     (repeat refine AW.seq_k fun K hK=>?_);refine AW.rg ?_;simp[-Int.natCast_add,w1];try (refine hK _ rfl ?_;clear hK K)
     exact⟨o,i+1,⟨by omega,g2,g3,g4⟩,by omega,rfl,rfl⟩
   ·have ho':¬(o.length:Int)<24:=by omega
    (repeat refine AW.seq_k fun K hK=>?_);refine AW.rg ?_;simp[hi,ho'];try (refine hK _ rfl ?_;clear hK K)
    refine AW.no ?_ rfl;refine AW.exit ?_;try simp
    exact⟨o,⟨g2,g3,g4⟩,rfl⟩
  ·(repeat refine AW.seq_k fun K hK=>?_);refine AW.rg ?_;simp[hi];try (refine hK _ rfl ?_;clear hK K)
   refine AW.no ?_ rfl;refine AW.exit ?_;try simp
   exact⟨o,⟨g2,g3,g4⟩,rfl⟩
 ·rintro o ⟨g2,g3,g4⟩;(repeat refine AW.seq_k fun K hK=>?_);refine AW.rg ?_;simp;try (refine hK _ rfl ?_;clear hK K)
  exact AW.ret (Af [Bc o] rfl ⟨.same _,trivial⟩ ⟨⟨o,rfl,g2,g3,g4⟩,rfl⟩)
end Go.Av
end
section
namespace Go.Av
open Go.Proofs Go.Lam
def okB (n:Int) (x:RE):Prop:=0≤x.a∧x.a<n∧0≤x.b∧x.b<n∧x.a≠x.b∧x.sq.ok=true∧0<D9 x.sq
def Qwz (y x:RE):Prop:=Bz x y=false
theorem Qh1 {n:Int} {es:List RE}:Di n es=true↔(1≤n∧n≤12∧es.length≤40)∧(∀x∈es,okB n x)∧es.Pairwise Qwz:=by
 constructor
 ·intro h;obtain⟨h1,h2⟩:=Fi h;refine⟨h1,fun x hx=>?_,List.pairwise_iff_getElem.2 fun i j hi hj hij=>?_⟩
  ·obtain⟨i,hi,rfl⟩:=List.getElem_of_mem hx;obtain⟨q1,q2,q3,q4,q5,q6,q7,_⟩:=R3 (h2 i hi);rw[J9 hi]at *;exact⟨q1,q2,q3,q4,q5,q6,q7⟩
  ·obtain⟨_,_,_,_,_,_,_,q8⟩:=R3 (h2 j hj);rw[J9 hj]at q8;have:=List.any_eq_false.1 q8 es[i] (List.mem_take_iff_getElem.2 ⟨i,by omega,rfl⟩);simpa[Qwz]using this
 ·rintro⟨⟨h1,h2,h3⟩,h4,h5⟩;unfold Di;have:(List.range es.length).all (Ps n es)=true:=List.all_eq_true.2 fun i hi=>by
   have hi:=List.mem_range.1 hi;unfold Ps;obtain⟨q1,q2,q3,q4,q5,q6,q7⟩:=h4 _ (List.getElem_mem hi);refine Vf ?_;rw[J9 hi];refine⟨q1,q2,q3,q4,q5,q6,q7,List.any_eq_false.2 fun y hy=>?_⟩;obtain⟨j,hj,rfl⟩:=List.mem_take_iff_getElem.1 hy;have:=List.pairwise_iff_getElem.1 h5 j i (by omega) hi (by omega);simpa[Qwz]using this
  rw[this];simp[h1,h2,h3]
end Go.Av
end
section
namespace Go.Av
open Go.Proofs Go.Lam
theorem Vo {p:Nat→Bool}:∀{s t:List Nat},s.Nodup→(∀x∈s,x∈t)→s.countP p≤t.countP p
 |[],t,_,_=>by simp
 |a::s,t,hn,h=>by
  obtain⟨h1,h2⟩:=List.nodup_cons.1 hn;have hp:t.Perm (a::t.erase a):=List.perm_cons_erase (h a (by simp));have:=Vo (p:=p) (s:=s) (t:=t.erase a) h2 fun x hx=>(List.mem_erase_of_ne (fun e=>h1 (by rw[←e];exact hx))).2 (h x (by simp[hx]));rw[hp.countP_eq,List.countP_cons,List.countP_cons];omega
section
variable {n:Nat} {E:Nat→Ed}
end
section
variable {N:Nat} {es:List RE}
end
end Go.Av
end
section
namespace Go.Av
open Go.Proofs Go.Lam
section
variable {N n:Nat} {E:Nat→Ed} {p:List Rat} {X:List (List Rat)} {z:List (List Rat) × List Nat} {σ:Nat→Nat}
def Q0y (p:List Rat) (k i:Nat):Rat:=if k=2 then (if i=2 then Ba p 1-Ba p 3 else if i=3 then Ba p 2-Ba p 0 else 0) else if i=k then 1 else 0
end
end Go.Av
end
section
namespace Go.Av
open Go.Proofs
theorem Qbu (r:List RR) (x:RR):Bo (r++[x])=Bo r++[x.av]:=by simp[Bo]
structure J6 (M:Ac) (ov:AV) (ob:List Nat) (l:List AV) (rv:AV) (rb:List Nat) (r:List AV):Prop where
 lst:Nf M 51 1 ov ob l
 row:Nf M 44 4 rv rb r
 only:D4 M (ob++rb)
 dis:∀b∈ob,b ∉ rb
section
variable {M:Ac} {ov rv:AV} {ob rb:List Nat} {l r:List AV}
theorem Mt {M:Ac} {ty:TypeId} {z:Nat} {ov:AV} {ob:List Nat} {l:List AV} (h:Nf M ty z ov ob l) {b:Nat} (hb:b∈ob):M b=some ⟨ty,z,l⟩:=by
 rcases h with⟨_,h1,_⟩|⟨b',h1,_,h3⟩
 ·rw[h1]at hb;cases hb
 ·rw[h1]at hb;simp at hb;subst hb;exact h3
theorem J6.start {M:Ac} {ov:AV} {ob:List Nat} {l:List AV} (h:Fo M 51 1 ov ob l):J6 M ov ob l .nil [] [] :=
 ⟨h.lst,.inl ⟨rfl,rfl,rfl⟩,by simpa using h.only,by simp⟩
theorem J6.fresh (h:J6 M ov ob l rv rb r) {b:Nat} (hb:M b=none):b ∉ ob∧b ∉ rb :=
 ⟨fun h'=>(by rw[Mt h.lst h']at hb;cases hb),fun h'=>(by rw[Mt h.row h']at hb;cases hb)⟩
theorem J6.push0 (h:J6 M ov ob l .nil [] []) {b:Nat} (hb:M b=none) (v:AV):J6 (M.set b ⟨44,4,[v]⟩) ov ob l (.osl b 4 0 1) [b] [v]:=by
 obtain⟨f1,_⟩:=h.fresh hb;refine⟨h.lst.keep fun a ha=>by simp only[A9];rw[if_neg (by rintro rfl;exact f1 ha)],.inr ⟨b,rfl,rfl,by simp⟩,D4.set (h.only.sub fun a ha=>by simp at ha ⊢;exact .inl ha) (by simp) _,fun a ha=>by simp;rintro rfl;exact f1 ha⟩
theorem J6.push1 {b0:Nat} (h:J6 M ov ob l (.osl b0 4 0 r.length) [b0] r) {b:Nat} (hb:(M.del b0) b=none) (v:AV):J6 ((M.del b0).set b ⟨44,4,r++[v]⟩) ov ob l (.osl b 4 0 (r.length+1)) [b] (r++[v]):=by
 have hd:∀a,a≠b0→(M.del b0) a=M a:=fun a ha=>if_neg ha;have h0:∀a∈ob,a≠b0:=fun a ha e=>h.dis a ha (by simp[e]);have hh:J6 (M.del b0) ov ob l .nil [] []:=by
  refine⟨h.lst.keep fun a ha=>hd a (h0 a ha),.inl ⟨rfl,rfl,rfl⟩,fun a ha=>?_,by simp⟩;have h1:a≠b0:=by rintro rfl;exact ha (if_pos rfl)
  rw[hd a h1]at ha;have:=h.only a ha;simp at this ⊢;exact this.resolve_right h1
 have:=hh.push0 hb v;obtain⟨f1,_⟩:=hh.fresh hb;refine⟨hh.lst.keep fun a ha=>by simp only[A9];rw[if_neg (by rintro rfl;exact f1 ha)],.inr ⟨b,rfl,by simp,by simp⟩,D4.set (hh.only.sub fun a ha=>by simp at ha ⊢;exact .inl ha) (by simp) _,fun a ha=>by simp;rintro rfl;exact f1 ha⟩
theorem J6.ones (h:J6 M ov ob l rv rb r) (h1:∀v∈l,v.cells.all AV.one=true) (h2:∀v∈r,v.cells.all AV.one=true):F4 M:=by
 intro b y hy;rcases List.mem_append.1 (h.only b (by rw[hy];simp))with hb | hb
 ·rw[Mt h.lst hb]at hy;cases hy;exact h1
 ·rw[Mt h.row hb]at hy;cases hy;exact h2
theorem J6.done (h:J6 M ov ob l rv rb r) (h1:∀v∈l,v.cells.all AV.one=true):∃M',Bm M M'∧Fo M' 51 1 ov ob l∧B2 M M' rv (.sl 4 r)∧B2 M M' ov ov:=by
 refine⟨fun b=>if b∈rb then none else M b,Bm.sub fun b y hy=>?_,⟨h.lst.keep fun b hb=>if_neg (h.dis b hb),fun b hb=>?_⟩,?_,.same _⟩
 ·by_cases hb:b∈rb
  ·simp[hb]at hy
  ·simp[hb]at hy;refine⟨hy,?_⟩;have:=h.only b (by rw[hy];simp);simp[hb]at this;rw[Mt h.lst this]at hy;cases hy;exact h1
 ·by_cases hm:b∈rb
  ·simp[hm]at hb
  ·simp[hm]at hb;have:=h.only b hb;simpa[hm]using this
 ·exact h.row.view fun b hb=>if_pos hb
end
end Go.Av
end
section
namespace Go.Av
open Go.Proofs Go.Lam
def Dg (X:List (List Rat)) (n j:Nat):List Rat:=(List.range n).map fun i=>A6 X i j
def Pm (X:List (List Rat)) (n w:Nat):List (List Rat):=(List.range w).map fun j=>Dg X n j
theorem Vc (X:List (List Rat)) (n j:Nat):Dg X (n+1) j=Dg X n j++[A6 X n j]:=by unfold Dg;rw[List.range_succ,List.map_append];rfl
theorem Qms (X:List (List Rat)) (n w:Nat):Pm X n (w+1)=Pm X n w++[Dg X n w]:=by unfold Pm;rw[List.range_succ,List.map_append];rfl
theorem Qh3 {n k:Nat} {E:Nat→Ed} {p:List Rat} {M:List (List Rat)} (h:N5 n E p k=some M):Bf k (2*n) M:=by
 obtain⟨h1,h2⟩:=Gq h;refine⟨fun r hr=>(h2 r hr).2,fun i hi=>?_,h1⟩;have:Aj M i∈M:=by rw[Ep hi];exact List.getElem_mem hi
 exact(h2 _ this).1
noncomputable def Qcz (n:Int) (es:List RE) (p:List RR):AV :=
 if G1 n es p=true then
  match N5 n.toNat (Ag es) (p.map RR.q) es.length with
  |some M=>Je (Be (Pm M es.length (2*n.toNat)))
  |none=>.tup [An [],.bool false,.int .i64 2]
 else .tup [An [],.bool false,.int .i64 1]
theorem Qni {n:Int} {es:List RE} {p:List RR} (h:¬G1 n es p=true):Qcz n es p=.tup [An [],.bool false,.int .i64 1]:=by unfold Qcz;rw[if_neg h]
theorem Qg9 {n:Int} {es:List RE} {p:List RR} (h:G1 n es p=true):Qcz n es p=match N5 n.toNat (Ag es) (p.map RR.q) es.length with
  |some M=>Je (Be (Pm M es.length (2*n.toNat)))
  |none=>.tup [An [],.bool false,.int .i64 2]:=by unfold Qcz;rw[if_pos h]
theorem Qmh (n:Int) (es:List RE) (p:List RR):∃a b c,Qcz n es p=.tup [a,b,c]:=by
 unfold Qcz;split
 ·split
  ·exact U7 _
  ·exact⟨_,_,_,rfl⟩
 ·exact⟨_,_,_,rfl⟩
def tB (w:Nat) (X:List (List Rat)) (n k:Nat):List AV:=((List.range k).map fun j=>AV.sl 4 (Bo ((Dg X n j).map Ar)))++List.replicate (w-k) .nil
theorem Rg {w:Nat} {X:List (List Rat)} {n k:Nat} (h:k≤w):(tB w X n k).length=w:=by simp[tB];omega
theorem Qm8 {w:Nat} {X:List (List Rat)} {n k:Nat} (h:k<w) (v:AV):(tB w X n k).set k v=((List.range k).map fun j=>AV.sl 4 (Bo ((Dg X n j).map Ar)))++v::List.replicate (w-(k+1)) .nil:=by
 unfold tB;rw[List.set_append_right _ _ (by simp),List.length_map,List.length_range,Nat.sub_self,show w-k=(w-(k+1))+1 by omega,List.replicate_succ,List.set_cons_zero]
theorem Qgn {w:Nat} {X:List (List Rat)} {n k:Nat} (h:k<w):(tB w X n k).set k .nil=tB w X n k:=by
 rw[Qm8 h];unfold tB;rw[show w-k=(w-(k+1))+1 by omega,List.replicate_succ]
theorem Qo5 {w:Nat} {X:List (List Rat)} {n k:Nat} (h:k<w):(tB w X n k).set k (.sl 4 (Bo ((Dg X n k).map Ar)))=tB w X n (k+1):=by
 rw[Qm8 h];unfold tB;rw[List.range_succ,List.map_append,List.append_assoc];rfl
theorem Q2i {w:Nat} {X:List (List Rat)} {n k:Nat} (h:k<w) (v:AV):((tB w X n k).set k v)[k]?=some v:=by
 rw[List.getElem?_set_self];rw[Rg (by omega)];exact h
theorem Qly {w:Nat} {X:List (List Rat)} {n k:Nat}:∀v∈tB w X n k,v.cells.all AV.one=true:=by
 intro v hv;unfold tB at hv;rcases List.mem_append.1 hv with h | h
 ·obtain⟨j,_,rfl⟩:=List.mem_map.1 h;rfl
 ·rw[List.eq_of_mem_replicate h];rfl
theorem Qlr {T b:Nat} {x x' y:Fb} (h:b≠T):((Ac.emp.set T x).set b y).set T x'=(Ac.emp.set T x').set b y:=by
 funext c
 simp only[A9,Az];by_cases h1:c=T<;>by_cases h2:c=b<;>simp_all
theorem Qiy {T b b0:Nat} {x x' y:Fb} (h:b≠T) (h0:b0≠T):(((Ac.emp.set T x).del b0).set b y).set T x'=(Ac.emp.set T x').set b y:=by
 funext c
 simp only[A9,Az,Ac.del];by_cases h1:c=T<;>by_cases h2:c=b<;>by_cases h3:c=b0<;>simp_all
def Qcc (T w:Nat) (X:List (List Rat)) (n k:Nat) (o:Option Nat) (i:Nat):Ac:=match o with
 |none=>Ac.emp.set T ⟨51,1,(tB w X n k).set k .nil⟩
 |some b=>(Ac.emp.set T ⟨51,1,(tB w X n k).set k (.osl b 4 0 i)⟩).set b ⟨44,4,Bo ((Dg X i k).map Ar)⟩
theorem Sr {M:Ac} {T e z k:Nat} {l:List AV} {v v':AV} (hM:M T=some ⟨e,z,l.set k v⟩) (hk:k<l.length) (hv:B2 M (Ac.emp.set T ⟨e,z,l.set k v'⟩) v v') (h1:∀x∈l,x.cells.all AV.one=true) (h2:v'.cells.all AV.one=true):Bm M (Ac.emp.set T ⟨e,z,l.set k v'⟩):=by
 refine⟨fun c x' hx'=>?_⟩;by_cases hc:c=T
 ·subst hc;rw[Ac.set_same]at hx';cases hx';refine⟨_,hM,rfl,rfl,by simp,fun j u u' hu hu'=>?_⟩;by_cases hj:j=k
  ·subst hj;simp only[List.getElem?_set_self hk]at hu hu';cases hu;cases hu';exact⟨hv,h2⟩
  ·simp only[List.getElem?_set_ne (Ne.symm hj)]at hu hu';rw[hu]at hu';cases hu';exact⟨.same _,h1 _ (List.mem_of_getElem? hu)⟩
 ·rw[Ac.set_other _ _ hc]at hx';cases hx'
theorem Qaa (n:Int) (es:List RE) (p:List RR) (hb:W5 es) (hp:∀x∈p,x.Lb) (hpl:p.length<2^63):Ak Tryz.prog 36 [.int .i64 n,Bc es,An p] Ac.emp fun v m=>v=Qcz n es p∧m=Ac.emp:=by
 have hc:=Sh n es p hb hp;by_cases hpl:G1 n es p=true;rotate_left
 ·have e1:Hk n es p=.int .i64 1:=by unfold Hk;rw[if_neg hpl]
  have hz:=Qni hpl;rw[e1]at hc;refine Ad Tryz.func36 rfl rfl 68 rfl (Nat.le_of_ble_eq_true rfl) ?_;unfold Bc An at *;(repeat refine AW.seq_k fun K hK=>?_);refine AW.rg ?_;simp[Al];try (refine hK _ rfl ?_;clear hK K)
  (repeat refine AW.seq_k fun K hK=>?_);refine AW.rg ?_;simp;try (refine hK _ rfl ?_;clear hK K)
  refine Aa.val hc ?_;simp;try (refine hK _ rfl ?_;clear hK K)
  (repeat refine AW.seq_k fun K hK=>?_);refine AW.rg ?_;simp;try (refine hK _ rfl ?_;clear hK K)
  refine AW.yes ?_ rfl;(repeat refine AW.seq_k fun K hK=>?_);refine AW.rg ?_;simp;try (refine hK _ rfl ?_;clear hK K)
  exact AW.ret (Af [An [],.bool false,.int .i64 1] rfl ⟨.nilsl 4,.same _,.same _,trivial⟩ ⟨by rw[hz];rfl,rfl⟩)
 have e1:Hk n es p=.int .i64 0:=by unfold Hk;rw[if_pos hpl]
 rw[e1]at hc;obtain⟨N,rfl,N1,N2,hok,h3,hrow,hpe⟩:=Va hp hpl;have hS:=Qg9 hpl;simp only[Int.toNat_natCast]at hok hS;have heq:=Mh N es (p.map RR.q) N1 N2 hok h3 hrow;generalize p.map RR.q=q at *;subst hpe;unfold eqR at heq;refine Ad Tryz.func36 rfl rfl 68 rfl (Nat.le_of_ble_eq_true rfl) ?_;unfold Bc An at hc;unfold Bc An;(repeat refine AW.seq_k fun K hK=>?_);refine AW.rg ?_;simp[Al];try (refine hK _ rfl ?_;clear hK K)
 (repeat refine AW.seq_k fun K hK=>?_);refine AW.rg ?_;simp;try (refine hK _ rfl ?_;clear hK K)
 refine Aa.val hc ?_;simp;try (refine hK _ rfl ?_;clear hK K)
 (repeat refine AW.seq_k fun K hK=>?_);refine AW.rg ?_;simp;try (refine hK _ rfl ?_;clear hK K)
 refine AW.no ?_ rfl;refine AW.skip ?_;try simp
 try (refine hK _ rfl ?_;clear hK K)
 cases hE:N5 N (Ag es) q es.length with
 |none =>
  rw[hE]at heq hS;simp only at hS;unfold Au at heq;(repeat refine AW.seq_k fun K hK=>?_);refine AW.rg ?_;simp;try (refine hK _ rfl ?_;clear hK K)
  refine Aa.val heq ?_;simp;try (refine hK _ rfl ?_;clear hK K)
  (repeat refine AW.seq_k fun K hK=>?_);refine AW.rg ?_;simp;try (refine hK _ rfl ?_;clear hK K)
  refine AW.yes ?_ rfl;(repeat refine AW.seq_k fun K hK=>?_);refine AW.rg ?_;simp;try (refine hK _ rfl ?_;clear hK K)
  exact AW.ret (Af [An [],.bool false,.int .i64 2] rfl ⟨.nilsl 4,.same _,.same _,trivial⟩ ⟨by rw[hS];rfl,rfl⟩)
 |some M =>
  rw[hE]at heq hS;simp only at hS;obtain⟨gl,gg⟩:=Gq hE;have hMl:((Be M).map An).length=es.length:=by simp[Be,gl]
  have hX:Bf es.length (2*N) M:=Qh3 hE;have hfi:=V3 (Be (Pm M es.length (2*N))) (Mo _);rw[←hS]at hfi;obtain⟨r1,r2,r3,hr⟩:=Qmh (N:Nat) es (q.map Ar);rw[hr]at hfi ⊢;have w0:=Aq (2*N) (by omega);have hmv:AV.sl 1 ((Be M).map An)=Au (Be M):=rfl;(repeat refine AW.seq_k fun K hK=>?_);refine AW.rg ?_;simp;try (refine hK _ rfl ?_;clear hK K)
  refine Aa.whole (fun _ h=>h) heq ?_;rintro _ _ ⟨B,rfl,rfl⟩;simp;try (refine hK _ rfl ?_;clear hK K)
  refine AW.toEmp [(0,.int .i64 (N:Nat)),(10,Au (Be M)),(11,.int .i64 0)] (by simp;rw[←hmv];exact Cb (Ac.set_same _ _ _) rfl hMl) ?_;(repeat refine AW.seq_k fun K hK=>?_);refine AW.rg ?_;simp;try (refine hK _ rfl ?_;clear hK K)
  refine AW.no ?_ rfl;refine AW.skip ?_;try simp
  try (refine hK _ rfl ?_;clear hK K)
  generalize es.length=n at *;generalize hw:2*N=w at *;have hEl:(Be M).length=n:=by rw[A3];exact hX.2.2
  (repeat refine AW.seq_k fun K hK=>?_);refine AW.rg ?_;simp[hw,w0];try (refine hK _ rfl ?_;clear hK K)
  refine⟨by omega,Ae.intro fun T hT=>?_⟩;try (refine hK _ rfl ?_;clear hK K)
  have hB0:List.replicate w AV.nil=tB w M n 0:=by simp[tB]
  rw[hB0];refine AW.seq_ex (ι:=Unit) (fun _=>[(12,.osl T 1 0 w)]) (fun _=>Ac.emp.set T ⟨51,1,tB w M n w⟩) (fun _=>True) ?_ ?_
  ·(repeat refine AW.seq_k fun K hK=>?_);refine AW.rg ?_;simp;try (refine hK _ rfl ?_;clear hK K)
   refine AW.block (AW.loopS (ι:=Nat) (fun k=>[(0,.int .i64 (N:Nat)),(10,Au (Be M)),(12,.osl T 1 0 w),(36,.int .i64 (w:Nat)),(37,.int .i64 (k:Nat))]) (fun k=>Ac.emp.set T ⟨51,1,tB w M n k⟩) (fun k=>k≤w) (fun k=>w-k) 0 (by simp) rfl (by simp) ?_);intro k g1;(repeat refine AW.seq_k fun K hK=>?_);refine AW.rg ?_;simp;try (refine hK _ rfl ?_;clear hK K)
   (repeat refine AW.seq ?_);refine AW.cs (fun hk=>?_) (fun hk=>?_) rfl<;>(try simp at hk)
   ·refine AW.skip ?_;try simp
    try (refine hK _ rfl ?_;clear hK K)
    have w1:=Aq (k+1) (by omega);have hbl:(tB w M n k).length=w:=Rg g1;refine AW.seq_ex (ι:=Unit) (fun _=>[(0,.int .i64 (N:Nat)),(10,Au (Be M)),(12,.osl T 1 0 w),(36,.int .i64 (w:Nat)),(37,.int .i64 (k:Nat))]) (fun _=>Ac.emp.set T ⟨51,1,tB w M n (k+1)⟩) (fun _=>True) ?_ ?_
    ·(repeat refine AW.seq ?_);refine AW.block ?_;(repeat refine AW.seq_k fun K hK=>?_);refine AW.rg ?_;simp;try (refine hK _ rfl ?_;clear hK K)
     (repeat refine AW.seq_k fun K hK=>?_);refine AW.rg ?_;simp[hEl];try (refine hK _ rfl ?_;clear hK K)
     refine AW.block (AW.loopS (ι:=Option Nat × Nat) (fun z=>[(0,.int .i64 (N:Nat)),(10,Au (Be M)),(12,.osl T 1 0 w),(36,.int .i64 (w:Nat)),(37,.int .i64 (k:Nat)),(13,.int .i64 (k:Nat)),(41,.int .i64 (n:Nat)),(42,.int .i64 (z.2:Nat))]) (fun z=>Qcc T w M n k z.1 z.2) (fun z=>z.2≤n∧(z.1=none→z.2=0)∧∀b,z.1=some b→b≠T) (fun z=>n-z.2) (none,0) ⟨by simp,by simp,by simp⟩ (by unfold Qcc;rw[Qgn hk]) (by simp) ?_);rintro⟨o,i⟩ ⟨q1,q2,q3⟩;simp only at q1 q2 q3;simp only;have hlk:∀v,((tB w M n k).set k v).length=w:=fun v=>by rw[List.length_set,hbl]
     have hat:∀v,((tB w M n k).set k v)[k]?=some v:=fun v=>Q2i hk v;have hl2:(Bo ((Dg M i k).map Ar)).length=i:=by rw[Ph,List.length_map];simp[Dg]
     (repeat refine AW.seq_k fun K hK=>?_);refine AW.rg ?_;simp;try (refine hK _ rfl ?_;clear hK K)
     (repeat refine AW.seq ?_);refine AW.cs (fun hi=>?_) (fun hi=>?_) rfl<;>(try simp at hi)
     ·refine AW.skip ?_;try simp
      try (refine hK _ rfl ?_;clear hK K)
      have w2:=Aq (i+1) (by omega);have hiE:i<(Be M).length:=by rw[hEl];exact hi
      have hli:(Aj (Be M) i).length=w:=by rw[Bw,List.length_map];exact(hX.row hi).2
      have hjl:k<(Aj M i).length:=by rw[(hX.row hi).2];exact hk
      have e1:rr (Aj (Be M) i) k=Ar (A6 M i k):=by rw[Bw,Gd hjl];rfl
      have hst:Bo ((Dg M (i+1) k).map Ar)=Bo ((Dg M i k).map Ar)++[(Ar (A6 M i k)).av]:=by rw[Vc,List.map_append,List.map_singleton,Qbu]
      (repeat refine AW.seq ?_);refine AW.block ?_;(repeat refine AW.seq_k fun K hK=>?_);refine AW.rg ?_;simp;try (refine hK _ rfl ?_;clear hK K)
      cases o with
      |none =>
       have hi0:=q2 rfl;subst hi0;unfold Qcc;simp only;refine AW.rdLR [58] [T] [0,1,2,3,4,5,6,7,8,9,10,11,12,13,14,15,16] Dm (by simp) ?_;simp[hlk,hat,hk,hiE,hli,e1];refine⟨by unfold maxLen;omega,Ae.intro fun b hb=>?_⟩;have nb:b≠T:=fun h=>by rw[h]at hb;simp at hb
       simp[nb,Ne.symm nb,hlk,hat,hk];(repeat refine AW.seq_k fun K hK=>?_);refine AW.rg ?_;simp[w2];try (refine hK _ rfl ?_;clear hK K)
       refine⟨some b,1,⟨by omega,by simp,fun b' h=>by cases h;exact nb⟩,by omega,?_⟩;refine⟨?_,w2⟩;rw[Qlr nb];simp only;rw[show Dg M 1 k=Dg M (0+1) k from rfl,hst];rfl
      |some b0 =>
       have hb0:=q3 b0 rfl;unfold Qcc;simp only;refine AW.rdLR [58] [T] [0,1,2,3,4,5,6,7,8,9,10,11,12,13,14,15,16] Dm (by simp[hb0,Ne.symm hb0]) ?_;simp[hlk,hat,hk,hiE,hli,e1,hb0,Ne.symm hb0];refine⟨by simpa using hl2.symm,by simp[Dg];omega,by simp[Dg];unfold maxLen;omega,Ae.intro fun b hb=>?_⟩;have nb:b≠T:=fun h=>by rw[h]at hb;simp[Ac.del,Ne.symm hb0]at hb
       simp[nb,Ne.symm nb,hlk,hat,hk];(repeat refine AW.seq_k fun K hK=>?_);refine AW.rg ?_;simp[-Int.natCast_add,w2];try (refine hK _ rfl ?_;clear hK K)
       refine⟨some b,i+1,⟨by omega,by simp,fun b' h=>by cases h;exact nb⟩,by omega,?_⟩;refine⟨?_,rfl⟩;rw[Qiy nb hb0,show(Dg M i k).length=i by simp[Dg]];simp only;rw[hst];rfl
     ·have hin:i=n:=by omega
      refine AW.turn [(0,.int .i64 (N:Nat)),(10,Au (Be M)),(12,.osl T 1 0 w),(36,.int .i64 (w:Nat)),(37,.int .i64 (k:Nat))] (Ac.emp.set T ⟨51,1,tB w M n (k+1)⟩) ?_ (by simp) ?_
      ·rw[←Qo5 hk];unfold Qcc;cases o with
       |none =>
        have hi0:=q2 rfl;refine Sr (v:=.nil) (Ac.set_same _ _ _) (by omega) ?_ Qly rfl;rw[←hin,hi0];exact .nilsl 4
       |some b0 =>
        have hb0:=q3 b0 rfl;refine Sr (v:=.osl b0 4 0 i) (by simp[hb0,Ne.symm hb0]) (by omega) ?_ Qly rfl;rw[←hin];exact Cb (Ac.set_same _ _ _) (by simp[hb0]) hl2
      refine AW.exit ?_;try simp
    rintro _ _;(repeat refine AW.seq_k fun K hK=>?_);refine AW.rg ?_;simp[-Int.natCast_add,w1];try (refine hK _ rfl ?_;clear hK K)
    exact⟨k+1,by omega,by omega,rfl,rfl⟩
   ·refine AW.exit ?_;try simp
    rw[show k=w by omega]
  rintro _ _;have htm:Au (Be (Pm M n w))=.sl 1 (tB w M n w):=by
   unfold Au Pm tB Be;rw[Nat.sub_self,List.map_map,List.map_map,List.replicate_zero,List.append_nil];rfl
  rw[htm]at hfi;(repeat refine AW.seq_k fun K hK=>?_);refine AW.rg ?_;simp;try (refine hK _ rfl ?_;clear hK K)
  refine Aa.eat hfi ⟨Cb (Ac.set_same _ _ _) rfl (Rg (Nat.le_refl w)),trivial⟩ ?_;simp;try (refine hK _ rfl ?_;clear hK K)
  exact AW.ret (Af [r1,r2,r3] rfl ⟨.same _,.same _,.same _,trivial⟩ ⟨rfl,rfl⟩)
end Go.Av
end
section
namespace Go.Av
open Go.Proofs Go.Lam
theorem R4 {n w:Nat} {X:List (List Rat)} {z:List (List Rat) × List Nat} (hX:Bf n w X) (hw:(Aj X 0).length=w) (hn:n≤64) (hw2:w≤64) (h:E7 X=some z):G2 (Be X)=(0,z.1,z.2)∧W9 (Be X)=(0,Hc z.1 z.2 w w):=by
 have hc:=Ql hX hw hn hw2;have hr:G2 (Be X)=(0,z.1,z.2):=by
  unfold G2;rw[if_neg (by simp[hc]),T5,h]
 refine⟨hr,?_⟩;unfold W9;rw[hr,if_neg (by simp),Bw,List.length_map,hw]
theorem Qc1 (n i:Nat):Ba (List.replicate n (0:Rat)) i=0:=by
 unfold Ba;rw[List.getD_eq_getElem?_getD,List.getElem?_replicate];split<;>rfl
theorem Qch {N:Nat} {X:List (List Rat)} (h:∀r∈X,Cy N r):Bf X.length (2*N) X:=⟨fun r hr q hq=>(h r hr).2 q hq,fun i hi=>(h _ (by rw[Ep hi];exact List.getElem_mem hi)).1,rfl⟩
theorem Qfr {N:Nat} {p:List Rat} (hN:2≤N) (hp:∀i,i<2*N→Fy 100 (Ba p i)):∃P,N7 N p=some P∧1≤P.length∧P.length≤3∧(∀r∈P,Cy N r)∧(∀k i,k<P.length→i<2*N→Fy 256 (A6 P k i))∧(¬Mn p 1→P.length=3∧∀k i,k<3→i<2*N→A6 P k i=Q0y p k i):=by
 have hone:∀k i,k<2*N→Ba ((List.replicate (2*N) (0:Rat)).set k 1) i=if i=k then 1 else 0:=fun k i hk=>by
  rw[Fl (by simp;omega),Qc1]
 have g1:∀k,Cy N ((List.replicate (2*N) (0:Rat)).set k 1):=fun k=>(Cy.zero N).set _ Wz;have i1:∀k i,k<2*N→Fy 256 (Ba ((List.replicate (2*N) (0:Rat)).set k 1) i):=fun k i hk=>by
  rw[hone k i hk];split
  ·exact D8 (by omega) Un
  ·exact Kf _
 cases hj:Rj N p with
 |none =>
  refine⟨_,by unfold N7;rw[hj],by simp,by simp,fun r hr=>?_,fun k i hk hi=>?_,fun h=>?_⟩
  ·simp at hr;rcases hr with rfl | rfl<;>exact g1 _
  ·match k with
   |0=>exact i1 0 i (by omega)
   |1=>exact i1 1 i (by omega)
   |k+2=>simp at hk;omega
  ·rw[Nw (i:=1) (by omega) (by omega) h (fun k h1 h2=>by omega)]at hj;cases hj
 |some j =>
  have hjN:j<N:=by
   unfold Rj at hj;exact List.mem_range.1 (List.mem_of_find?_eq_some hj)
  have hj1:1≤j:=by
   unfold Rj at hj;have:=List.find?_some hj;simp only[Bool.and_eq_true,decide_eq_true_eq]at this;exact this.1
  have s1:=Rl (hp 1 (by omega)) (hp (2*j+1) (by omega));have s2:=Rl (hp (2*j) (by omega)) (hp 0 (by omega));have q3:∀i,Ba (((List.replicate (2*N) (0:Rat)).set (2*j) (Ba p 1-Ba p (2*j+1))).set (2*j+1) (Ba p (2*j)-Ba p 0)) i=if i=2*j+1 then Ba p (2*j)-Ba p 0 else if i=2*j then Ba p 1-Ba p (2*j+1) else 0:=fun i=>by
   rw[Fl (by simp;omega),Fl (by simp;omega),Qc1]
  have q4:∀i,Fy 256 (Ba (((List.replicate (2*N) (0:Rat)).set (2*j) (Ba p 1-Ba p (2*j+1))).set (2*j+1) (Ba p (2*j)-Ba p 0)) i):=fun i=>by
   rw[q3];split
   ·exact D8 (by omega) (Pn (hp (2*j) (by omega)) (hp 0 (by omega)))
   ·split
    ·exact D8 (by omega) (Pn (hp 1 (by omega)) (hp (2*j+1) (by omega)))
    ·exact Kf _
  have hP:N7 N p=some [(List.replicate (2*N) (0:Rat)).set 0 1,(List.replicate (2*N) (0:Rat)).set 1 1,((List.replicate (2*N) (0:Rat)).set (2*j) (Ba p 1-Ba p (2*j+1))).set (2*j+1) (Ba p (2*j)-Ba p 0)]:=by rw[He hj,s1,s2];rfl
  refine⟨_,hP,by simp,by simp,fun r hr=>?_,fun k i hk hi=>?_,fun h=>?_⟩
  ·simp at hr;rcases hr with rfl | rfl | rfl
   ·exact g1 _
   ·exact g1 _
   ·exact((Cy.zero N).set _ (Qo s1)).set _ (Qo s2)
  ·match k with
   |0=>exact i1 0 i (by omega)
   |1=>exact i1 1 i (by omega)
   |2 =>
    exact q4 i
   |k+3=>simp at hk;omega
  ·rw[Nw (i:=1) (by omega) (by omega) h (fun k h1 h2=>by omega)]at hj;cases hj;refine⟨rfl,fun k i hk hi=>?_⟩;unfold Q0y
   match k with
   |0=>exact hone 0 i (by omega)
   |1=>exact hone 1 i (by omega)
   |2 =>
    refine(q3 i).trans ?_;rw[if_pos rfl];by_cases e:i=2
    ·rw[if_pos e,if_neg (by omega),if_pos (by omega)]
    ·rw[if_neg e,if_neg (show ¬i=2*1 by omega)]
   |k+3=>omega
theorem Ql2 {M P:List (List Rat)} {k:Nat} (h:k<M.length) (i:Nat):A6 (M++P) k i=A6 M k i:=by
 unfold A6 Aj;rw[List.getD_eq_getElem?_getD,List.getElem?_append_left h,←List.getD_eq_getElem?_getD]
theorem Qno {M P:List (List Rat)} (k i:Nat):A6 (M++P) (M.length+k) i=A6 P k i:=by
 unfold A6 Aj;rw[List.getD_eq_getElem?_getD,List.getElem?_append_right (by omega),Nat.add_sub_cancel_left,←List.getD_eq_getElem?_getD]
theorem Uy {N:Nat} {es:List RE} {p:List Rat} (h:Di (N:Nat) es=true) (hp:Cy N p):G1 (N:Nat) es (p.map Ar)=true:=by
 unfold G1;rw[h];simp only[Bool.true_and,Bool.and_eq_true,decide_eq_true_eq,List.all_eq_true,List.length_map];refine⟨by have:=hp.1;omega,fun x hx=>?_⟩;obtain⟨q,hq,rfl⟩:=List.mem_map.1 hx;exact D0 (hp.2 q hq)
theorem Qr0 (p:List Rat):(p.map Ar).map RR.q=p:=by
 rw[List.map_map]
 conv=>rhs;rw[←List.map_id p]
 exact List.map_congr_left fun q _=>F3 q
theorem Qkq {N n:Nat} {M:List (List Rat)} (hg:∀r∈M,Cy N r) (hl:M.length=n) (hN:N≤8) (hn:n≤19) (hA:∀a b,a<n→b<2*N→Fy 256 (A6 M a b)):∃z σ Y ps,G2 (Be M)=(0,Y,ps)∧ps.length=z.2.length∧Hy n (2*N) M z σ:=by
 subst hl;rcases Nat.eq_zero_or_pos M.length with h0 | h0
 ·have hm:M=[]:=List.eq_nil_of_length_eq_zero h0;subst hm;have hG:Bf 0 (2*N) []:=⟨fun r hr=>(by cases hr),fun i hi=>(by simp at hi),rfl⟩;have hG0:Bf 0 0 []:=⟨fun r hr=>(by cases hr),fun i hi=>(by simp at hi),rfl⟩;obtain⟨z,σ,h1,h2,h3,h4,h5⟩:=Q6 hG (by omega) (fun a b ha=>by omega) (2*N) (Nat.le_refl _);have hS:Hy 0 (2*N) [] z σ:=⟨h2,h3,h4,h5⟩;refine⟨z,σ,[],[],(R4 (z:=([],[])) hG0 rfl (by omega) (by omega) rfl).1,?_,hS⟩;have:=hS.rref.len;simp;omega
 ·have hG:=Qch hg;have hw:(Aj M 0).length=2*N:=hG.2.1 0 h0;obtain⟨z,σ,h1,hS⟩:=R8 hG hw hn hA;exact⟨z,σ,z.1,z.2,(R4 hG hw (by omega) (by omega) h1).1,rfl,hS⟩
end Go.Av
end
section
namespace Go.Av
open Go.Proofs Go.Lam
def P6 (o:List Int):List AV:=o.map fun v=>.int .i64 v
@[simp] theorem Qq6 (o:List Int):(P6 o).length=o.length:=by simp[P6]
@[simp] theorem Qz0 {o:List Int} {i:Nat} (h:i<(P6 o).length):(P6 o)[i]=.int .i64 (o[i]'(by simpa using h)):=by simp[P6]
theorem Qk7 (l:List RE) (k:Nat):(Dt l).take k=Dt (l.take k):=by simp[Dt]
end Go.Av
end
section
namespace Go.Av
open Go.Proofs Go.Lam
def Xh (o:List Int) (i:Nat):Int:=match o[i]? with | some a=>(G9 .and .i64 a 65535).tmod 41-20 | none=>((7*i+i*i % 5:Nat):Int)
def Sl (o:List Int) (k:Nat):List Rat:=(List.range k).map fun i=>Gr (Xh o i)
theorem Qlk (o:List Int) (k:Nat):Sl o (k+1)=Sl o k++[Gr (Xh o k)]:=by
 unfold Sl;rw[List.range_succ,List.map_append];rfl
theorem Qgg {o:List Int} {i:Nat} (hi:i<14):(Xh o i).natAbs≤100:=by
 unfold Xh;split
 ·rename_i a _
  obtain⟨r,_,hr⟩:=W8 a;rw[hr,show(r:Int).tmod 41=((r % 41:Nat):Int) from rfl];omega
 ·have:i*i % 5<5:=Nat.mod_lt _ (by omega);omega
theorem Qj3 (c:Int):Gr c=(c:Rat):=by
 have:=Rat.num_divInt_den (c:Rat);rw[Rat.num_intCast,Rat.den_intCast]at this;exact this
theorem Qvo {o:List Int} {i k:Nat} (hi:i<k):Ba (Sl o k) i=Gr (Xh o i):=by
 unfold Sl Ba;rw[List.getD_eq_getElem?_getD];simp[hi]
theorem Qp1 {o:List Int} {i k:Nat} (hi:i<k) (hk:k≤14):Fy 100 (Ba (Sl o k) i):=by
 rw[Qvo hi];exact⟨Xh o i,Qj3 _,Qgg (by omega)⟩
theorem Qc2 {o:List Int} {N:Nat} (hN:N≤7):Cy N (Sl o (2*N)):=⟨by simp[Sl],fun q hq=>by
 unfold Sl at hq;obtain⟨i,hi,rfl⟩:=List.mem_map.1 hq;have:=Qgg (o:=o) (i:=i) (by have:=List.mem_range.1 hi;omega);exact Rb (by omega)⟩
theorem Qbg (N:Nat) (o:List Int) (hN:N≤7):Ak Tryz.prog 29 [.int .i64 (N:Nat),.sl 1 (P6 o)] Ac.emp fun v m=>v=An ((Sl o (2*N)).map Ar)∧m=Ac.emp:=by
 have w0:=Aq (2*N) (by omega);refine Ad Tryz.func29 rfl rfl 38 rfl (Nat.le_of_ble_eq_true rfl) ?_;(repeat refine AW.seq_k fun K hK=>?_);refine AW.rg ?_;simp[Al];try (refine hK _ rfl ?_;clear hK K)
 (repeat refine AW.seq_k fun K hK=>?_);refine AW.rg ?_;simp;try (refine hK _ rfl ?_;clear hK K)
 refine AW.seq_ex (ι:=J1) (fun z=>[(5,z.ov)]) (fun z=>z.M) (fun z=>Fo z.M 44 4 z.ov z.ob (Bo ((Sl o (2*N)).map Ar))) ?_ ?_
 ·(repeat refine AW.seq_k fun K hK=>?_);refine AW.rg ?_;simp;try (refine hK _ rfl ?_;clear hK K)
  refine AW.block (AW.loopS (ι:=Nat × J1) (fun z=>[(0,.int .i64 (N:Nat)),(1,.sl 1 (P6 o)),(5,z.2.ov),(6,.int .i64 (z.1:Nat))]) (fun z=>z.2.M) (fun z=>z.1≤2*N∧Fo z.2.M 44 4 z.2.ov z.2.ob (Bo ((Sl o z.1).map Ar))) (fun z=>2*N-z.1) (0,⟨Ac.emp,.nil,[]⟩) ⟨by simp,Fo.start _ _⟩ rfl (by simp) ?_);rintro⟨i,M,ov,ob⟩ ⟨g1,g2⟩;simp only at g1 g2;simp only;have w1:=Aq (i+1) (by omega);have w7:=Aq (7*i) (by omega);(repeat refine AW.seq_k fun K hK=>?_);refine AW.rg ?_;simp[-Int.natCast_mul,w0];try (refine hK _ rfl ?_;clear hK K)
  (repeat refine AW.seq ?_);refine AW.cs (fun hi=>?_) (fun hi=>?_) rfl<;>(try simp at hi)
  ·refine AW.skip ?_;try simp[-Int.natCast_mul]
   try (refine hK _ rfl ?_;clear hK K)
   have hii:i*i<200:=by
    have:i*i≤13*13:=Nat.mul_le_mul (by omega) (by omega);omega
   have w2:=Aq (i*i) (by omega);have w5:IntKind.i64.wrap ((7*i+i*i % 5:Nat):Int)=((7*i+i*i % 5:Nat):Int):=wi (by have:i*i % 5<5:=Nat.mod_lt _ (by omega);omega);have tm:((i*i:Nat):Int).tmod 5=((i*i % 5:Nat):Int):=rfl;have hv7:IntKind.i64.wrap (IntKind.i64.wrap (7*(i:Int))+((i*i % 5:Nat):Int))=((7*i+i*i % 5:Nat):Int):=by
    rw[show(7*(i:Int))=((7*i:Nat):Int) by omega,w7,←Int.natCast_add];exact w5
   have hc:=Qgg (o:=o) (i:=i) (by omega);have hwh:=Gn (Xh o i) (by omega) (by omega);unfold RR.av at hwh;(repeat refine AW.seq ?_);refine AW.block ?_;(repeat refine AW.seq_k fun K hK=>?_);refine AW.rg ?_;simp[-Int.natCast_emod,-Int.natCast_mul,w7,w2,tm,w5];try (refine hK _ rfl ?_;clear hK K)
   refine AW.seq_ex (ι:=Unit) (fun _=>[(0,.int .i64 (N:Nat)),(1,.sl 1 (P6 o)),(5,ov),(6,.int .i64 (i:Nat)),(7,.int .i64 (Xh o i))]) (fun _=>M) (fun _=>True) ?_ ?_
   ·by_cases hio:i<o.length
    ·obtain⟨ro,_,hro⟩:=W8 o[i];have hs:Xh o i=((ro % 41:Nat):Int)-20:=by
      unfold Xh;rw[List.getElem?_eq_getElem hio];simp only;rw[hro];rfl
     have w8:IntKind.i64.wrap (((ro % 41:Nat):Int)-20)=((ro % 41:Nat):Int)-20:=Pk ⟨by omega,by omega⟩;have tm2:(ro:Int).tmod 41=((ro % 41:Nat):Int):=rfl;(repeat refine AW.seq_k fun K hK=>?_);refine AW.rg ?_;simp[-Int.natCast_emod,-Int.natCast_mul,hio];try (refine hK _ rfl ?_;clear hK K)
     refine AW.yes ?_ (by simp[-Int.natCast_emod,-Int.natCast_mul,hio]);(repeat refine AW.seq_k fun K hK=>?_);refine AW.rg ?_;simp[-Int.natCast_emod,-Int.natCast_mul,hio,hro,tm2,w8];try (refine hK _ rfl ?_;clear hK K)
     exact hs.symm
    ·have hs:Xh o i=((7*i+i*i % 5:Nat):Int):=by
      unfold Xh;rw[List.getElem?_eq_none (by omega)]
     (repeat refine AW.seq_k fun K hK=>?_);refine AW.rg ?_;simp[-Int.natCast_emod,-Int.natCast_mul,hio];try (refine hK _ rfl ?_;clear hK K)
     refine AW.no ?_ (by simp[-Int.natCast_emod,-Int.natCast_mul];try omega);refine AW.skip ?_;simp[-Int.natCast_emod,-Int.natCast_mul];exact hv7.trans hs.symm
   rintro _ _;have hll:(Bo ((Sl o i).map Ar)).length≤100:=by simp[Sl];omega
   have hsn:Bo ((Sl o (i+1)).map Ar)=Bo ((Sl o i).map Ar)++[.agg [.bool (Ar (Gr (Xh o i))).n1,Ao (Ar (Gr (Xh o i))).l1,.bool (Ar (Gr (Xh o i))).n2,Ao (Ar (Gr (Xh o i))).l2]]:=by
    rw[Qlk,List.map_append];unfold Bo;rw[List.map_append];rfl
   have hfin:∀s:J1,Fo s.M 44 4 s.ov s.ob (Bo ((Sl o i).map Ar)++[.agg [.bool (Ar (Gr (Xh o i))).n1,Ao (Ar (Gr (Xh o i))).l1,.bool (Ar (Gr (Xh o i))).n2,Ao (Ar (Gr (Xh o i))).l2]])→Fo s.M 44 4 s.ov s.ob (Bo ((Sl o (i+1)).map Ar)):=fun s h=>by rw[hsn];exact h
   generalize Bo ((Sl o i).map Ar)=LL at *;generalize Xh o i=c at *;rcases g2.lst with⟨z1,z2,z3⟩ | ⟨b0,z2,z3,z4⟩
   ·subst z1 z2 z3;(repeat refine AW.seq_k fun K hK=>?_);refine AW.rgR [35] ?_;simp[-Int.natCast_mul];try (refine hK _ rfl ?_;clear hK K)
    refine Aa.val hwh ?_;simp;refine⟨by unfold maxLen;omega,Ae.intro fun b hb=>?_⟩;(repeat refine AW.seq_k fun K hK=>?_);refine AW.rg ?_;simp[-Int.natCast_add,w1];try (refine hK _ rfl ?_;clear hK K)
    exact⟨i+1,⟨_,_,[b]⟩,⟨by omega,hfin _ (g2.push0 b _)⟩,by omega,rfl,rfl,rfl⟩
   ·subst z2 z3;(repeat refine AW.seq_k fun K hK=>?_);refine AW.rgR [35] ?_;simp[-Int.natCast_mul];try (refine hK _ rfl ?_;clear hK K)
    refine Aa.val hwh ?_;simp[z4];refine⟨by omega,by unfold maxLen;omega,Ae.intro fun b hb=>?_⟩;(repeat refine AW.seq_k fun K hK=>?_);refine AW.rg ?_;simp[-Int.natCast_add,w1];try (refine hK _ rfl ?_;clear hK K)
    exact⟨i+1,⟨_,_,[b]⟩,⟨by omega,hfin _ (g2.push1 b _)⟩,by omega,rfl,rfl,rfl⟩
  ·refine AW.exit ?_;try simp[-Int.natCast_mul]
   have:i=2*N:=by omega
   subst this;exact⟨⟨M,ov,ob⟩,g2,by simp⟩
 rintro⟨M,ov,ob⟩ g1;(repeat refine AW.seq_k fun K hK=>?_);refine AW.rg ?_;simp;try (refine hK _ rfl ?_;clear hK K)
 have hv:=g1.lst.view (M':=Ac.emp) (fun _ _=>rfl);exact AW.ret (Af [An ((Sl o (2*N)).map Ar)] rfl ⟨hv,trivial⟩ ⟨rfl,rfl⟩)
end Go.Av
end
section
namespace Go.Av
open Go.Proofs Go.Lam
theorem Qmb {n:Int} {es:List RE} (h:Di n es=true) (k:Nat):Di n (es.take k)=true:=by
 obtain⟨⟨h1,h2,h3⟩,h4,h5⟩:=Qh1.1 h;exact Qh1.2 ⟨⟨h1,h2,by simp;omega⟩,fun x hx=>h4 x (List.mem_of_mem_take hx),h5.sublist (List.take_sublist _ _)⟩
end Go.Av
end
section
namespace Go.Av
open Go.Proofs Go.Lam
theorem Qnx {l:List Rat} {x:Rat} (i:Nat):Ba (l++[x]) i=if i<l.length then Ba l i else if i=l.length then x else 0:=by
 unfold Ba;rw[List.getD_eq_getElem?_getD];by_cases h:i<l.length
 ·rw[if_pos h,List.getElem?_append_left h,←List.getD_eq_getElem?_getD]
 ·rw[if_neg h,List.getElem?_append_right (by omega)];by_cases e:i=l.length
  ·rw[if_pos e,e,Nat.sub_self];rfl
  ·rw[if_neg e,List.getElem?_eq_none (by simp;omega)];rfl
theorem Qkz {r:List Rat} {b:List (List Rat)} {j:Nat}:∀{k:Nat} {s:Rat},Aw (Ju r b j) k 0=some s→s=Bd k fun t=>Ba r t*A6 b t j
 |0,s,h=>by cases h;rfl
 |k+1,s,h=>by
  rw[Bq]at h;cases hs:Aw (Ju r b j) k 0 with
  |none=>rw[hs]at h;cases h
  |some q =>
   rw[hs]at h;replace h:(Df (Ba r k) (A6 b k j)).bind (Ej q)=some s:=h;cases hm:Df (Ba r k) (A6 b k j)with
   |none=>rw[hm]at h;cases h
   |some m=>rw[hm]at h;rw[Qq8 h,Qhx hm,Qkz hs];rfl
theorem Qm0 {r:List Rat} {b:List (List Rat)}:∀{j:Nat} {acc:List Rat},Aw (Gi r b) j []=some acc→∀t,t<j→Ba acc t=Bd b.length fun k=>Ba r k*A6 b k t
 |0,acc,h,t,ht=>by omega
 |j+1,acc,h,t,ht=>by
  rw[Bq]at h;cases hs:Aw (Gi r b) j []with
  |none=>rw[hs]at h;cases h
  |some a0 =>
   rw[hs]at h;replace h:(U1 r b j).map (fun x=>a0++[x])=some acc:=h;cases he:U1 r b j with
   |none=>rw[he]at h;cases h
   |some x =>
    rw[he]at h;cases h;rw[Qnx,(K1 hs).1];by_cases e:t<j
    ·rw[if_pos e];exact Qm0 hs t e
    ·have:t=j:=by omega
     subst this;rw[if_neg e,if_pos rfl];exact Qkz he
theorem Qfp {l:List (List Rat)} {x:List Rat} (i:Nat):Aj (l++[x]) i=if i<l.length then Aj l i else if i=l.length then x else []:=by
 unfold Aj;rw[List.getD_eq_getElem?_getD];by_cases h:i<l.length
 ·rw[if_pos h,List.getElem?_append_left h,←List.getD_eq_getElem?_getD]
 ·rw[if_neg h,List.getElem?_append_right (by omega)];by_cases e:i=l.length
  ·rw[if_pos e,e,Nat.sub_self];rfl
  ·rw[if_neg e,List.getElem?_eq_none (by simp;omega)];rfl
theorem Qrj {a b:List (List Rat)} {w:Nat}:∀{i:Nat} {Z:List (List Rat)},Aw (K2 a b w) i []=some Z→∀s t,s<i→t<w→A6 Z s t=Bd b.length fun k=>A6 a s k*A6 b k t
 |0,Z,h,s,t,hs,ht=>by omega
 |i+1,Z,h,s,t,hs,ht=>by
  rw[Bq]at h;cases hu:Aw (K2 a b w) i []with
  |none=>rw[hu]at h;cases h
  |some Y0 =>
   rw[hu]at h;replace h:(Aw (Gi (Aj a i) b) w []).map (fun r=>Y0++[r])=some Z:=h;cases he:Aw (Gi (Aj a i) b) w []with
   |none=>rw[he]at h;cases h
   |some r =>
    rw[he]at h;cases h;unfold A6;rw[Qfp,(Qz hu).2.2];by_cases e:s<i
    ·rw[if_pos e];exact Qrj hu s t e ht
    ·have:s=i:=by omega
     subst this;rw[if_neg e,if_pos rfl];exact Qm0 he t ht
theorem Qnb {a b Z:List (List Rat)} (h:O4 a b=some Z) {s t:Nat} (hs:s<a.length) (ht:t<(Aj b 0).length):A6 Z s t=Bd b.length fun k=>A6 a s k*A6 b k t:=Qrj h s t hs ht
theorem Qgk {X:List (List Rat)} {n w i j:Nat} (hi:i<w) (hj:j<n):A6 (Pm X n w) i j=A6 X j i:=by
 unfold A6 Aj Pm;rw[List.getD_eq_getElem?_getD,List.getElem?_map,List.getElem?_range hi];show Ba (Dg X n i) j=_
 unfold Dg Ba;rw[List.getD_eq_getElem?_getD,List.getElem?_map,List.getElem?_range hj];rfl
theorem Qhg {X:List (List Rat)} {n w:Nat} (h:Bf n w X):Bf w n (Pm X n w):=by
 refine⟨fun r hr q hq=>?_,fun i hi=>?_,by simp[Pm]⟩
 ·obtain⟨j,hj,rfl⟩:=List.mem_map.1 hr;obtain⟨i,hi,rfl⟩:=List.mem_map.1 hq;rw[List.mem_range]at hi hj;exact h.1.at (by rw[(h.row hi).2];exact hj)
 ·have:Aj (Pm X n w) i∈Pm X n w:=by rw[Ep hi];exact List.getElem_mem hi
  obtain⟨j,_,e⟩:=List.mem_map.1 this;rw[←e];simp[Dg]
def ovr (K:Nat) (d q:Rat):Prop:=Fy K (q*d)
theorem Qe3 {K L:Nat} {d q:Rat} (h:ovr K d q) (h0:d≠0) (hd:Fy L d) (hL:L≤K):Sz K q:=by
 have e:q=q*d / d:=by rw[Rat.div_def,Rat.mul_assoc,Rat.mul_inv_cancel _ h0,Rat.mul_one]
 rw[e];exact Z7 h (D8 hL hd) h0
theorem Qdi {w:Nat} {r:List Rat} {b:List (List Rat)} {j:Nat} {d:Rat} (h0:d≠0) (hd:Fy (2^244) d) (hr:∀k,k<w→Fy 256 (Ba r k)) (hb:∀k,k<w→ovr (2^244) d (A6 b k j)) (hw:w≤16):∀k,k≤w→∃q,Aw (Ju r b j) k 0=some q∧ovr (k*(256*2^244)) d q
 |0,_=>⟨0,rfl,by unfold ovr;rw[Rat.zero_mul];exact Kf _⟩
 |k+1,hk=>by
  obtain⟨q,h1,h2⟩:=Qdi h0 hd hr hb hw k (by omega);have hle:k*(256*2^244)≤2^256:=Nat.le_trans (Nat.mul_le_mul_right _ (show k≤16 by omega)) (by decide +kernel);have p1:ovr (256*2^244) d (Ba r k*A6 b k j):=by
   have:=Qd (hr k (by omega)) (hb k (by omega));unfold ovr;rw[Rat.mul_assoc];exact this
  have s0:Sz (2^256) q:=Qe3 (D8 hle h2) h0 hd (by decide +kernel);have s1:Sz (256*2^244) (Ba r k*A6 b k j):=Qe3 p1 h0 hd (by decide +kernel);have s2:Sz (2^244) (A6 b k j):=Qe3 (hb k (by omega)) h0 hd (Nat.le_refl _);refine⟨q+Ba r k*A6 b k j,?_,?_⟩
  ·rw[Bq,h1];show(Df (Ba r k) (A6 b k j)).bind (Ej q)=_
   rw[X8 (Qfm (hr k (by omega)) (by omega)) s2 (by unfold Bj;decide +kernel)];exact Qia s0 s1 (by unfold Bj;decide +kernel)
  ·unfold ovr;rw[Rat.add_mul,Nat.succ_mul];exact Zl h2 p1
theorem Qhc {n w:Nat} {a b:List (List Rat)} {d:Rat} (h0:d≠0) (hd:Fy (2^244) d) (ha:∀i k,i<n→k<w→Fy 256 (A6 a i k)) (hb:∀k,k<w→ovr (2^244) d (A6 b k 0)) (hw:w≤16) (hl:b.length=w):∀i,i≤n→∃Z,Aw (K2 a b 1) i []=some Z
 |0,_=>⟨[],rfl⟩
 |i+1,hi=>by
  obtain⟨Z,h1⟩:=Qhc h0 hd ha hb hw hl i (by omega);obtain⟨q,h2,_⟩:=Qdi (r:=Aj a i) (j:=0) h0 hd (fun k hk=>ha i k (by omega) hk) hb hw w (Nat.le_refl _);refine⟨Z++[[q]],?_⟩;rw[Bq,h1];show(Aw (Gi (Aj a i) b) 1 []).map (fun r=>Z++[r])=_
  rw[Bq];show((U1 (Aj a i) b 0).map fun x=>([]:List Rat)++[x]).map (fun r=>Z++[r])=_
  unfold U1;rw[hl,h2];rfl
def Ma (v:List Rat):List (List Rat):=v.map fun q=>[q]
theorem Qhr {v:List Rat} {k:Nat} (hk:k<v.length):A6 (Ma v) k 0=Ba v k:=by
 unfold A6 Aj Ma Ba;simp[List.getD_eq_getElem?_getD,hk]
theorem Qkb {v:List Rat} (h:∀q∈v,B0 q):Bf v.length 1 (Ma v):=by
 refine⟨fun r hr q hq=>?_,fun i hi=>?_,by simp[Ma]⟩
 ·obtain⟨x,hx,rfl⟩:=List.mem_map.1 hr;simp at hq;subst hq;exact h _ hx
 ·have:Aj (Ma v) i∈Ma v:=by rw[Ep hi];exact List.getElem_mem hi
  obtain⟨x,_,e⟩:=List.mem_map.1 this;rw[←e];rfl
structure Qkt (n w:Nat) (X:List (List Rat)) (v:List Rat):Prop where
 len:v.length=w
 good:∀q∈v,B0 q
 ne:∃i,i<w∧Ba v i≠0
 null:Hv n w X (Ba v)
 size:∃d:Rat,d≠0∧Fy (2^244) d∧∀i,i<w→ovr (2^244) d (Ba v i)
theorem Qki {n w:Nat} {X:List (List Rat)} {v:List Rat} (h:Qkt n w X v) (hX:Bf n w X) (hn:0<n) (hn2:n≤64) (hw0:0<w) (hw:w≤16) (hA:∀a b,a<n→b<w→Fy 256 (A6 X a b)):∃Z,Tn (Be X) (Be (Ma v))=(0,Z)∧Bf n 1 Z∧∀i,i<n→A6 Z i 0=0:=by
 obtain⟨d,h0,hd,hv⟩:=h.size;have hl:=h.len;have hcl:(Ma v).length=w:=by simp[Ma,hl]
 have hcg:=Qkb h.good;rw[hl]at hcg;have hc0:(Aj (Ma v) 0).length=1:=hcg.2.1 0 (by omega);have hx0:(Aj X 0).length=w:=hX.2.1 0 (by rw[hX.2.2];exact hn);obtain⟨Z,hZ⟩:=Qhc h0 hd hA (fun k hk=>by rw[Qhr (by omega)];exact hv k hk) hw hcl n (Nat.le_refl _);have hT:O4 X (Ma v)=some Z:=by unfold O4;rw[hc0,hX.2.2];exact hZ
 have k1:=Ql hX hx0 hn2 (by omega);have k2:=Ql hcg hc0 (by omega) (by omega);refine⟨Z,?_,Qz hZ,fun i hi=>?_⟩
 ·unfold Tn;rw[if_neg (by simp[k1]),if_neg (by simp[k2]),if_neg (by rw[Bw,List.length_map,hx0,A3,hcl];simp),T5,T5,hT]
 ·rw[Qnb hT (by rw[hX.2.2];exact hi) (by rw[hc0];omega),hcl];have:=h.null i hi;unfold D7 at this;rw[←this];exact A2 fun k hk=>by rw[Qhr (by omega)]
theorem Qb1 {P:Rat→Prop} {Y:List (List Rat)} {ps:List Nat} {j:Nat} {v:List Rat} (hv:∀q∈v,P q) (hq:∀k,k<ps.length→P (-(A6 Y k j))):∀k,k≤ps.length→∀q∈Qw Y ps j k v,P q
 |0,_=>hv
 |k+1,h=>fun q hm=>by
  rw[Qw]at hm;rcases List.mem_or_eq_of_mem_set hm with h1 | h1
  ·exact Qb1 hv hq k (by omega) q h1
  ·rw[h1];exact hq k (by omega)
theorem Qmq {Y:List (List Rat)} {ps:List Nat} {w t:Nat} (h:t<(Hc Y ps w w).length):∃j,j<w∧j ∉ ps∧Aj (Hc Y ps w w) t=I2 Y ps w j:=by
 have:Aj (Hc Y ps w w) t∈Hc Y ps w w:=by rw[Ep h];exact List.getElem_mem h
 unfold Hc at this;obtain⟨j,hj,e⟩:=List.mem_map.1 this;rw[List.mem_filter]at hj;exact⟨j,by simpa using hj.1,by simpa using hj.2,e.symm⟩
theorem X5 {n w:Nat} {X:List (List Rat)} {z:List (List Rat) × List Nat} {σ:Nat→Nat} (hX:Bf n w X) (hw:(Aj X 0).length=w) (hn:n≤64) (hw2:w≤64) (h:E7 X=some z) (hS:Hy n w X z σ):∃v:List Rat,Je (Be X)=.tup [An (v.map Ar),.bool (decide (z.2.length<w)),.int .i64 0]∧(z.2.length<w→Qkt n w X v):=by
 have hk:=(R4 hX hw hn hw2 h).2;have hcnt:=hS.rref.count;unfold Je;rw[hk];cases hv:Hc z.1 z.2 w w with
 |nil =>
  rw[hv]at hcnt;have:¬z.2.length<w:=by simp at hcnt;omega
  exact⟨[],by simp[this],fun h=>absurd h this⟩
 |cons v V =>
  have h1:z.2.length<w:=by rw[hv]at hcnt;simp at hcnt;omega
  refine⟨v,by simp[h1],fun _=>?_⟩;obtain⟨j,j1,j2,j3⟩:=Qmq (t:=0) (by rw[hv];simp:0<(Hc z.1 z.2 w w).length);rw[hv]at j3;replace j3:v=I2 z.1 z.2 w j:=j3;obtain⟨d,d0,d1,d2⟩:=hS.size;have hall:∀q∈v,B0 q∧ovr (2^244) d q:=by
   rw[j3];unfold I2;refine Qb1 (P:=fun q=>B0 q∧ovr (2^244) d q) (fun q hq=>?_) (fun k hk=>?_) _ (Nat.le_refl _)
   ·have h01:q=0∨q=1:=by
     rcases List.mem_or_eq_of_mem_set hq with h'|h'
     ·exact .inl (List.eq_of_mem_replicate h')
     ·exact .inr h'
    rcases h01 with rfl|rfl
    ·exact⟨Hf,by unfold ovr;rw[Rat.zero_mul];exact Kf _⟩
    ·exact⟨Wz,by unfold ovr;rw[Rat.one_mul];exact d1⟩
   ·have hkn:k<n:=Nat.lt_of_lt_of_le hk hS.rref.len;refine⟨(Qb8 (hS.rref.good.1.at (by rw[(hS.rref.good.row hkn).2];exact j1))).2,?_⟩;unfold ovr;rw[Rat.neg_mul];exact Qab (d2 k j hkn j1)
  have hvl:v.length=w:=by rw[j3,Ta]
  refine⟨hvl,fun q hq=>(hall q hq).1,⟨j,j1,?_⟩,?_,d,d0,d1,fun i hi=>?_⟩
  ·rw[j3,Qaf hS.rref j1 j1 j2,if_pos rfl];decide
  ·rw[j3];exact(hS.null _).1 (hS.rref.ker j1 j2)
  ·unfold Ba;rw[List.getD_eq_getElem?_getD,List.getElem?_eq_getElem (by omega)];exact(hall _ (List.getElem_mem _)).2
end Go.Av
end
section
namespace Go.Av
open Go.Proofs Go.Lam
theorem Qc8 {n:Nat} {σ:Nat→Nat} (h1:∀a,a<n→σ a<n) (h2:∀a b,a<n→b<n→σ a=σ b→a=b) {x:Nat} (hx:x<n):∃l,l<n∧σ l=x:=by
 by_cases h:∃l,l<n∧σ l=x
 ·exact h
 ·have hnd:((List.range n).map σ).Nodup:=Es (fun a ha b hb e=>h2 a b (List.mem_range.1 ha) (List.mem_range.1 hb) e) List.nodup_range;have hc:=Vo (p:=fun _=>true) (t:=(List.range n).erase x) hnd (fun y hy=>by
   obtain⟨l,hl,rfl⟩:=List.mem_map.1 hy;exact(List.mem_erase_of_ne (fun e=>h ⟨l,List.mem_range.1 hl,e⟩)).2 (List.mem_range.2 (h1 l (List.mem_range.1 hl))))
  rw[List.countP_true,List.length_map,List.length_range,List.length_erase_of_mem (List.mem_range.2 hx),List.length_range]at hc;omega
theorem Qdm {n:Nat} {σ:Nat→Nat} (h1:∀a,a<n→σ a<n) (h2:∀a b,a<n→b<n→σ a=σ b→a=b) (g:Nat→Rat):Bd n (fun l=>g (σ l))=Bd n g:=by
 have e1:Bd n (fun l=>g (σ l))=Bd n fun l=>Bd n fun a=>if a=σ l then g a else 0:=A2 fun l hl=>by
  rw[B3 (h1 l hl) fun i _ hne=>if_neg hne,if_pos rfl]
 rw[e1,Nz];refine A2 fun a ha=>?_;obtain⟨l,hl,e⟩:=Qc8 h1 h2 ha;rw[B3 hl fun i hi hne=>if_neg fun h=>hne (h2 i l hi hl (by rw[e,h])),if_pos e.symm]
theorem Qo6 {n w:Nat} {X:List (List Rat)} {z z':List (List Rat) × List Nat} {σ σ':Nat→Nat} (hS:Hy n w X z σ) (hS':Hy w n (Pm X n w) z' σ'):z'.2.length<n↔z.2.length<n:=by
 have hd:∀v i,i<w→D7 n (A6 (Pm X n w) i) v=Bd n fun a=>A6 X a i*v a:=fun v i hi=>A2 fun a ha=>by rw[Qgk hi ha]
 constructor
 ·intro h;rcases Nat.lt_or_ge z.2.length n with h1 | h1
  ·exact h1
  ·have hn:z.2.length=n:=Nat.le_antisymm hS.rref.len h1;obtain⟨v,v1,⟨l0,hl0,hne⟩,_⟩:=hS'.rref.many (q:=0) (by omega) (fun _ _=>0);have v2:=(hS'.null v).1 v1;have:=hS.indep (c:=fun l=>v (σ l)) fun b hb=>by
    rw[hn,Qdm hS.bare.lt hS.bare.inj fun a=>v a*A6 X a b];have h2:=v2 b hb;rw[hd v b hb]at h2;rw[←h2];exact A2 fun a _=>Rat.mul_comm _ _
   obtain⟨l,hl,e⟩:=Qc8 hS.bare.lt hS.bare.inj hl0;exact absurd (by rw[←e];exact this l (by omega)) hne
 ·intro h;obtain⟨c,⟨a0,ha0,hne⟩,hc⟩:=hS.dep h;rcases Nat.lt_or_ge z'.2.length n with h1 | h1
  ·exact h1
  ·have hl:=Lh hS'.rref;have hn:z'.2.length=n:=by omega
   have hv:∀a,a<n→(fun x=>Bd n fun a=>if σ a=x then c a else 0) (σ a)=c a:=fun a ha=>by
    show(Bd n fun a'=>if σ a'=σ a then c a' else 0)=c a
    rw[B3 ha fun i hi hne=>if_neg fun h=>hne (hS.bare.inj i a hi ha h),if_pos rfl]
   have hnull:Hv w n (Pm X n w) fun x=>Bd n fun a=>if σ a=x then c a else 0:=fun b hb=>by
    rw[hd _ b hb,←Qdm hS.bare.lt hS.bare.inj];refine Eq.trans ?_ (hc b hb);exact A2 fun a ha=>(congrArg (fun t=>A6 X (σ a) b*t) (hv a ha)).trans (Rat.mul_comm _ _)
   have:=hS'.rref.full ((hS'.null _).2 hnull) hn (σ a0) (hS.bare.lt a0 ha0);exact absurd ((hv a0 ha0).symm.trans this) hne
structure Q1r (N:Nat) (es:List RE) (p:List Rat) (M P Y:List (List Rat)) (ps:List Nat) (v u:List Rat) (b:Bool):Prop where
 eqs:N5 N (Ag es) p es.length=some M
 red:G2 (Be M)=(0,Y,ps)
 pin:N7 N p=some P
 good:Bf es.length (2*N) M
 goodZ:Bf (es.length+P.length) (2*N) (M++P)
 pos:1≤P.length∧P.length≤3
 isM:∀a b,a<es.length→b<2*N→Fy 256 (A6 M a b)
 isZ:∀a b,a<es.length+P.length→b<2*N→Fy 256 (A6 (M++P) a b)
 mot:Z1 (N:Nat) es (p.map Ar)=.tup [An (v.map Ar),.bool b,.int .i64 0]
 vec:b=true→Qkt (es.length+P.length) (2*N) (M++P) v
 str:Qcz (N:Nat) es (p.map Ar)=.tup [An (u.map Ar),.bool (decide (ps.length<es.length)),.int .i64 0]
 vecS:ps.length<es.length→Qkt (2*N) es.length (Pm M es.length (2*N)) u
theorem Qfh {N:Nat} {es:List RE} {p:List Rat} (h:Di (N:Nat) es=true) (hN:2≤N) (h8:N≤8) (hn:es.length≤16) (hp:Cy N p) (hI:∀i,i<2*N→Fy 100 (Ba p i)):∃M P Y ps v u b,Q1r N es p M P Y ps v u b:=by
 have hok:=Nl h;simp only[Int.toNat_natCast]at hok;have hE:∀e,e<es.length→Ec N (Ag es e):=fun e he=>(hok e he).2.2;obtain⟨M,hM,hMe⟩:=Yz hI es.length hE;obtain⟨hl,hg⟩:=Gq hM;have hA:∀a b,a<es.length→b<2*N→Fy 256 (A6 M a b):=fun a b ha hb=>by
  rw[hMe a b ha hb];exact Qmo hI (hE a ha).1 (hE a ha).2.1 hb
 obtain⟨z,σ,Y,ps,h1,h2,hS⟩:=Qkq hg hl h8 (by omega) hA;have hMG:=Qh3 hM;obtain⟨P,p1,p2,p3,p4,p5,p6⟩:=Qfr hN hI;have hgZ:∀r∈M++P,Cy N r:=fun r hr=>by
  rcases List.mem_append.1 hr with h'|h'
  ·exact hg r h'
  ·exact p4 r h'
 have hGZ:=Qch hgZ;have hlZ:(M++P).length=es.length+P.length:=by rw[List.length_append,hl]
 rw[hlZ]at hGZ;have hwZ:(Aj (M++P) 0).length=2*N:=hGZ.2.1 0 (by omega);have hZI:∀a b,a<es.length+P.length→b<2*N→Fy 256 (A6 (M++P) a b):=fun a b ha hb=>by
  rcases Nat.lt_or_ge a es.length with h'|h'
  ·rw[Ql2 (by omega)];exact hA a b h' hb
  ·have e:=Qno (M:=M) (P:=P) (a-es.length) b;rw[hl,show es.length+(a-es.length)=a by omega]at e;rw[e];exact p5 _ b (by omega) hb
 obtain⟨z',σ',r1,hS'⟩:=R8 hGZ hwZ (by omega) hZI;obtain⟨v,hv,hv2⟩:=X5 hGZ hwZ (by omega) (by omega) r1 hS';have hTG:=Qhg hMG;have hTw:(Aj (Pm M es.length (2*N)) 0).length=es.length:=hTG.2.1 0 (by rw[hTG.2.2];omega);obtain⟨t,τ,t1,hST⟩:=R8 hTG hTw (by omega) fun a b ha hb=>by rw[Qgk ha hb];exact hA b a hb ha
 obtain⟨u,hu,hu2⟩:=X5 hTG hTw (by omega) (by omega) t1 hST;have hiff:=Qo6 hS hST;refine⟨M,P,Y,ps,v,u,decide (z'.2.length<2*N),hM,h1,p1,hMG,hGZ,⟨p2,p3⟩,hA,hZI,?_,fun hb=>hv2 (of_decide_eq_true hb),?_,fun hb=>hu2 (hiff.2 (by omega))⟩
 ·rw[Z2 (Uy h hp),Qr0,Int.toNat_natCast,hM,Option.bind_some,p1,Option.bind_some];exact hv
 ·rw[Qg9 (Uy h hp),Qr0,Int.toNat_natCast,hM,h2,←decide_eq_decide.2 hiff];exact hu
end Go.Av
end
section
namespace Go.Av
open Go.Proofs Go.Lam
theorem X6 (v:List Rat) (hv:v.length<2^62) (hg:∀q∈v,B0 q) (h:∃i,i<v.length∧Ba v i≠0):Ak Tryz.prog 40 [An (v.map Ar)] Ac.emp fun r m=>r=.bool true∧m=Ac.emp:=by
 refine Ad Tryz.func40 rfl rfl 16 rfl (Nat.le_of_ble_eq_true rfl) ?_;unfold An at *;(repeat refine AW.seq_k fun K hK=>?_);refine AW.rg ?_;simp[Al];try (refine hK _ rfl ?_;clear hK K)
 refine AW.seq_ex (ι:=Unit) (fun _=>[]) (fun _=>Ac.emp) (fun _=>False) ?_ ?_
 ·(repeat refine AW.seq_k fun K hK=>?_);refine AW.rg ?_;simp;try (refine hK _ rfl ?_;clear hK K)
  refine AW.block (AW.loopS (ι:=Nat) (fun i=>[(0,.sl 4 (Bo (v.map Ar))),(3,.int .i64 (i:Nat))]) (fun i=>Ac.emp) (fun i=>i≤v.length∧∀k,k<i→Ba v k=0) (fun i=>v.length-i) 0 ⟨by simp,fun k hk=>by omega⟩ rfl (by simp) ?_);rintro i ⟨g1,g2⟩;(repeat refine AW.seq_k fun K hK=>?_);refine AW.rg ?_;simp;try (refine hK _ rfl ?_;clear hK K)
  (repeat refine AW.seq ?_);refine AW.cs (fun hi=>?_) (fun hi=>?_) rfl<;>(try simp at hi)
  ·refine AW.skip ?_;try simp
   try (refine hK _ rfl ?_;clear hK K)
   have w1:=Aq (i+1) (by omega);have hgq:B0 (Ba v i):=by
    unfold Ba;rw[List.getD_eq_getElem?_getD,List.getElem?_eq_getElem hi];exact hg _ (List.getElem_mem _)
   have hs:=Sn (Ar (Ba v i)) (Eb _);rw[Ns hgq]at hs;have e1:rr (v.map Ar) i=Ar (Ba v i):=by
    rw[Ja (by simpa using hi)];unfold Ba;simp[hi]
   unfold RR.av at hs;by_cases h0:Ba v i=0
   ·have hz:Xw (Ba v i)=0:=Jd.2 h0;rw[hz]at hs;(repeat refine AW.seq ?_);refine AW.block ?_;(repeat refine AW.seq_k fun K hK=>?_);refine AW.rg ?_;simp[hi,e1];try (refine hK _ rfl ?_;clear hK K)
    refine Aa.val hs ?_;simp;try (refine hK _ rfl ?_;clear hK K)
    refine AW.no ?_ rfl;refine AW.skip ?_;try simp
    try (refine hK _ rfl ?_;clear hK K)
    (repeat refine AW.seq_k fun K hK=>?_);refine AW.rg ?_;simp[-Int.natCast_add,w1];try (refine hK _ rfl ?_;clear hK K)
    exact⟨⟨by omega,fun k hk=>by
     rcases Nat.lt_or_ge k i with h'|h'
     ·exact g2 k h'
     ·rw[show k=i by omega];exact h0⟩,by omega⟩
   ·have hz:¬Xw (Ba v i)=0:=fun e=>h0 (Jd.1 e);(repeat refine AW.seq ?_);refine AW.block ?_;(repeat refine AW.seq_k fun K hK=>?_);refine AW.rg ?_;simp[hi,e1];try (refine hK _ rfl ?_;clear hK K)
    refine Aa.val hs ?_;simp[hz];try (refine hK _ rfl ?_;clear hK K)
    refine AW.yes ?_ (by simp[hz]);(repeat refine AW.seq_k fun K hK=>?_);refine AW.rg ?_;simp;try (refine hK _ rfl ?_;clear hK K)
    exact AW.ret (Ah rfl _ (.same _) ⟨rfl,rfl⟩)
  ·refine AW.exit ?_;try simp
   obtain⟨k,hk,hne⟩:=h;exact hne (g2 k (by omega))
 ·rintro _ h;exact h.elim
theorem Qc4 {M:Ac} {T e z:Nat} {l:List AV} {v v':AV} (hM:M T=some ⟨e,z,l++[v]⟩) (hv:B2 M (Ac.emp.set T ⟨e,z,l++[v']⟩) v v') (h1:∀x∈l,x.cells.all AV.one=true) (h2:v'.cells.all AV.one=true):Bm M (Ac.emp.set T ⟨e,z,l++[v']⟩):=by
 refine⟨fun c x' hx'=>?_⟩;by_cases hc:c=T
 ·subst hc;rw[Ac.set_same]at hx';cases hx';refine⟨_,hM,rfl,rfl,by simp,fun j u u' hu hu'=>?_⟩;simp only at hu hu';rcases Nat.lt_or_ge j l.length with hj | hj
  ·rw[List.getElem?_append_left hj]at hu hu';rw[hu]at hu';cases hu';exact⟨.same _,h1 _ (List.mem_of_getElem? hu)⟩
  ·rw[List.getElem?_append_right hj]at hu hu'
   match hjj:j-l.length with
   |0=>rw[hjj]at hu hu';cases hu;cases hu';exact⟨hv,h2⟩
   |k+1=>rw[hjj]at hu;cases hu
 ·rw[Ac.set_other _ _ hc]at hx';cases hx'
def Rx (v:List Rat) (i:Nat):List AV:=(Be (Ma (v.take i))).map An
theorem Qh9 {v:List Rat} {i:Nat} (hi:i<v.length):Rx v (i+1)=Rx v i++[.sl 4 [(Ar (Ba v i)).av]]:=by
 unfold Rx;rw[List.take_add_one,List.getElem?_eq_getElem hi];unfold Ma Be Ba;rw[List.map_append,List.map_append,List.map_append,List.getD_eq_getElem?_getD,List.getElem?_eq_getElem hi];rfl
theorem Qlb {v:List Rat} {i:Nat} (hi:i≤v.length):(Rx v i).length=i:=by simp[Rx,Ma,Be];omega
theorem Qmd {v:List Rat} {i:Nat}:∀x∈Rx v i,x.cells.all AV.one=true:=fun x hx=>by
 obtain⟨r,_,rfl⟩:=List.mem_map.1 hx;rfl
def Qtw (v:List Rat) (i:Nat) (M:Ac) (ov:AV):Prop:=(i=0∧M=Ac.emp∧ov=.nil)∨∃b,ov=.osl b 1 0 i∧M=Ac.emp.set b ⟨51,1,Rx v i⟩
theorem N9 {n w:Nat} {X:List (List Rat)} {v:List Rat} (hX:Bf n w X) (h:Qkt n w X v) (hn:0<n) (hn2:n≤64) (hw0:0<w) (hw:w≤16) (hA:∀a b,a<n→b<w→Fy 256 (A6 X a b)):Ak Tryz.prog 41 [Au (Be X),An (v.map Ar)] Ac.emp fun r m=>r=.bool true∧m=Ac.emp:=by
 obtain⟨Z,hT,hZ,hz0⟩:=Qki h hX hn hn2 hw0 hw hA;have htm:=Qcq (Be X) (Be (Ma v)) (Mo _) (Mo _);rw[hT]at htm;have hvl:=h.len;have hXl:=hX.2.2;have hZl:=hZ.2.2;have hwh:=Gn 0 (by omega) (by omega);unfold RR.av at hwh;refine Ad Tryz.func41 rfl rfl 62 rfl (Nat.le_of_ble_eq_true rfl) ?_;(repeat refine AW.seq_k fun K hK=>?_);refine AW.rg ?_;simp[Al];try (refine hK _ rfl ?_;clear hK K)
 (repeat refine AW.seq_k fun K hK=>?_);refine AW.rg ?_;simp;try (refine hK _ rfl ?_;clear hK K)
 refine AW.seq_ex (ι:=Ac × AV) (fun z=>[(0,Au (Be X)),(1,An (v.map Ar)),(5,z.2)]) (fun z=>z.1) (fun z=>Qtw v w z.1 z.2) ?_ ?_
 ·(repeat refine AW.seq_k fun K hK=>?_);refine AW.rg ?_;simp;try (refine hK _ rfl ?_;clear hK K)
  refine AW.block (AW.loopS (ι:=Nat × Ac × AV) (fun z=>[(0,Au (Be X)),(1,An (v.map Ar)),(5,z.2.2),(6,.int .i64 (z.1:Nat))]) (fun z=>z.2.1) (fun z=>z.1≤w∧Qtw v z.1 z.2.1 z.2.2) (fun z=>w-z.1) (0,Ac.emp,.nil) ⟨by simp,.inl ⟨rfl,rfl,rfl⟩⟩ rfl (by simp) ?_);rintro⟨i,M,ov⟩ ⟨g1,g2⟩;simp only at g1 g2;simp only;unfold An;(repeat refine AW.seq_k fun K hK=>?_);refine AW.rg ?_;simp[hvl];try (refine hK _ rfl ?_;clear hK K)
  (repeat refine AW.seq ?_);refine AW.cs (fun hi=>?_) (fun hi=>?_) rfl<;>(try simp at hi)
  ·refine AW.skip ?_;try simp
   try (refine hK _ rfl ?_;clear hK K)
   have w1:=Aq (i+1) (by omega);have e1:rr (v.map Ar) i=Ar (Ba v i):=by
    rw[Ja (by simpa[hvl]using hi)];unfold Ba;simp[hvl,hi]
   have hlen:=Qlb (v:=v) (i:=i) (by omega);have hone:=Qmd (v:=v) (i:=i);have hsu:=Qh9 (v:=v) (i:=i) (by omega);unfold Qtw at g2;(repeat refine AW.seq ?_);refine AW.block ?_;have fin:∀(M':Ac) (b1 b:Nat),b≠b1→M' b1=some ⟨44,4,[(Ar (Ba v i)).av]⟩→M' b=some ⟨51,1,Rx v i++[.osl b1 4 0 1]⟩→Bm M' (Ac.emp.set b ⟨51,1,Rx v (i+1)⟩):=fun M' b1 b hbb h1 h2=>by
    rw[hsu];refine Qc4 h2 (Cb h1 ?_ rfl) hone rfl;rw[Ac.set_other _ _ (Ne.symm hbb)];rfl
   generalize Rx v i=LL at *;generalize hL1:Rx v (i+1)=L1 at *;rcases g2 with⟨z1,z2,z3⟩ | ⟨b0,z2,z3⟩
   ·subst z2 z3;have hLL:LL=[]:=List.eq_nil_of_length_eq_zero (by omega);subst hLL;(repeat refine AW.seq_k fun K hK=>?_);refine AW.rgR [22] ?_;simp[hi,hvl,e1];try (refine hK _ rfl ?_;clear hK K)
    refine Ae.intro fun b1 _=>⟨by unfold maxLen;omega,Ae.intro fun b hb=>?_⟩;have hbb:b≠b1:=fun e=>by subst e;simp at hb
    refine AW.turn [(0,Au (Be X)),(1,An (v.map Ar)),(5,.osl b 1 0 1),(6,.int .i64 (i:Nat))] (Ac.emp.set b ⟨51,1,L1⟩) (fin _ b1 b hbb (by simp[Ne.symm hbb]<;>rfl) (by simp<;>rfl)) (by simp[An]) ?_
    (repeat refine AW.seq_k fun K hK=>?_);refine AW.rg ?_;simp[-Int.natCast_add,w1];try (refine hK _ rfl ?_;clear hK K)
    exact⟨i+1,_,_,⟨by omega,.inr ⟨b,by rw[show i+1=1 by omega],by rw[hL1]⟩⟩,by omega,by simp[An]⟩
   ·subst z2 z3;(repeat refine AW.seq_k fun K hK=>?_);refine AW.rgR [22] ?_;simp[hi,hvl,e1,hlen];try (refine hK _ rfl ?_;clear hK K)
    refine Ae.intro fun b1 hb1=>?_;have h01:b0≠b1:=fun e=>by subst e;simp at hb1
    refine⟨LL,by simp[h01],hlen.symm,by omega,by unfold maxLen;omega,Ae.intro fun b hb=>?_⟩;have hbb:b≠b1:=fun e=>by subst e;simp[Ne.symm h01]at hb
    refine AW.turn [(0,Au (Be X)),(1,An (v.map Ar)),(5,.osl b 1 0 (i+1)),(6,.int .i64 (i:Nat))] (Ac.emp.set b ⟨51,1,L1⟩) (fin _ b1 b hbb (by simp[Ne.symm hbb,Ne.symm h01]<;>rfl) (by simp<;>rfl)) (by simp[An,hlen]) ?_
    (repeat refine AW.seq_k fun K hK=>?_);refine AW.rg ?_;simp[-Int.natCast_add,w1];try (refine hK _ rfl ?_;clear hK K)
    exact⟨i+1,_,_,⟨by omega,.inr ⟨b,rfl,by rw[hL1]⟩⟩,by omega,by simp[An]⟩
  ·refine AW.exit ?_;try simp
   have:i=w:=by omega
   subst this;exact g2
 rintro⟨M,ov⟩ g2;have hcw:Rx v w=(Be (Ma v)).map An:=by unfold Rx;rw[←hvl,List.take_length]
 simp only at g2;rcases g2 with⟨z1,_⟩ | ⟨b,z2,z3⟩
 ·omega
 subst z2 z3;rw[hcw];refine AW.toEmp [(0,Au (Be X)),(1,An (v.map Ar)),(5,Au (Be (Ma v)))] (by simp;exact Cb (Ac.set_same _ _ _) rfl (by simp[Be,Ma,hvl])) ?_;simp only at htm;have hrl:∀i,i<n→(Aj (Be Z) i).length=1:=fun i hi=>by rw[Bw,List.length_map];exact(hZ.row hi).2
 have hrr:∀i,i<n→rr (Aj (Be Z) i) 0=Ar (A6 Z i 0):=fun i hi=>by rw[Bw,Gd (by rw[(hZ.row hi).2];omega)];rfl
 (repeat refine AW.seq_k fun K hK=>?_);refine AW.rg ?_;simp;try (refine hK _ rfl ?_;clear hK K)
 refine Aa.val htm ?_;simp;try (refine hK _ rfl ?_;clear hK K)
 (repeat refine AW.seq_k fun K hK=>?_);refine AW.rg ?_;simp[A3,hZl,hXl];try (refine hK _ rfl ?_;clear hK K)
 refine AW.no ?_ rfl;refine AW.skip ?_;try simp
 try (refine hK _ rfl ?_;clear hK K)
 have i0:Gr 0=0:=by decide +kernel
 have hsm:=Le (a:=0) (b:=Gr 0) Hf;unfold RR.av at hsm;rw[i0]at hsm hwh;refine AW.seq_ex (ι:=Unit) (fun _=>[]) (fun _=>Ac.emp) (fun _=>True) ?_ ?_
 ·(repeat refine AW.seq_k fun K hK=>?_);refine AW.rg ?_;simp;try (refine hK _ rfl ?_;clear hK K)
  refine AW.block (AW.loopS (ι:=Nat) (fun i=>[(7,Au (Be Z)),(9,.int .i64 (i:Nat))]) (fun _=>Ac.emp) (fun i=>i≤n) (fun i=>n-i) 0 (by simp) rfl (by simp) ?_);rintro i g1;(repeat refine AW.seq_k fun K hK=>?_);refine AW.rg ?_;simp[A3,hZl];try (refine hK _ rfl ?_;clear hK K)
  (repeat refine AW.seq ?_);refine AW.cs (fun hi=>?_) (fun hi=>?_) rfl<;>(try simp at hi)
  ·refine AW.skip ?_;try simp
   try (refine hK _ rfl ?_;clear hK K)
   have w1:=Aq (i+1) (by omega);have hiE:i<(Be Z).length:=by rw[A3,hZl];exact hi
   have e1:=hrr i hi;rw[hz0 i hi]at e1;have e2:=hrl i hi;(repeat refine AW.seq ?_);refine AW.block ?_;refine AW.seq_k fun K hK=>?_;refine AW.rd [0,1,2,3,4,5,6,7,8,9,10,11,12,13,14,15,16] Dm ?_;simp[hiE,e1,e2];refine Aa.val hwh ?_;simp[hiE,e1,e2];refine Aa.val hsm ?_;simp;refine hK _ rfl ?_;clear hK K;refine AW.no ?_ rfl;refine AW.skip ?_;try simp
   try (refine hK _ rfl ?_;clear hK K)
   (repeat refine AW.seq_k fun K hK=>?_);refine AW.rg ?_;simp[-Int.natCast_add,w1];try (refine hK _ rfl ?_;clear hK K)
   exact⟨by omega,by omega⟩
  ·refine AW.exit ?_;try simp
 ·rintro _ _;(repeat refine AW.seq_k fun K hK=>?_);refine AW.rg ?_;simp;try (refine hK _ rfl ?_;clear hK K)
  exact AW.ret (Ah rfl _ (.same _) ⟨rfl,rfl⟩)
end Go.Av
end
section
namespace Go.Av
open Go.Proofs Go.Lam
set_option maxHeartbeats 1000000
theorem Qht (j:Int) (l:List RE) (o:List Int) (hl:W5 l∧l.length<2^63):Ak Tryz.prog 11 [.int .i64 j,Bc l,.sl 1 (P6 o)] Ac.emp fun v m=>v=.bool true∧m=Ac.emp:=by
 obtain⟨rj,_,hj⟩:=W8 j;have hwk:=Z5;obtain⟨N,hN⟩:∃N,2+rj % 6=N:=⟨_,rfl⟩;have hN2:2≤N:=by omega
 have hN7:N≤7:=by omega
 have hap:=Qed N l hN2 (by omega) hl.2;have hsp:=Qbg N o hN7;have wN:IntKind.i64.wrap (2+(rj:Int).tmod 6)=(N:Nat):=by
  rw[show(rj:Int).tmod 6=((rj % 6:Nat):Int) from rfl,←hN];exact wi (a:=2+rj % 6) (by omega)
 refine Ad Tryz.func11 rfl rfl 161 rfl (Nat.le_of_ble_eq_true rfl) ?_;unfold Bc at *;(repeat refine AW.seq_k fun K hK=>?_);refine AW.rg ?_;simp[Al];try (refine hK _ rfl ?_;clear hK K)
 (repeat refine AW.seq_k fun K hK=>?_);refine AW.rg ?_;simp[hj,wN];try (refine hK _ rfl ?_;clear hK K)
 (repeat refine AW.seq_k fun K hK=>?_);refine AW.rg ?_;simp;try (refine hK _ rfl ?_;clear hK K)
 refine Aa.pure hap ?_;rintro _ ⟨es0,rfl,hck0,hlb0,h24⟩;unfold Bc;simp;try (refine hK _ rfl ?_;clear hK K)
 have hck:=Qmb hck0 16;have hlb:W5 (es0.take 16):=fun x hx=>hlb0 x (List.mem_of_mem_take hx);have h16:(es0.take 16).length≤16:=by simp;omega
 have hml:min es0.length 16≤es0.length:=by omega
 have hmi:(if (16:Int)<es0.length then (16:Int) else es0.length)=((min es0.length 16:Nat):Int):=by split<;>omega
 (repeat refine AW.seq_k fun K hK=>?_);refine AW.rg ?_;simp[hmi];try (refine hK _ rfl ?_;clear hK K)
 rw[Qk7,Nat.min_comm,←List.take_take,List.take_length];refine⟨by omega,?_⟩;generalize es0.take 16=es at *;try (refine hK _ rfl ?_;clear hK K)
 obtain⟨M,P,Y,ps,v,u,b,W⟩:=Qfh hck hN2 (by omega) h16 (Qc2 (o:=o) hN7) (fun i hi=>Qp1 hi (by omega));have hrow:=Qc2 (o:=o) hN7;have hok:=Nl hck;simp only[Int.toNat_natCast]at hok;have hpq:∀x∈(Sl o (2*N)).map Ar,x.Lb:=fun x hx=>by
  obtain⟨q,_,rfl⟩:=List.mem_map.1 hx;exact Eb q
 have hma:=Qa9 N es (Sl o (2*N)) (by omega) (by omega) hok (by omega) hrow;have hpi:=Qep N (Sl o (2*N)) (by omega) (by omega) hrow;have hrk:=Qgl (Be M) (Mo _);have hmo:=P9 (N:Nat) es ((Sl o (2*N)).map Ar) hlb hpq (by simp[hrow.1];omega);have hst:=Qaa (N:Nat) es ((Sl o (2*N)).map Ar) hlb hpq (by simp[hrow.1];omega);unfold Qff at hma;unfold Kt at hpi;rw[W.eqs]at hma;rw[W.pin]at hpi;rw[W.red]at hrk;rw[W.mot]at hmo;rw[W.str]at hst;have hMG:=W.good;have hMl:M.length=es.length:=hMG.2.2;have w0:=Aq (2*N) (by omega)
 simp only at hrk hpi hma;unfold Bc at *;(repeat refine AW.seq_k fun K hK=>?_);refine AW.rg ?_;simp;try (refine hK _ rfl ?_;clear hK K)
 refine Aa.val hsp ?_;simp;try (refine hK _ rfl ?_;clear hK K)
 generalize Sl o (2*N)=p at *;(repeat refine AW.seq_k fun K hK=>?_);refine AW.rg ?_;simp;try (refine hK _ rfl ?_;clear hK K)
 refine Aa.whole (fun _ h=>h) hma ?_;rintro _ X ⟨ov,ob,rfl,hX⟩;simp;try (refine hK _ rfl ?_;clear hK K)
 have hXv:B2 X Ac.emp ov (.sl 1 ((Be M).map An)):=hX.lst.view (fun _ _=>rfl);(repeat refine AW.seq_k fun K hK=>?_);refine AW.rg ?_;simp;try (refine hK _ rfl ?_;clear hK K)
 refine Aa.val hpi ?_;simp;try (refine hK _ rfl ?_;clear hK K)
 (repeat refine AW.seq_k fun K hK=>?_);refine AW.rg ?_;simp;try (refine hK _ rfl ?_;clear hK K)
 refine Aa.val hmo ?_;simp;try (refine hK _ rfl ?_;clear hK K)
 (repeat refine AW.seq_k fun K hK=>?_);refine AW.rg ?_;simp;try (refine hK _ rfl ?_;clear hK K)
 refine Aa.val hst ?_;simp;try (refine hK _ rfl ?_;clear hK K)
 (repeat refine AW.seq_k fun K hK=>?_);refine AW.rg ?_;simp;try (refine hK _ rfl ?_;clear hK K)
 refine Aa.look [Au (Be M)] ⟨hXv,trivial⟩ hrk rfl ?_;simp;try (refine hK _ rfl ?_;clear hK K)
 (repeat refine AW.seq_k fun K hK=>?_);refine AW.rg ?_;simp;try (refine hK _ rfl ?_;clear hK K)
 refine Aa.val hwk ?_;simp;try (refine hK _ rfl ?_;clear hK K)
 refine AW.no ?_ rfl;refine AW.skip ?_;try simp
 try (refine hK _ rfl ?_;clear hK K)
 obtain⟨S,hS⟩:∃S,decide (ps.length<es.length)=S:=⟨_,rfl⟩;rw[hS];refine AW.seq_ex (ι:=Unit) (fun _=>[(7,.int .i64 (N:Nat)),(8,.sl 6 (Dt es)),(10,ov),(12,Au (Be P)),(14,An (v.map Ar)),(15,.bool b),(17,An (u.map Ar)),(18,.bool S),(22,.bool true)]) (fun _=>X) (fun _=>True) ?_ ?_
 ·(repeat refine AW.seq_k fun K hK=>?_);refine AW.rg ?_;simp[hS];try (refine hK _ rfl ?_;clear hK K)
 rintro _ _;refine AW.seq_ex (ι:=Ac) (fun _=>[(7,.int .i64 (N:Nat)),(8,.sl 6 (Dt es)),(10,ov),(12,Au (Be P)),(14,An (v.map Ar)),(15,.bool b),(17,An (u.map Ar)),(18,.bool S),(22,.bool true)]) (fun X'=>X') (fun X'=>0<es.length→B2 X' Ac.emp ov (.sl 1 ((Be M).map An))) ?_ ?_
 ·(repeat refine AW.seq_k fun K hK=>?_);refine AW.rg ?_;simp;try (refine hK _ rfl ?_;clear hK K)
  cases b with
  |false =>
   refine AW.no ?_ rfl;refine AW.skip ?_;simp;exact fun _=>hXv
  |true =>
   have hk:=W.vec rfl;refine AW.yes ?_ rfl;have hsome:=X6 v (by rw[hk.len];omega) hk.good (by obtain⟨i,hi,hne⟩:=hk.ne;exact⟨i,by rw[hk.len];exact hi,hne⟩);have hvan:=N9 W.goodZ hk (by have:=W.pos;omega) (by have:=W.pos;omega) (by omega) (by omega) W.isZ;rw[show Au (Be (M++P))=.sl 1 ((Be M).map An++(Be P).map An) by unfold Au Be;rw[List.map_append,List.map_append]]at hvan;have hMl2:((Be M).map An).length≤16:=by simp[Be,hMl];exact h16
   have hPl2:((Be P).map An).length≤3:=by simp[Be];exact W.pos.2
   have hPl1:1≤((Be P).map An).length:=by simp[Be];exact W.pos.1
   have hone:∀m:List (List RR),∀x∈m.map An,x.cells.length=1∧∀y∈x.cells,y.one=true:=fun m x hx=>by
    obtain⟨y,_,rfl⟩:=List.mem_map.1 hx;exact⟨rfl,by simp[An,AV.cells,AV.one]⟩
   have hone1:=hone (Be M);have hone2:=hone (Be P);have hvl:v.length=2*N:=hk.len;unfold Au;clear hone hrk hma hpi;have hMl3:((Be M).map An).length=es.length:=by simp[Be,hMl]
   have hlst:=hX.lst;generalize(Be M).map An=LM at *;generalize(Be P).map An=LP at *;unfold An at *;have hne:LP≠[]:=fun h=>by rw[h]at hPl1;simp at hPl1
   rcases hlst with⟨z1,z2,z3⟩|⟨b0,z2,z3,z4⟩
   ·subst z1 z2 z3;have hn0:es.length=0:=by simpa using hMl3.symm
    rw[List.nil_append]at hvan;(repeat refine AW.seq_k fun K hK=>?_);refine AW.rg ?_;simp[-Int.natCast_mul,hvl,w0];try (refine hK _ rfl ?_;clear hK K)
    refine Aa.val hsome ?_;simp[-Int.natCast_mul,hone2,hne];(repeat refine⟨by first | omega | exact hone2 | (unfold maxLen;omega),?_⟩);refine Ae.intro fun b' hb'=>?_;refine Aa.eat hvan ⟨Cb (Ac.set_same _ _ _) rfl (by simp),.same _,trivial⟩ ?_;simp[-Int.natCast_mul];exact fun h=>by omega
   ·subst z2 z3;refine AW.rgK ?_;simp[-Int.natCast_mul,hvl,w0];refine Aa.val hsome ?_;simp[-Int.natCast_mul,hone2,z4];(repeat refine⟨by first | omega | exact hone2 | (unfold maxLen;omega),?_⟩);intro b' hb';refine Aa.look [.sl 1 (LM++LP),.sl 4 (Bo (v.map Ar))] ⟨Cb (Ac.set_same _ _ _) rfl (by simp),.same _,trivial⟩ hvan rfl ?_;simp[-Int.natCast_mul];refine fun _=>?_;by_cases e:b'=b0
    ·subst e;refine B2.osl _ _ _ _ _ _ (Ac.set_same _ _ _) rfl rfl rfl (by simp) fun k w w' h1 h2=>?_;rw[Nat.zero_add,List.getElem?_append_left (List.getElem?_eq_some_iff.1 h2).1,h2]at h1;cases h1;exact .same _
    ·exact Cb (by rw[Ac.set_other _ _ (Ne.symm e)];exact z4) rfl rfl
 rintro X' hX';refine AW.seq_ex (ι:=Unit) (fun _=>[(22,.bool true)]) (fun _=>Ac.emp) (fun _=>True) ?_ ?_
 ·cases S with
  |false =>
   refine AW.toEmp [(18,.bool false),(22,.bool true)] (by simp) ?_;(repeat refine AW.seq_k fun K hK=>?_);refine AW.rg ?_;simp;try (refine hK _ rfl ?_;clear hK K)
   refine AW.no ?_ rfl;refine AW.skip ?_;simp
  |true =>
   have hlt:ps.length<es.length:=of_decide_eq_true hS;have hk:=W.vecS hlt;refine AW.toEmp [(7,.int .i64 (N:Nat)),(8,.sl 6 (Dt es)),(10,Au (Be M)),(17,An (u.map Ar)),(18,.bool true),(22,.bool true)] (by simp;exact hX' (by omega)) ?_;(repeat refine AW.seq_k fun K hK=>?_);refine AW.rg ?_;simp;try (refine hK _ rfl ?_;clear hK K)
   refine AW.yes ?_ rfl;have hsome:=X6 u (by rw[hk.len];omega) hk.good (by obtain⟨i,hi,hne⟩:=hk.ne;exact⟨i,by rw[hk.len];exact hi,hne⟩);have hvan:=N9 (Qhg hMG) hk (by omega) (by omega) (by omega) h16 fun a c ha hc=>by rw[Qgk ha hc];exact W.isM c a hc ha
   generalize hn:es.length=n at *;have hul:u.length=n:=hk.len;have hXl:M.length=n:=hMl;(repeat refine AW.seq_k fun K hK=>?_);refine AW.rg ?_;simp;try (refine hK _ rfl ?_;clear hK K)
   refine AW.seq_ex (ι:=J1) (fun s=>[(7,.int .i64 (N:Nat)),(8,.sl 6 (Dt es)),(10,Au (Be M)),(17,An (u.map Ar)),(22,.bool true),(23,s.ov)]) (fun s=>s.M) (fun s=>Fo s.M 51 1 s.ov s.ob ((Be (Pm M n (2*N))).map An)) ?_ ?_
   ·(repeat refine AW.seq_k fun K hK=>?_);refine AW.rg ?_;simp;try (refine hK _ rfl ?_;clear hK K)
    refine AW.block (AW.loopS (ι:=Nat × J1) (fun z=>[(7,.int .i64 (N:Nat)),(8,.sl 6 (Dt es)),(10,Au (Be M)),(17,An (u.map Ar)),(22,.bool true),(23,z.2.ov),(24,.int .i64 (z.1:Nat))]) (fun z=>z.2.M) (fun z=>z.1≤2*N∧Fo z.2.M 51 1 z.2.ov z.2.ob ((Be (Pm M n z.1)).map An)) (fun z=>2*N-z.1) (0,⟨Ac.emp,.nil,[]⟩) ⟨by simp,Fo.start _ _⟩ rfl (by simp) ?_);rintro⟨j,Mm,ov,ob⟩ ⟨g1,g2⟩;simp only at g1 g2;simp only;(repeat refine AW.seq_k fun K hK=>?_);refine AW.rg ?_;simp[-Int.natCast_mul,w0];try (refine hK _ rfl ?_;clear hK K)
    (repeat refine AW.seq ?_);refine AW.cs (fun hj=>?_) (fun hj=>?_) rfl<;>(try simp at hj)
    ·refine AW.skip ?_;try simp[-Int.natCast_mul]
     refine hK _ rfl ?_;clear hK K;have w1:=Aq (j+1) (by omega);have hones:∀x∈(Be (Pm M n j)).map An,x.cells.all AV.one=true:=fun x hx=>by
      obtain⟨r,_,rfl⟩:=List.mem_map.1 hx;rfl
     have hll:((Be (Pm M n j)).map An).length=j:=by rw[List.length_map,A3];simp[Pm]
     generalize hl:(Be (Pm M n j)).map An=l at *;refine AW.seq_ex (ι:=J1) (fun s=>[(7,.int .i64 (N:Nat)),(8,.sl 6 (Dt es)),(10,Au (Be M)),(17,An (u.map Ar)),(22,.bool true),(23,s.ov),(24,.int .i64 (j:Nat))]) (fun s=>s.M) (fun s=>Fo s.M 51 1 s.ov s.ob ((Be (Pm M n (j+1))).map An)) ?_ ?_
     ·(repeat refine AW.seq ?_);refine AW.block ?_;(repeat refine AW.seq_k fun K hK=>?_);refine AW.rg ?_;simp[-Int.natCast_mul];try (refine hK _ rfl ?_;clear hK K)
      refine AW.seq_ex (ι:=J1) (fun s=>[(7,.int .i64 (N:Nat)),(8,.sl 6 (Dt es)),(10,Au (Be M)),(17,An (u.map Ar)),(22,.bool true),(23,ov),(24,.int .i64 (j:Nat)),(25,s.ov)]) (fun s=>s.M) (fun s=>J6 s.M ov ob l s.ov s.ob (Bo ((Dg M n j).map Ar))) ?_ ?_
      ·(repeat refine AW.seq_k fun K hK=>?_);refine AW.rg ?_;simp[-Int.natCast_mul];try (refine hK _ rfl ?_;clear hK K)
       refine AW.block (AW.loopS (ι:=Nat × J1) (fun z=>[(7,.int .i64 (N:Nat)),(8,.sl 6 (Dt es)),(10,Au (Be M)),(17,An (u.map Ar)),(22,.bool true),(23,ov),(24,.int .i64 (j:Nat)),(25,z.2.ov),(26,.int .i64 (z.1:Nat))]) (fun z=>z.2.M) (fun z=>z.1≤n∧J6 z.2.M ov ob l z.2.ov z.2.ob (Bo ((Dg M z.1 j).map Ar))) (fun z=>n-z.1) (0,⟨Mm,.nil,[]⟩) ⟨by simp,J6.start g2⟩ rfl (by simp[-Int.natCast_mul]) ?_);rintro⟨i,Mi,rv,rb⟩ ⟨q1,q2⟩;simp only at q1 q2;simp only;(repeat refine AW.seq_k fun K hK=>?_);refine AW.rg ?_;simp[A3,hXl];try (refine hK _ rfl ?_;clear hK K)
       (repeat refine AW.seq ?_);refine AW.cs (fun hi=>?_) (fun hi=>?_) rfl<;>(try simp at hi)
       ·refine AW.skip ?_;try simp
        refine hK _ rfl ?_;clear hK K;have w2:=Aq (i+1) (by omega);have hiE:i<(Be M).length:=by rw[A3,hXl];exact hi
        have hli:(Aj (Be M) i).length=2*N:=by rw[Bw,List.length_map];exact(hMG.row hi).2
        have hjl:j<(Aj M i).length:=by rw[(hMG.row hi).2];exact hj
        have e1:rr (Aj (Be M) i) j=Ar (A6 M i j):=by rw[Bw,Gd hjl];rfl
        refine AW.seq_ex (ι:=J1) (fun s=>[(7,.int .i64 (N:Nat)),(8,.sl 6 (Dt es)),(10,Au (Be M)),(17,An (u.map Ar)),(22,.bool true),(23,ov),(24,.int .i64 (j:Nat)),(25,s.ov),(26,.int .i64 (i:Nat))]) (fun s=>s.M) (fun s=>J6 s.M ov ob l s.ov s.ob (Bo ((Dg M (i+1) j).map Ar))) ?_ ?_
        ·(repeat refine AW.seq ?_);refine AW.block ?_;have hfin:∀s:J1,J6 s.M ov ob l s.ov s.ob (Bo ((Dg M i j).map Ar)++[(Ar (A6 M i j)).av])→J6 s.M ov ob l s.ov s.ob (Bo ((Dg M (i+1) j).map Ar)):=by
          intro s h2;rw[Vc,List.map_append,List.map_singleton,Qbu];exact h2
         have hl2:(Bo ((Dg M i j).map Ar)).length=i:=by rw[Ph,List.length_map];simp[Dg]
         generalize Bo ((Dg M i j).map Ar)=l2 at *;rcases q2.row with⟨z1,z2,z3⟩ | ⟨b0,z2,z3,z4⟩
         ·subst z1 z2 z3;(repeat refine AW.seq_k fun K hK=>?_);refine AW.rgR [137] ?_;simp[-Int.natCast_mul,hiE,hli,hj,e1];try (refine hK _ rfl ?_;clear hK K)
          exact⟨by unfold maxLen;omega,Ae.intro fun b hb=>⟨⟨_,_,[b]⟩,hfin _ (q2.push0 hb _),rfl,rfl⟩⟩
         ·subst z2 z3;(repeat refine AW.seq_k fun K hK=>?_);refine AW.rgR [137] ?_;simp[-Int.natCast_mul,hiE,hli,hj,e1,z4];try (refine hK _ rfl ?_;clear hK K)
          exact⟨by omega,by unfold maxLen;omega,Ae.intro fun b hb=>⟨⟨_,_,[b]⟩,hfin _ (q2.push1 hb _),rfl,rfl⟩⟩
        rintro⟨Mi,rv,rb⟩ hs;(repeat refine AW.seq_k fun K hK=>?_);refine AW.rg ?_;simp[-Int.natCast_add,w2];try (refine hK _ rfl ?_;clear hK K)
        exact⟨i+1,⟨Mi,rv,rb⟩,⟨hi,hs⟩,by omega,by simp⟩
       ·refine AW.exit ?_;try simp
        have:i=n:=by omega
        subst this;exact⟨⟨Mi,rv,rb⟩,q2,by simp⟩
      rintro⟨Mi,rv,rb⟩ q2;simp only at q2;simp only;obtain⟨M',t1,t2,t3,t4⟩:=q2.done hones;refine AW.turn [(7,.int .i64 (N:Nat)),(8,.sl 6 (Dt es)),(10,Au (Be M)),(17,An (u.map Ar)),(22,.bool true),(23,ov),(24,.int .i64 (j:Nat)),(25,An ((Dg M n j).map Ar))] M' t1 ?_ ?_
      ·simp;exact t3
      have hfin:∀s:J1,Fo s.M 51 1 s.ov s.ob (l++[An ((Dg M n j).map Ar)])→Fo s.M 51 1 s.ov s.ob ((Be (Pm M n (j+1))).map An):=by
       intro s h2;rw[Qms,show(Be (Pm M n j++[Dg M n j])).map An=(Be (Pm M n j)).map An++[An ((Dg M n j).map Ar)] by simp[Be],hl];exact h2
      rcases t2.lst with⟨z1,z2,z3⟩|⟨b0,z2,z3,z4⟩
      ·subst z1 z2 z3;(repeat refine AW.seq_k fun K hK=>?_);refine AW.rgR [141] ?_;simp;try (refine hK _ rfl ?_;clear hK K)
       exact⟨by unfold maxLen;omega,Ae.intro fun b hb=>⟨⟨_,_,[b]⟩,hfin _ (t2.push0 b _),rfl,rfl⟩⟩
      ·subst z2 z3;(repeat refine AW.seq_k fun K hK=>?_);refine AW.rgR [141] ?_;simp[z4];try (refine hK _ rfl ?_;clear hK K)
       exact⟨by omega,by unfold maxLen;omega,Ae.intro fun b hb=>⟨⟨_,_,[b]⟩,hfin _ (t2.push1 b _),rfl,rfl⟩⟩
     rintro⟨Mm,ov,ob⟩ hs;(repeat refine AW.seq_k fun K hK=>?_);refine AW.rg ?_;simp[-Int.natCast_add,w1];try (refine hK _ rfl ?_;clear hK K)
     exact⟨j+1,⟨Mm,ov,ob⟩,⟨hj,hs⟩,by omega,by simp⟩
    ·refine AW.exit ?_;try simp[-Int.natCast_mul]
     have:j=2*N:=by omega
     subst this;exact⟨⟨Mm,ov,ob⟩,g2,by simp⟩
   rintro⟨Mm,ov,ob⟩ g2;simp only at g2;simp only;refine AW.toEmp [(8,.sl 6 (Dt es)),(22,.bool true),(17,An (u.map Ar)),(23,Au (Be (Pm M n (2*N))))] (by simp;exact g2.lst.view (fun _ _=>rfl)) ?_;unfold An at hsome hvan ⊢;(repeat refine AW.seq_k fun K hK=>?_);refine AW.rg ?_;simp[hul,hn];try (refine hK _ rfl ?_;clear hK K)
   refine Aa.val hsome ?_;simp;refine Aa.val hvan ?_;simp
 rintro _ _;(repeat refine AW.seq_k fun K hK=>?_);refine AW.rg ?_;simp;try (refine hK _ rfl ?_;clear hK K)
 exact AW.ret (Ah rfl _ (.same _) ⟨rfl,rfl⟩)
end Go.Av
end
section
namespace Go.Av
open Go.Proofs
theorem Q3i:Tryz.prog.underlying 40=some (.slice 124):=by kernel_rfl
theorem Q0q:Tryz.prog.underlying 124=some (.int .u32):=by kernel_rfl
theorem ty4:Tryz.prog.underlying 4=some .bool:=by kernel_rfl
theorem Q3o:Tryz.prog.cellsOf 124=1:=by kernel_rfl
theorem Q1t:Tryz.prog.cellsOf 44=4:=by kernel_rfl
theorem Qv8:Tryz.prog.cellsOf 42=2:=by kernel_rfl
theorem Q3r:Tryz.prog.cellsOf 40=1:=by kernel_rfl
theorem cl4:Tryz.prog.cellsOf 4=1:=by kernel_rfl
noncomputable def Qjg (t:TypeId):Array Field:=match Tryz.prog.underlying t with
 |some (.struct fs)=>fs
 |_=>#[]
noncomputable def Qav (t:TypeId) (i:Nat):Option (TypeId × Nat):=((Qjg t)[i]?).map fun f=>(f.type,f.offset)
theorem Q3g:Tryz.prog.underlying 44=some (.struct (Qjg 44)):=by kernel_rfl
theorem Q3k:Tryz.prog.underlying 42=some (.struct (Qjg 42)):=by kernel_rfl
theorem Q07:Qav 44 0=some (42,0):=by kernel_rfl
theorem Q2e:Qav 44 1=some (42,2):=by kernel_rfl
theorem Q1f:Qav 42 0=some (4,0):=by kernel_rfl
theorem Q2b:Qav 42 1=some (40,1):=by kernel_rfl
theorem Lx {t:TypeId} {i:Nat} {p:TypeId × Nat} (h:Qav t i=some p):∃f:Field,(Qjg t)[i]?=some f∧f.type=p.1∧f.offset=p.2:=by
 unfold Qav at h;cases hf:(Qjg t)[i]? with
 |none=>rw[hf]at h;cases h
 |some f=>rw[hf]at h;cases h;exact⟨f,rfl,rfl,rfl⟩
variable {H:Type} {enc:TypeId × Value→H} {W:World}
theorem Zg {a:Addr} {v:Value} (h:W.cell? a=some v):a.block<W.heap.size:=by
 unfold World.cell? at h;rcases Nat.lt_or_ge a.block W.heap.size with hl | hl
 ·exact hl
 ·rw[Array.getElem?_eq_none hl]at h;simp at h
theorem Sb {l:List Nat} {i j:Nat} {u:AV} (h:A4 (Bp l) i j=some u):j=0∧i<l.length∧u=.int .u32 (nth l i:Nat):=by
 unfold A4 Bp at h;rw[List.getElem?_map]at h;cases hi:l[i]? with
 |none=>rw[hi]at h;cases h
 |some y =>
  rw[hi]at h;have hl:=(List.getElem?_eq_some_iff.1 hi).1;cases j with
  |zero =>
   cases h;refine⟨rfl,hl,?_⟩;unfold nth;rw[List.getD_eq_getElem?_getD,hi];rfl
  |succ k=>cases h
theorem Qku {fuel:Nat} {c:Value} {x:DataW H × List MemPlace} (h:DataW.trod enc Tryz.prog W 0 (fun _=>true) true fuel 40 [c]=some x):∃l,Lb l∧VR W (fun _=>False) (Ao l) c:=by
 rcases Go.ChangeShapes.open_ints Q3i Q0q Q3o h with⟨hc,_⟩|⟨a,len,cap,zs,hc,_,hl,hm,hz,_,hcell,hwf⟩
 ·simp only[List.cons.injEq,and_true]at hc;subst hc;exact⟨[],fun y hy=>(by cases hy),.sl0 1 none 0⟩
 ·simp only[List.cons.injEq,and_true]at hc;subst hc;simp at hz;rcases Nat.eq_zero_or_pos len with h0 | h0
  ·subst h0;exact⟨[],fun y hy=>(by cases hy),.sl0 1 (some a) cap⟩
  ·have h00:=hcell 0 (by omega);have hsp:=World.cell?_spot h00;have hbl:=Zg h00;obtain⟨b,o,sp⟩:=a;simp[Addr.add]at hsp hbl;subst hsp;have hzl:∀i,i<len→0≤zs.getD i 0∧zs.getD i 0≤4294967295:=fun i hi=>by
    have:zs.getD i 0=zs[i]'(by omega):=by rw[List.getD_eq_getElem?_getD,List.getElem?_eq_getElem (by omega)];rfl
    rw[this];exact Go.bounds_u32 (hwf _ (List.getElem_mem _))
   refine⟨(List.range len).map fun i=>(zs.getD i 0).toNat,fun y hy=>?_,?_⟩
   ·obtain⟨i,hi,rfl⟩:=List.mem_map.1 hy;have:=hzl i (List.mem_range.1 hi);omega
   ·have e:((List.range len).map fun i=>(zs.getD i 0).toNat).length=len:=by simp
    have:=VR.sl (w:=W) (F:=fun _=>False) 1 (Bp ((List.range len).map fun i=>(zs.getD i 0).toNat)) b o cap (fun i _=>.int .u32 (zs.getD i 0)) (by simp) hbl (by simp;exact hl) (by
     intro v hv;obtain⟨y,_,rfl⟩:=List.mem_map.1 hv;rfl) ?_ ?_
    ·rw[Nc,e]at this;exact this
    ·intro i j u hu;obtain⟨rfl,q1,rfl⟩:=Sb hu;rw[e]at q1;have:=hzl i q1;have hn:nth ((List.range len).map fun i=>(zs.getD i 0).toNat) i=(zs.getD i 0).toNat:=by
      unfold nth;rw[List.getD_eq_getElem?_getD,List.getElem?_map,List.getElem?_range q1];rfl
     rw[hn,Int.toNat_of_nonneg this.1];exact .int _ _
    ·intro i j u hu;obtain⟨rfl,q1,rfl⟩:=Sb hu;rw[e]at q1;have:=hcell i (by omega);rcases Nat.eq_zero_or_pos i with h' | h'
     ·subst h';simpa[Addr.add]using this
     ·have h'':i≠0:=by omega
      simpa[Addr.add,h'']using this
set_option maxRecDepth 100000
theorem Qbi {fuel:Nat} {cs:List Value} {x:DataW H × List MemPlace} (h:DataW.trod enc Tryz.prog W 0 (fun _=>true) true fuel 42 cs=some x):∃n l c,cs=[.bool n,c]∧Lb l∧VR W (fun _=>False) (Ao l) c:=by
 obtain⟨xs,n,_,rfl,hl,hlen,hf⟩:=DataW.trod_struct Q3k h;rw[Qv8]at hl;obtain⟨c0,c1,rfl⟩:∃c0 c1,cs=[c0,c1]:=by
  match cs,hl with
  |[c0,c1],_=>exact⟨c0,c1,rfl⟩
 obtain⟨f0,g1,g2,g3⟩:=Lx Q1f;obtain⟨f1,k1,k2,k3⟩:=Lx Q2b;have h0:=hf 0 f0 g1;have h1:=hf 1 f1 k1;simp only at g2 g3 k2 k3;rw[g2,g3,cl4]at h0;rw[k2,k3,Q3r]at h1;have hs:xs.length=2:=by rw[hlen];kernel_rfl
 obtain⟨b,hb,_⟩:=DataW.trod_bool ty4 (h0.trans (List.getElem?_eq_getElem (by omega)));obtain⟨l,hl1,hl2⟩:=Qku (h1.trans (List.getElem?_eq_getElem (by omega)));simp at hb;exact⟨b,l,c1,by rw[hb],hl1,hl2⟩
theorem Qk0 {fuel:Nat} {cs:List Value} {x:DataW H × List MemPlace} (h:DataW.trod enc Tryz.prog W 0 (fun _=>true) true fuel 44 cs=some x):∃r:RR,r.Lb∧cs.length=4∧∀(j:Nat) (u:AV),r.av.cells[j]?=some u→∃c,cs[j]?=some c∧VR W (fun _=>False) u c:=by
 obtain⟨xs,n,_,rfl,hl,hlen,hf⟩:=DataW.trod_struct Q3g h;rw[Q1t]at hl;obtain⟨c0,c1,c2,c3,rfl⟩:∃c0 c1 c2 c3,cs=[c0,c1,c2,c3]:=by
  match cs,hl with
  |[c0,c1,c2,c3],_=>exact⟨c0,c1,c2,c3,rfl⟩
 obtain⟨f0,g1,g2,g3⟩:=Lx Q07;obtain⟨f1,k1,k2,k3⟩:=Lx Q2e;have h0:=hf 0 f0 g1;have h1:=hf 1 f1 k1;simp only at g2 g3 k2 k3;rw[g2,g3,Qv8]at h0;rw[k2,k3,Qv8]at h1;have hs:xs.length=2:=by rw[hlen];kernel_rfl
 obtain⟨n1,l1,d1,e1,b1,v1⟩:=Qbi (h0.trans (List.getElem?_eq_getElem (by omega)));obtain⟨n2,l2,d2,e2,b2,v2⟩:=Qbi (h1.trans (List.getElem?_eq_getElem (by omega)));simp at e1 e2;obtain⟨rfl,rfl⟩:=e1;obtain⟨rfl,rfl⟩:=e2;refine⟨⟨n1,l1,n2,l2⟩,⟨b1,b2⟩,rfl,fun j u hu=>?_⟩
 match j,hu with
 |0,hu=>cases hu;exact⟨_,rfl,.bool _⟩
 |1,hu=>cases hu;exact⟨_,rfl,v1⟩
 |2,hu=>cases hu;exact⟨_,rfl,.bool _⟩
 |3,hu=>cases hu;exact⟨_,rfl,v2⟩
 |k+4,hu=>cases hu
end Go.Av
end
section
namespace Go.Av
open Go.Proofs
variable {H:Type} {enc:TypeId × Value→H} {W:World}
theorem Pg {α:Type} [Inhabited α] {n:Nat} {p:Nat→α→Prop} (h:∀i,i<n→∃a,p i a):∃f:Nat→α,∀i,i<n→p i (f i):=by
 classical
 exact⟨fun i=>if hi:i<n then Classical.choose (h i hi) else default,fun i hi=>by
  simp only[dif_pos hi];exact Classical.choose_spec (h i hi)⟩
theorem Qi7 (b o i j:Nat):((⟨b,o,none⟩:Addr).add i).add j=⟨b,o+(i+j),none⟩:=by
 by_cases hi:i=0
 ·subst hi;by_cases hj:j=0
  ·subst hj;simp[Addr.add]
  ·simp[Addr.add,hj]
 ·by_cases hj:j=0
  ·subst hj;simp[Addr.add,hi]
  ·simp[Addr.add,hi,hj,Nat.add_assoc]
end Go.Av
end
section
namespace Go.Av
open Go.Proofs
theorem ty22:Tryz.prog.underlying 22=some (.slice 46):=by kernel_rfl
theorem ty25:Tryz.prog.underlying 25=some (.slice 3):=by kernel_rfl
theorem ty3:Tryz.prog.underlying 3=some (.int .i64):=by kernel_rfl
theorem Q3m:Tryz.prog.underlying 46=some (.struct (Qjg 46)):=by kernel_rfl
theorem Q0t:Tryz.prog.cellsOf 46=6:=by kernel_rfl
theorem cl3:Tryz.prog.cellsOf 3=1:=by kernel_rfl
theorem Q00:Qav 46 0=some (3,0):=by kernel_rfl
theorem Q09:Qav 46 1=some (3,1):=by kernel_rfl
theorem Q1a:Qav 46 2=some (44,2):=by kernel_rfl
variable {H:Type} {enc:TypeId × Value→H} {W:World}
set_option maxRecDepth 100000
theorem Wm {fuel:Nat} {c:Value} {x:DataW H × List MemPlace} (h:DataW.trod enc Tryz.prog W 0 (fun _=>true) true fuel 3 [c]=some x):∃n:Int,c=.int .i64 n∧-9223372036854775808≤n∧n<9223372036854775808:=by
 obtain⟨n,h1,_,h2⟩:=DataW.trod_int ty3 h;have:=bounds_i64 h2;simp at h1;exact⟨n,h1,this.1,by omega⟩
theorem Qj4 {fuel:Nat} {cs:List Value} {x:DataW H × List MemPlace} (h:DataW.trod enc Tryz.prog W 0 (fun _=>true) true fuel 46 cs=some x):∃e:RE,e.sq.Lb∧cs.length=6∧∀(j:Nat) (u:AV),e.av.cells[j]?=some u→∃c,cs[j]?=some c∧VR W (fun _=>False) u c:=by
 obtain⟨xs,n,_,rfl,hl,hlen,hf⟩:=DataW.trod_struct Q3m h;rw[Q0t]at hl;obtain⟨c0,c1,c2,c3,c4,c5,rfl⟩:∃c0 c1 c2 c3 c4 c5,cs=[c0,c1,c2,c3,c4,c5]:=by
  match cs,hl with
  |[c0,c1,c2,c3,c4,c5],_=>exact⟨c0,c1,c2,c3,c4,c5,rfl⟩
 obtain⟨f0,g1,g2,g3⟩:=Lx Q00;obtain⟨f1,k1,k2,k3⟩:=Lx Q09;obtain⟨f2,l1,l2,l3⟩:=Lx Q1a;have h0:=hf 0 f0 g1;have h1:=hf 1 f1 k1;have h2:=hf 2 f2 l1;simp only at g2 g3 k2 k3 l2 l3;rw[g2,g3,cl3]at h0;rw[k2,k3,cl3]at h1;rw[l2,l3,Q1t]at h2;have hs:xs.length=3:=by rw[hlen];kernel_rfl
 obtain⟨a,e0,_⟩:=Wm (h0.trans (List.getElem?_eq_getElem (by omega)));obtain⟨b,e1,_⟩:=Wm (h1.trans (List.getElem?_eq_getElem (by omega)));obtain⟨r,q1,_,q3⟩:=Qk0 (h2.trans (List.getElem?_eq_getElem (by omega)));subst e0 e1;refine⟨⟨a,b,r⟩,q1,rfl,fun j u hu=>?_⟩
 match j,hu with
 |0,hu=>cases hu;exact⟨_,rfl,.int _ _⟩
 |1,hu=>cases hu;exact⟨_,rfl,.int _ _⟩
 |2,hu=>exact q3 0 u hu
 |3,hu=>exact q3 1 u hu
 |4,hu=>exact q3 2 u hu
 |5,hu=>exact q3 3 u hu
 |k+6,hu=>cases hu
theorem Vp {fuel:Nat} {c:Value} {x:DataW H × List MemPlace} (h:DataW.trod enc Tryz.prog W 0 (fun _=>true) true fuel 22 [c]=some x):∃es:List RE,W5 es∧VR W (fun _=>False) (Bc es) c:=by
 rcases Go.Deep.open_slice ty22 h with⟨hc,_⟩|⟨a,len,cap,m,n,D,Pl,hc,_,hl,hm,hmm,_,hx⟩
 ·simp only[List.cons.injEq,and_true]at hc;subst hc;exact⟨[],fun y hy=>(by cases hy),.sl0 6 none 0⟩
 ·simp only[List.cons.injEq,and_true]at hc;subst hc;simp at hmm;subst hmm;rcases Nat.eq_zero_or_pos len with h0 | h0
  ·subst h0;exact⟨[],fun y hy=>(by cases hy),.sl0 6 (some a) m⟩
  ·rw[Q0t]at hx;obtain⟨C,hC⟩:=Pg (α:=List Value) (p:=fun i cs=>W.cells? 0 (a.add (i*6)) 6=some cs∧DataW.trod enc Tryz.prog W 0 (fun _=>true) true n 46 cs=some (D i,Pl i)) (n:=len) (fun i hi=>hx i (by omega));obtain⟨R,hR⟩:=Pg (α:=RE) (n:=len) (fun i hi=>Qj4 (hC i hi).2);have hcell:∀i,i<len→∀j,j<6→W.cell? ((a.add (i*6)).add j)=(C i)[j]?:=fun i hi=>(World.cells?_some (hC i hi).1).2.2;obtain⟨c00,hc00,_⟩:=(hR 0 h0).2.2 0 (.int .i64 (R 0).a) rfl;have h00:=(hcell 0 h0 0 (by omega)).trans hc00;have hsp:=World.cell?_spot h00
   have hbl:=Zg h00;obtain⟨b,o,sp⟩:=a;simp[Addr.add]at hsp hbl;subst hsp;have hcellAt:∀i j u,A4 (Dt ((List.range len).map R)) i j=some u→i<len∧(R i).av.cells[j]?=some u:=by
    intro i j u hu;unfold A4 Dt at hu;rw[List.map_map,List.getElem?_map]at hu;by_cases hi:i<len
    ·rw[List.getElem?_range hi]at hu;exact⟨hi,hu⟩
    ·rw[List.getElem?_eq_none (by simp;omega)]at hu;cases hu
   refine⟨(List.range len).map R,fun y hy=>?_,?_⟩
   ·obtain⟨i,hi,rfl⟩:=List.mem_map.1 hy;exact(hR i (List.mem_range.1 hi)).1
   ·have:=VR.sl (w:=W) (F:=fun _=>False) 6 (Dt ((List.range len).map R)) b o m (fun i j=>((C i)[j]?).getD (.bool false)) (by simp) hbl (by simp;exact hl) (by
     intro v hv;obtain⟨y,_,rfl⟩:=List.mem_map.1 hv;rfl) (fun i j u hu=>by
      obtain⟨hi,hu⟩:=hcellAt i j u hu;obtain⟨c,q1,q2⟩:=(hR i hi).2.2 j u hu;rw[q1];exact q2) (fun i j u hu=>by
      obtain⟨hi,hu⟩:=hcellAt i j u hu;obtain⟨c,q1,q2⟩:=(hR i hi).2.2 j u hu;have hj:j<6:=by
       have:=(List.getElem?_eq_some_iff.1 q1).1;rw[(hR i hi).2.1]at this;exact this
      have:=hcell i hi j hj;rw[Qi7,q1]at this;rw[this,q1];rfl)
    rw[Wg,List.length_map,List.length_range]at this;exact this
theorem Si {fuel:Nat} {c:Value} {x:DataW H × List MemPlace} (h:DataW.trod enc Tryz.prog W 0 (fun _=>true) true fuel 22 [c]=some x):∃es:List RE,(W5 es∧es.length<2^63)∧VR W (fun _=>False) (Bc es) c:=by
 obtain⟨r,h1,h2⟩:=Vp h;refine⟨r,⟨h1,?_⟩,h2⟩;have hmax:maxLen<2^63:=by unfold maxLen;omega
 have hlen:∀(A:Option Addr) (len cap:Nat),c=.slice A len cap→len≤maxLen→r.length<2^63:=fun A len cap hc hl=>by
  subst hc;unfold Bc at h2;generalize hr:Dt r=R at h2;have hrl:r.length=R.length:=by rw[←hr,Wg]
  rw[hrl];cases h2 with
  |sl0=>simp
  |sl=>omega
 rcases Go.Deep.open_slice ty22 h with⟨hc,_⟩|⟨a,len,cap,m,n,D,Pl,hc,_,hl,hm,_⟩
 ·simp only[List.cons.injEq,and_true]at hc;exact hlen _ _ _ hc (by omega)
 ·simp only[List.cons.injEq,and_true]at hc;exact hlen _ _ _ hc (by omega)
theorem Yu {fuel:Nat} {c:Value} {x:DataW H × List MemPlace} (h:DataW.trod enc Tryz.prog W 0 (fun _=>true) true fuel 25 [c]=some x):∃o:List Int,True∧VR W (fun _=>False) (.sl 1 (o.map fun v=>.int .i64 v)) c:=by
 rcases Go.Deep.open_slice1 ty25 cl3 h with⟨hc,_⟩|⟨a,len,cap,m,n,V,D,Pl,hc,_,hl,hm,hmm,_,hx⟩
 ·simp only[List.cons.injEq,and_true]at hc;subst hc;exact⟨[],trivial,.sl0 1 none 0⟩
 ·simp only[List.cons.injEq,and_true]at hc;subst hc;simp at hmm;subst hmm;rcases Nat.eq_zero_or_pos len with h0 | h0
  ·subst h0;exact⟨[],trivial,.sl0 1 (some a) m⟩
  ·obtain⟨R,hR⟩:=Pg (α:=Int) (n:=len) (p:=fun i r=>V i=.int .i64 r) (fun i hi=>by
    obtain⟨r,hr,_⟩:=Wm (hx i (by omega)).2;exact⟨r,hr⟩)
   have h00:=(hx 0 (by omega)).1;have hsp:=World.cell?_spot h00;have hbl:=Zg h00;obtain⟨b,o,sp⟩:=a;simp[Addr.add]at hsp hbl;subst hsp;have hcellAt:∀i j u,A4 (((List.range len).map R).map fun v=>AV.int .i64 v) i j=some u→i<len∧j=0∧u=.int .i64 (R i):=by
    intro i j u hu;unfold A4 at hu;rw[List.map_map,List.getElem?_map]at hu;by_cases hi:i<len
    ·rw[List.getElem?_range hi]at hu;cases j with
     |zero=>cases hu;exact⟨hi,rfl,rfl⟩
     |succ k=>cases hu
    ·rw[List.getElem?_eq_none (by simp;omega)]at hu;cases hu
   refine⟨(List.range len).map R,trivial,?_⟩;have:=VR.sl (w:=W) (F:=fun _=>False) 1 (((List.range len).map R).map fun v=>AV.int .i64 v) b o m (fun i _=>V i) (by simp) hbl (by simp;exact hl) (by
    intro v hv;obtain⟨y,_,rfl⟩:=List.mem_map.1 hv;rfl) (fun i j u hu=>by
     obtain⟨hi,rfl,rfl⟩:=hcellAt i j u hu;rw[hR i hi];exact .int _ _) (fun i j u hu=>by
     obtain⟨hi,rfl,rfl⟩:=hcellAt i j u hu;have:=(hx i (by omega)).1;rcases Nat.eq_zero_or_pos i with h'|h'
     ·subst h';simpa[Addr.add]using this
     ·have h'':i≠0:=by omega
      simpa[Addr.add,h'']using this)
   rw[List.length_map,List.length_map,List.length_range]at this;exact this
def vrl (W:World):List AV→List Value→Prop
 |[],[]=>True
 |x::xs,c::cs=>VR W (fun _=>False) x c∧vrl W xs cs
 |_,_=>False
theorem Qgv:∀{xs:List AV} {cs:List Value},vrl W xs cs→cs.length=xs.length∧∀(j:Nat) u v,xs[j]?=some u→cs[j]?=some v→VR W (fun _=>False) u v
 |[],[],_=>⟨rfl,fun j u v h=>by cases h⟩
 |x::xs,c::cs,h=>by
  obtain⟨h1,h2⟩:=Qgv h.2;refine⟨by simp[h1],fun j u v hu hv=>?_⟩
  match j,hu,hv with
  |0,hu,hv=>cases hu;cases hv;exact h.1
  |k+1,hu,hv=>exact h2 k u v hu hv
 |[],_::_,h=>h.elim
 |_::_,[],h=>h.elim
theorem Xu {f:FuncId} {xs:List AV} (hf:Ak Tryz.prog f xs Ac.emp fun v mm=>v=.bool true∧mm=Ac.emp) {cs:List Value} (hx:vrl W xs cs) :
  Calls Tryz.prog f cs.toArray W fun e W'=>e=.returned (.bool true)∧RowKit.Below W.heap.size W W':=by
 have hO:C2 (fun _=>False) Ac.emp=fun _=>False:=by funext b;simp[C2,Ac.emp]
 obtain⟨h1,h2⟩:=Qgv hx;refine(hf.2 W (fun _=>False) cs.toArray (fun b hb=>hb.elim) (fun b x hx=>by cases hx) ?_).mono ?_
 ·rw[hO];exact⟨by simpa using h1,fun j u v hu hv'=>h2 j u v hu (by simpa using hv')⟩
 ·rintro e W' ⟨v,cv,g',rfl,⟨rfl,_⟩,_,hvr,hg,_⟩;cases hvr;exact⟨rfl,⟨hg.os,hg.tape,hg.output,hg.size,fun k hk=>hg.block k hk (by simp[Ac.emp])⟩⟩
end Go.Av
end
