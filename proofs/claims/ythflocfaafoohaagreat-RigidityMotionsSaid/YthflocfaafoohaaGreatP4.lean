/- A part of the proof. -/
import Derived.Test.YthflocfaafoohaaGreatP3
set_option linter.all false
set_option exponentiation.threshold 5000
set_option maxRecDepth 10000
section
namespace Go.Av
section
variable {P:Program} {cf:D6} {ops:Array Oper} {K:St→Prop}
def Ct (ops:Array Oper) (a b:Nat):Array Oper:=ops.modify b fun o=>{o with after:=o.after.push ⟨a,.data⟩}
theorem Hz (ops:Array Oper) (a b:Nat):(Ct ops a b).size=ops.size:=by simp[Ct]
theorem D5 (ops:Array Oper) (a b i:Nat):(Ct ops a b)[i]?=(ops[i]?).map fun o=>if i=b then {o with after:=o.after.push ⟨a,.data⟩} else o:=by
 unfold Ct;rw[Array.getElem?_modify];by_cases h:b=i
 ·subst h;simp
 ·rw[if_neg h];cases ops[i]? with
  |none=>rfl
  |some o=>simp[Ne.symm h]
theorem Yt (ops:Array Oper) (a b j:Nat):((Ct ops a b)[j]?).bind (·.dst)=(ops[j]?).bind (·.dst):=by
 rw[D5];cases ops[j]? with
 |none=>rfl
 |some o=>simp only[Option.map_some,Option.bind_some];split<;>rfl
theorem Hs (a b:Nat) (o:Oper) (i:Nat) (K:St→Prop) (s:St):Cw P cf (Ct ops a b) (if i=b then {o with after:=o.after.push ⟨a,.data⟩} else o) K s↔Cw P cf ops o K s:=by
 have key:∀o':Oper,o'.op=o.op→o'.dst=o.dst→o'.guard=o.guard→(Cw P cf (Ct ops a b) o' K s↔Cw P cf ops o K s):=by
  intro o' h1 h2 h3;have he:∀(s:St) (k:AV→Ac→Prop),Fa P cf o' s k↔Fa P cf o s k:=by
   intro s k;unfold Fa Px;rw[h1,h2]
  unfold Cw C9;rw[h2,h3];cases o.guard with
  |none=>exact he _ _
  |some g =>
   obtain⟨j,want⟩:=g;simp only[Yt];cases (ops[j]?).bind (·.dst)with
   |none=>exact Iff.rfl
   |some d =>
    refine exists_congr fun t=>and_congr_right fun _=>?_;split
    ·exact he _ _
    ·exact Iff.rfl
 split
 ·exact key _ rfl rfl rfl
 ·exact key _ rfl rfl rfl
theorem N6 (a b:Nat):∀(plan:List Nat) (s:St),Db P cf ops plan K s→Db P cf (Ct ops a b) plan K s
 |[],_,h=>h
 |i::rest,s,h=>by
  unfold Db at h ⊢;rw[D5];cases ho:ops[i]? with
  |none=>rw[ho]at h;exact h
  |some o =>
   rw[ho]at h;simp only[Option.map_some];rw[Hs];unfold Cw at h ⊢;exact Bz (fun v m hk=>N6 a b rest _ hk) h
theorem Gs {a b:Nat} {listed:Array Bool} {i:Nat} (h:i∈Region.ready .any ops listed) (hi:i≠b∨listed.getD a false=true):i∈Region.ready .any (Ct ops a b) listed:=by
 rw[F4]at h ⊢;obtain⟨h1,h2,h3⟩:=h;refine⟨by rw[Hz];exact h1,h2,fun o ho e he hb=>?_⟩;rw[D5]at ho;cases hx:ops[i]? with
 |none=>rw[hx]at ho;cases ho
 |some o' =>
  rw[hx]at ho;simp only[Option.map_some,Option.some.injEq]at ho;subst ho;split at he
  ·rename_i hib
   simp only[Array.toList_push,List.mem_append,List.mem_singleton]at he;rcases he with he | rfl
   ·exact h3 o' hx e he hb
   ·rcases hi with hi|hi
    ·exact absurd hib hi
    ·exact hi
  ·exact h3 o' hx e he hb
theorem Pt {a b:Nat}:∀(fuel:Nat) (listed:Array Bool) (s:St),listed.size=ops.size→listed.getD a false=true→O5 P cf (Ct ops a b) K fuel listed s→O5 P cf ops K fuel listed s
 |0,listed,s,_,ha,h=>by
  refine⟨?_,h.2⟩;cases hr:Region.ready .any ops listed with
  |nil=>rfl
  |cons i l =>
   have:=Gs (a:=a) (b:=b) (show i∈Region.ready .any ops listed by rw[hr];simp) (.inr ha);rw[h.1]at this;cases this
 |fuel+1,listed,s,hsz,ha,h=>by
  refine⟨fun he=>h.1 ?_,fun i hi=>?_⟩
  ·cases hr:Region.ready .any (Ct ops a b) listed with
   |nil=>rfl
   |cons i l =>
    have hi:i∈Region.ready .any (Ct ops a b) listed:=by rw[hr];simp
    have:i∈Region.ready .any ops listed:=by
     rw[F4]at hi ⊢;refine⟨by rw[←Hz ops a b];exact hi.1,hi.2.1,fun o ho e he' hb=>hi.2.2 _ (by rw[D5,ho];rfl) e ?_ hb⟩;split
     ·simp[he']
     ·exact he'
    rw[he]at this;cases this
  ·have h2:=h.2 i (Gs hi (.inr ha));rw[D5]at h2;have hlt:=(F4.1 hi).1;cases ho:ops[i]? with
   |none=>rw[ho]at h2;exact h2
   |some o =>
    rw[ho]at h2;simp only[Option.map_some]at h2 ⊢;rw[Hs]at h2;unfold Cw at h2 ⊢;refine Bz (fun v m hk=>Pt fuel _ _ (by simpa using hsz) ?_ hk) h2;rw[Ia (by rw[hsz];exact hlt),ha];simp
def R3 (o:Oper):Bool:=match o.op with
 |.store _ _ _=>true
 |_=>false
def Qm4 (o:Oper):Bool:=R3 o || match Bm o with
 |.q | .l | .a | .z=>true
 |_=>false
theorem Qdh {o:Oper} (ho:R3 o=true) {s:St} {k k':AV→Ac→Prop} (h1:C9 P cf ops o s k) (h2:C9 P cf ops o s k'):C9 P cf ops o s fun v m=>k v m∧k' v m:=by
 have key:∀{k k':AV→Ac→Prop},Fa P cf o s k→Fa P cf o s k'→Fa P cf o s fun v m=>k v m∧k' v m:=by
  intro k k' h1 h2;unfold R3 at ho;unfold Fa at *;split at ho
  ·rename_i t a x hop
   simp only[hop]at h1 h2 ⊢;obtain⟨ti,b,z,i,j,blk,old,q1,q2,q3,q4,q5,q6,q7,q8,q9⟩:=h1;obtain⟨ti',b',z',i',j',blk',old',r1,r2,r3,r4,r5,r6,r7,r8,r9⟩:=h2;rw[q1]at r1;cases r1;rw[q2]at r2;cases r2;rw[q3]at r3;cases r3;rw[q5]at r5;cases r5;exact⟨ti,b,z,i,j,blk,old,q1,q2,q3,q4,q5,q6,q7,q8,q9,r9⟩
  ·cases ho
 unfold C9 at *;cases hg:o.guard with
 |none=>rw[hg]at h1 h2;exact key h1 h2
 |some g =>
  obtain⟨j,want⟩:=g;rw[hg]at h1 h2;simp only at h1 h2 ⊢;cases hd:(ops[j]?).bind (·.dst)with
  |none=>rw[hd]at h1;exact h1
  |some d =>
   rw[hd]at h1 h2;simp only at h1 h2 ⊢;obtain⟨t,t1,t2⟩:=h1;obtain⟨t',t3,t4⟩:=h2;rw[t1]at t3;cases t3;refine⟨t,t1,?_⟩;cases t with
   |true=>simp only[if_true]at t2 t4 ⊢;exact key t2 t4
   |false=>simp only[Bool.false_eq_true,if_false]at t2 t4 ⊢;exact⟨t2,t4⟩
theorem Qdr (hdm:cf.dm=true) {o:Oper} (ho:Qm4 o=true) {X Y:St→Prop} {s:St} (h1:Cw P cf ops o X s) (h2:Cw P cf ops o Y s):Cw P cf ops o (fun s'=>X s'∧Y s') s:=by
 by_cases hst:R3 o=true
 ·exact Qdh hst h1 h2
 unfold Qm4 at ho;rw[Bool.not_eq_true]at hst;rw[hst,Bool.false_or]at ho;have hb:Bm o≠.b:=by intro e;rw[e]at ho;cases ho
 have hx:Bm o≠.x:=by intro e;rw[e]at ho;cases ho
 have hc:Bm o≠.c:=by intro e;rw[e]at ho;cases ho
 obtain⟨fo,f1,f2⟩:=Mr (P:=P) (cf:=cf) (ops:=ops) hb hx hdm s;unfold Cw at *;have e:({s with m:=s.m}:St)=s:=rfl;rw[←e,f2]at h1 h2 ⊢;cases fo with
 |no=>exact h1
 |quiet ev =>
  obtain⟨v,q1,q2⟩:=h1;obtain⟨v',q3,q4⟩:=h2;rw[q1]at q3;cases q3;exact⟨v,q1,q2,q4⟩
 |new fv x=>exact fun b p1 p2=>⟨h1 b p1 p2,h2 b p1 p2⟩
 |call f args=>exact absurd f1 hc
theorem Zz (hdm:cf.dm=true) (hsoft:∀(i:Nat) (o:Oper),ops[i]?=some o→Qm4 o=true) {a b:Nat} (hab:a≠b):∀(fuel:Nat) (listed:Array Bool) (s:St),listed.size=ops.size→O5 P cf (Ct ops a b) K fuel listed s→O5 P cf (Ct ops b a) K fuel listed s→O5 P cf ops K fuel listed s
 |0,listed,s,_,h1,h2=>by
  refine⟨?_,h1.2⟩;cases hr:Region.ready .any ops listed with
  |nil=>rfl
  |cons i l =>
   have hi:i∈Region.ready .any ops listed:=by rw[hr];simp
   by_cases hib:i=b
   ·have:=Gs (a:=b) (b:=a) hi (.inl (by rw[hib];exact Ne.symm hab));rw[h2.1]at this;cases this
   ·have:=Gs (a:=a) (b:=b) hi (.inl hib);rw[h1.1]at this;cases this
 |fuel+1,listed,s,hsz,h1,h2=>by
  refine⟨fun he=>h1.1 ?_,fun i hi=>?_⟩
  ·cases hr:Region.ready .any (Ct ops a b) listed with
   |nil=>rfl
   |cons i l =>
    have hi:i∈Region.ready .any (Ct ops a b) listed:=by rw[hr];simp
    have:i∈Region.ready .any ops listed:=by
     rw[F4]at hi ⊢;refine⟨by rw[←Hz ops a b];exact hi.1,hi.2.1,fun o ho e he' hb=>hi.2.2 _ (by rw[D5,ho];rfl) e ?_ hb⟩;split
     ·simp[he']
     ·exact he'
    rw[he]at this;cases this
  ·have hlt:=(F4.1 hi).1;cases ho:ops[i]? with
   |none=>have:=(Array.getElem?_eq_none_iff.1 ho);omega
   |some o =>
    simp only;have g1:i≠b→Cw P cf ops o (O5 P cf (Ct ops a b) K fuel (listed.setIfInBounds i true)) s:=fun hib=>by
     have:=h1.2 i (Gs hi (.inl hib));rw[D5,ho]at this;simp only[Option.map_some]at this
     rwa [Hs]at this
    have g2:i≠a→Cw P cf ops o (O5 P cf (Ct ops b a) K fuel (listed.setIfInBounds i true)) s:=fun hia=>by
     have:=h2.2 i (Gs hi (.inl hia));rw[D5,ho]at this;simp only[Option.map_some]at this
     rwa [Hs]at this
    have hsz':(listed.setIfInBounds i true).size=ops.size:=by simpa using hsz
    by_cases hib:i=b
    ·have:=g2 (by rw[hib];exact Ne.symm hab);unfold Cw at this ⊢;refine Bz (fun v m hk=>Pt fuel _ _ hsz' ?_ hk) this;rw[Ia (by rw[hsz];exact hlt),if_pos hib.symm]
    ·by_cases hia:i=a
     ·have:=g1 hib;unfold Cw at this ⊢;refine Bz (fun v m hk=>Pt fuel _ _ hsz' ?_ hk) this;rw[Ia (by rw[hsz];exact hlt),if_pos hia.symm]
     ·have:=Qdr hdm (hsoft i o ho) (g1 hib) (g2 hia);unfold Cw at this ⊢;exact Bz (fun v m hk=>Zz hdm hsoft hab fuel _ _ hsz' hk.1 hk.2) this
theorem Qes {Q:Exit→St→Prop} {s:St} (ro:Nat→Bool) (av:Nat→Prop) (plan:List Nat) (hp:Ib P ro ops plan=true) (h:Db P ⟨ro,av,true⟩ ops plan (Q .normal) s) :
  O5 P ⟨ro,av,true⟩ ops (Q .normal) ops.size (Array.replicate ops.size false) s:=by
 unfold Ib at hp;have hp0:=hp;unfold Hq at hp;simp only[Bool.and_eq_true]at hp;have hfil:(plan.filter fun i=>!(Array.replicate ops.size false).getD i true)=plan:=by
  refine List.filter_eq_self.2 fun i hi=>?_;have hlt:i<ops.size:=by
   have:=List.all_eq_true.1 hp.2.1.1.1.2 i hi;simpa[Nat.blt_eq]using this
  simp[hlt]
 have hcl:Sc ops (Array.replicate ops.size false):=fun i o ho hl e he hb=>by
  have hi:i<ops.size:=(Array.getElem?_eq_some_iff.1 ho).1;rw[Array.getD_eq_getD_getElem?,Array.getElem?_replicate,if_pos hi]at hl;cases hl
 refine Qy (cf:=⟨ro,av,true⟩) (q:=K9.no) (blk:=fun r=>r) rfl hp0 ops.size _ s ⟨fun _ h=>(by cases h),fun _ _ h=>(by cases h),fun _ h=>(by cases h),fun _ h=>(by cases h)⟩ Array.size_replicate hcl ?_ ?_
 ·rw[hfil];exact(of_decide_eq_true hp.2.1.1.2).2
 ·rw[hfil];exact h
theorem AW.rd2 {Q:Exit→St→Prop} {s:St} {id:Nat} (a b:Nat) (plan plan2:List Nat) (hm:P.follows .mixedOrders=true)
  (h1:Db P ⟨fun _=>false,fun _=>False,true⟩ ops plan (Q .normal) s) (h2:Db P ⟨fun _=>false,fun _=>False,true⟩ ops plan2 (Q .normal) s)
  (hok:Ce s.n ops=true:=by kernel_rfl) (hp1:Ib P (fun _=>false) (Ct ops a b) plan=true:=by kernel_rfl) (hp2:Ib P (fun _=>false) (Ct ops b a) plan2=true:=by kernel_rfl)
  (hab:Nat.beq a b=false:=by rfl) (hs:ops.toList.all Qm4=true:=by kernel_rfl):AW P (.region id ops true) Q s:=by
 intro F G w0 act w hr;refine wp_region_any hm ?_;have hok':∀i o,ops[i]?=some o→(Gu s.n o&&Jo ops s.n o)=true:=fun i o ho=>by
  unfold Ce at hok;exact List.all_eq_true.1 hok o (List.mem_of_getElem? (by rw[Array.getElem?_toList];exact ho))
 have hne:a≠b:=by intro e;subst e;simp at hab
 have q1:=Qes (Q:=Q) (ops:=Ct ops a b) _ _ plan hp1 (N6 a b plan s h1);have q2:=Qes (Q:=Q) (ops:=Ct ops b a) _ _ plan2 hp2 (N6 b a plan2 s h2);rw[Hz]at q1 q2;have hany:=Zz rfl (fun i o ho=>List.all_eq_true.1 hs o (List.mem_of_getElem? (by rw[Array.getElem?_toList];exact ho))) hne ops.size _ s Array.size_replicate q1 q2;have hd:Eb F G w0 s act {w with drawn:=w.drawn+1}:=hr.drew;exact Nq (F:=F) (G:=G) (w0:=w0) (cf:=⟨fun _=>false,fun _=>False,true⟩) s.n w.heap.size (fun _ h=>h.elim) (fun a w h=>h) hok' ops.size _ s act {w with drawn:=w.drawn+1} (Nat.le_refl _) rfl hd hany
end
end Go.Av
end
section
namespace Go.Av
open Go.Proofs Go.Lam
def hdO (o:Option Nat) (l:List Nat):AV:=match o with
 |none=>.nil
 |some b=>.osl b 1 0 l.length
def Hi (bs:List (Option Nat)) (cl:List (List Nat)):List AV:=List.zipWith hdO bs cl
def Ej (fl:List Nat):Nat→Nat:=fun v=>fl.getD v 0
def Dh (cl:List (List Nat)):Nat→List Nat:=fun v=>cl.getD v []
def Cx (es:List RE) (bf bc n:Nat):Ev:=⟨105,3,[.agg [.sl 6 (Ff es),.osl bf 1 0 n,.osl bc 1 0 n]]⟩
structure Dk (M:Ac) (n bg bf bc:Nat) (es:List RE) (fl:List Nat) (bs:List (Option Nat)) (cl:List (List Nat)):Prop where
 g:M bg=some (Cx es bf bc n)
 f:M bf=some ⟨3,1,Ax fl⟩
 c:M bc=some ⟨25,1,Hi bs cl⟩
 fll:fl.length=n
 bsl:bs.length=n
 cll:cl.length=n
 row:∀(i b:Nat),bs[i]?=some (some b)→M b=some ⟨3,1,Ax (Dh cl i)⟩
 nil:∀(i:Nat),bs[i]?=some none→Dh cl i=[]
 nd:bg≠bf∧bg≠bc∧bf≠bc
 ndr:∀(i b:Nat),bs[i]?=some (some b)→b≠bg∧b≠bf∧b≠bc
 inj:∀(i j b:Nat),bs[i]?=some (some b)→bs[j]?=some (some b)→i=j
def Bc (bg bf bc:Nat) (bs:List (Option Nat)):List Nat:=bg::bf::bc::bs.filterMap id
def Fm (M:Ac) (l:List Nat):Prop:=∀k,M k≠none→k∈l
theorem Bh {bg bf bc k:Nat} {bs:List (Option Nat)}:k∈Bc bg bf bc bs↔k=bg∨k=bf∨k=bc∨∃i:Nat,bs[i]?=some (some k):=by
 unfold Bc;simp only[List.mem_cons,List.mem_filterMap,id_eq,exists_eq_right];refine or_congr_right (or_congr_right (or_congr_right ?_));exact List.mem_iff_getElem?
section
variable {M:Ac} {n bg bf bc:Nat} {es:List RE} {fl:List Nat} {bs:List (Option Nat)} {cl:List (List Nat)}
theorem He (h:Dk M n bg bf bc es fl bs cl):(Hi bs cl).length=n:=by simp[Hi,h.bsl,h.cll]
theorem Lf (h:Dk M n bg bf bc es fl bs cl) {i:Nat} (hi:i<n):∃o,bs[i]?=some o∧(Hi bs cl)[i]?=some (hdO o (Dh cl i)):=by
 have h1:i<bs.length:=by rw[h.bsl];exact hi
 have h2:i<cl.length:=by rw[h.cll];exact hi
 refine⟨bs[i],List.getElem?_eq_getElem h1,?_⟩;unfold Hi;rw[List.getElem?_zipWith,List.getElem?_eq_getElem h1,List.getElem?_eq_getElem h2];simp[Dh,h2]
theorem Xs {i x:Nat} (hi:i<fl.length):Ej (fl.set i x)=Fg (Ej fl) i x:=by
 funext v
 unfold Ej Fg;rw[List.getD_eq_getElem?_getD,List.getElem?_set];by_cases h:i=v
 ·subst h;simp[hi]
 ·rw[if_neg h,if_neg (Ne.symm h),←List.getD_eq_getElem?_getD]
theorem Ok {i:Nat} {x:List Nat} (hi:i<cl.length):Dh (cl.set i x)=Fg (Dh cl) i x:=by
 funext v
 unfold Dh Fg;rw[List.getD_eq_getElem?_getD,List.getElem?_set];by_cases h:i=v
 ·subst h;simp[hi]
 ·rw[if_neg h,if_neg (Ne.symm h),←List.getD_eq_getElem?_getD]
theorem Dk.setF (h:Dk M n bg bf bc es fl bs cl) (i x:Nat):Dk (M.set bf ⟨3,1,Ax (fl.set i x)⟩) n bg bf bc es (fl.set i x) bs cl where
 g:=by rw[Ac.set_other _ _ h.nd.1];exact h.g
 f:=Ac.set_same _ _ _
 c:=by rw[Ac.set_other _ _ (Ne.symm h.nd.2.2)];exact h.c
 fll:=by rw[List.length_set,h.fll]
 bsl:=h.bsl
 cll:=h.cll
 row:=fun i b hb=>by rw[Ac.set_other _ _ (h.ndr i b hb).2.1];exact h.row i b hb
 nil:=h.nil
 nd:=h.nd
 ndr:=h.ndr
 inj:=h.inj
theorem Dk.setC (h:Dk M n bg bf bc es fl bs cl) {i b':Nat} {l':List Nat} (hi:i<n) (hf:b'≠bg∧b'≠bf∧b'≠bc) (hr:∀j:Nat,j≠i→bs[j]?≠some (some b')) {M':Ac} (h1:M' bg=M bg) (h2:M' bf=M bf)
  (h3:M' bc=some ⟨25,1,(Hi bs cl).set i (.osl b' 1 0 l'.length)⟩) (h4:M' b'=some ⟨3,1,Ax l'⟩) (h5:∀(j b:Nat),j≠i→bs[j]?=some (some b)→M' b=M b):Dk M' n bg bf bc es fl (bs.set i (some b')) (cl.set i l') where
 g:=by rw[h1];exact h.g
 f:=by rw[h2];exact h.f
 c:=by
  rw[h3]
  congr 2
  refine List.ext_getElem? fun k=>?_;unfold Hi;rw[List.getElem?_set,List.length_zipWith,List.getElem?_zipWith,List.getElem?_zipWith,List.getElem?_set,List.getElem?_set,h.bsl,h.cll];by_cases hk:i=k
  ·subst hk;simp[hi,hdO]
  ·simp[hk]
 fll:=h.fll
 bsl:=by rw[List.length_set,h.bsl]
 cll:=by rw[List.length_set,h.cll]
 row:=fun j b hb=>by
  rw[Ok (by rw[h.cll];exact hi)];unfold Fg;rw[List.getElem?_set]at hb;by_cases hj:i=j
  ·subst hj;rw[if_pos rfl,if_pos (by rw[h.bsl];exact hi)]at hb;cases hb;rw[if_pos rfl,h4]
  ·rw[if_neg hj]at hb;rw[if_neg (Ne.symm hj),h5 j b (Ne.symm hj) hb,h.row j b hb]
 nil:=fun j hb=>by
  rw[Ok (by rw[h.cll];exact hi)];unfold Fg;rw[List.getElem?_set]at hb;by_cases hj:i=j
  ·subst hj;rw[if_pos rfl,if_pos (by rw[h.bsl];exact hi)]at hb;cases hb
  ·rw[if_neg hj]at hb;rw[if_neg (Ne.symm hj)];exact h.nil j hb
 nd:=h.nd
 ndr:=fun j b hb=>by
  rw[List.getElem?_set]at hb;by_cases hj:i=j
  ·subst hj;rw[if_pos rfl,if_pos (by rw[h.bsl];exact hi)]at hb;cases hb;exact hf
  ·rw[if_neg hj]at hb;exact h.ndr j b hb
 inj:=fun j k b hj hk=>by
  rw[List.getElem?_set]at hj hk;by_cases e1:i=j<;>by_cases e2:i=k
  ·omega
  ·subst e1;rw[if_pos rfl,if_pos (by rw[h.bsl];exact hi)]at hj;rw[if_neg e2]at hk;cases hj;exact absurd hk (hr k (Ne.symm e2))
  ·subst e2;rw[if_pos rfl,if_pos (by rw[h.bsl];exact hi)]at hk;rw[if_neg e1]at hj;cases hk;exact absurd hj (hr j (Ne.symm e1))
  ·rw[if_neg e1]at hj;rw[if_neg e2]at hk;exact h.inj j k b hj hk
theorem Dk.congr (h:Dk M n bg bf bc es fl bs cl) {M':Ac} (hm:∀k∈Bc bg bf bc bs,M' k=M k):Dk M' n bg bf bc es fl bs cl where
 g:=by rw[hm bg (Bh.2 (.inl rfl))];exact h.g
 f:=by rw[hm bf (Bh.2 (.inr (.inl rfl)))];exact h.f
 c:=by rw[hm bc (Bh.2 (.inr (.inr (.inl rfl))))];exact h.c
 fll:=h.fll
 bsl:=h.bsl
 cll:=h.cll
 row:=fun i b hb=>by rw[hm b (Bh.2 (.inr (.inr (.inr ⟨i,hb⟩))))];exact h.row i b hb
 nil:=h.nil
 nd:=h.nd
 ndr:=h.ndr
 inj:=h.inj
end
theorem Qed (bg:Nat) (es:List RE) (bf bc n:Nat):∀c y,Ac.emp.set bg (Cx es bf bc n) c=some y→∀v∈y.l,v.cells.all AV.one=true:=by
 intro c y hy v hv;simp only[A6,Aw]at hy;split at hy
 ·cases hy;simp only[Cx,List.mem_singleton]at hv;subst hv;rfl
 ·cases hy
theorem Sz (bg bf bc n:Nat) (es:List RE) (e j:Nat) (he:e<es.length) (hes:Ly 12 es) (hj:j=(Ah es e).1∨j=(Ah es e).2) :
  Ai Tryz.prog 125 [.ptr bg 3 0 0,.int .i64 (e:Nat),.int .i64 (j:Nat)] (Ac.emp.set bg (Cx es bf bc n)) fun v m=>∃x',(v=.int .i64 (Gj (Ah es) e j:Nat)∧x'=Cx es bf bc n)∧m=Ac.emp.set bg x':=by
 obtain⟨e1,e2,e3⟩:=hes e he;have hlt:=e3.1;have hlt2:=e3.2.1;have ho:(Gj (Ah es) e j:Int)=((Ah es e).1:Int)+((Ah es e).2:Int)-(j:Int):=by unfold Gj;omega
 refine Ad Tryz.func125 rfl rfl 26 rfl (Nat.le_of_ble_eq_true rfl) ?_;(repeat refine AW.seq_k fun K hK=>?_);refine AW.rg ?_;simp[Al];try (refine hK _ rfl ?_;clear hK K)
 unfold Cx;(repeat refine AW.seq_k fun K hK=>?_);refine AW.rdL [bg] [0,1,2,3,4,5,6,7,8,9,10,11,12,13,14,15,16,17,18,19] C6 (by simp) ?_;have w1:IntKind.i64.wrap ((Ip es e).a+(Ip es e).b)=(Ip es e).a+(Ip es e).b:=Oc (by omega);have w2:IntKind.i64.wrap ((Ip es e).a+(Ip es e).b-(j:Int))=(Ip es e).a+(Ip es e).b-(j:Int):=Oc (by omega);simp[he,C1,w1,w2];try (refine hK _ rfl ?_;clear hK K)
 exact AW.ret (Bo rfl (Qed bg es bf bc n) ⟨Cx es bf bc n,⟨by rw[ho,←e1,←e2];rfl,rfl⟩,rfl⟩)
end Go.Av
end
section
namespace Go.Av
open Go.Proofs Go.Lam
theorem Qi1 (n:Nat):Hi (List.replicate n none) (List.replicate n [])=List.replicate n .nil:=by
 simp[Hi,hdO,List.zipWith_replicate]
theorem R9 (n i:Nat):Dh (List.replicate n []) i=[]:=by
 unfold Dh;rw[List.getD_eq_getElem?_getD,List.getElem?_replicate];split<;>rfl
theorem Ys {M:Ac} {n bg bf bc:Nat} {es:List RE} (h1:M bg=some (Cx es bf bc n)) (h2:M bf=some ⟨3,1,Ax (List.replicate n 0)⟩) (h3:M bc=some ⟨25,1,List.replicate n .nil⟩) (hd:bg≠bf∧bg≠bc∧bf≠bc) :
  Dk M n bg bf bc es (List.replicate n 0) (List.replicate n none) (List.replicate n []) where
 g:=h1
 f:=h2
 c:=by rw[Qi1];exact h3
 fll:=List.length_replicate
 bsl:=List.length_replicate
 cll:=List.length_replicate
 row:=fun i b hb=>by rw[List.getElem?_replicate]at hb;split at hb<;>simp at hb
 nil:=fun i _=>R9 n i
 nd:=hd
 ndr:=fun i b hb=>by rw[List.getElem?_replicate]at hb;split at hb<;>simp at hb
 inj:=fun i j b hb _=>by rw[List.getElem?_replicate]at hb;split at hb<;>simp at hb
theorem Fm.set {M:Ac} {l:List Nat} (h:Fm M l) {b:Nat} (x:Ev) (hb:b∈l):Fm (M.set b x) l:=fun k hk=>by
 by_cases e:k=b
 ·rw[e];exact hb
 ·rw[Ac.set_other _ _ e]at hk;exact h k hk
theorem Jh (bs:List (Option Nat)) (cl:List (List Nat)):∀v∈Hi bs cl,v.cells.all AV.one=true:=by
 intro v hv;unfold Hi at hv;obtain⟨i,hi⟩:=List.getElem?_of_mem hv;rw[List.getElem?_zipWith]at hi;split at hi
 ·rename_i o l _ _
  cases hi;cases o<;>rfl
 ·cases hi
theorem H0 {M:Ac} {n bg bf bc:Nat} {es:List RE} {fl:List Nat} {bs:List (Option Nat)} {cl:List (List Nat)} (h:Dk M n bg bf bc es fl bs cl) (ho:Fm M (Bc bg bf bc bs)):∀c y,M c=some y→∀v∈y.l,v.cells.all AV.one=true:=by
 intro c y hy v hv;rcases Bh.1 (ho c (by rw[hy];simp))with rfl | rfl | rfl | ⟨i,hi⟩
 ·rw[h.g]at hy;cases hy;simp only[Cx,List.mem_singleton]at hv;subst hv;rfl
 ·rw[h.f]at hy;cases hy;exact Cu _ v hv
 ·rw[h.c]at hy;cases hy;exact Jh _ _ v hv
 ·rw[h.row i c hi]at hy;cases hy;exact Cu _ v hv
theorem Dk.dom {M:Ac} {n bg bf bc:Nat} {es:List RE} {fl:List Nat} {bs:List (Option Nat)} {cl:List (List Nat)} (h:Dk M n bg bf bc es fl bs cl) {k:Nat} (hk:k∈Bc bg bf bc bs):M k≠none:=by
 rcases Bh.1 hk with rfl|rfl|rfl|⟨i,hi⟩
 ·rw[h.g];simp
 ·rw[h.f];simp
 ·rw[h.c];simp
 ·rw[h.row i k hi];simp
theorem Qno {M:Ac} {bg bf bc:Nat} {bs:List (Option Nat)} (h:∀k,M k≠none→k=bg∨k=bf∨k=bc):Fm M (Bc bg bf bc bs):=fun k hk=>by
 rw[Bh];rcases h k hk with h | h | h
 ·exact .inl h
 ·exact .inr (.inl h)
 ·exact .inr (.inr (.inl h))
theorem Qcl (n:Nat) (es:List RE) (hn:n≤12):Ai Tryz.prog 81 [.int .i64 (n:Nat),A8 es] Ac.emp fun v m=>∃bg bf bc,v=.ptr bg 3 0 0∧Dk m n bg bf bc es (List.replicate n 2) (List.replicate n none) (List.replicate n [])∧Fm m (Bc bg bf bc (List.replicate n none)):=by
 refine Ad Tryz.func81 rfl rfl 26 rfl (Nat.le_of_ble_eq_true rfl) ?_;unfold A8;(repeat refine AW.seq_k fun K hK=>?_);refine AW.rg ?_;simp[Al];try (refine hK _ rfl ?_;clear hK K)
 refine AW.seq_ex (ι:=Ac × Nat × Nat × Nat) (fun z=>[(0,.int .i64 (n:Nat)),(5,.ptr z.2.1 3 0 0)]) (fun z=>z.1) (fun z=>Dk z.1 n z.2.1 z.2.2.1 z.2.2.2 es (List.replicate n 0) (List.replicate n none) (List.replicate n [])∧Fm z.1 (Bc z.2.1 z.2.2.1 z.2.2.2 (List.replicate n none))) ?_ ?_
 ·refine AW.rd2 2 4 [0,1,3,2,4,5,6,7] [0,1,3,4,2,5,6,7] C6 ?_ ?_
  ·simp;refine⟨by omega,Af.intro fun bf h1=>⟨by omega,Af.intro fun bc h2=>Af.intro fun bg h3=>?_⟩⟩;simp only[Am,Aw,and_true]at h2 h3;exact⟨bf,bc,Ys (by simp[Cx]) (by simp[A6,h2,h3,Ax]) (by simp[A6,h2,h3]) ⟨h3.2.1,h3.1.1,h2.2⟩,Qno (fun k hk=>by
    simp only[A6,Aw]at hk;split at hk
    ·exact .inl (by assumption)
    ·split at hk
     ·exact .inr (.inr (by assumption))
     ·split at hk
      ·exact .inr (.inl (by assumption))
      ·exact absurd rfl hk)⟩
  ·simp;refine⟨by omega,Af.intro fun bc h1=>⟨by omega,Af.intro fun bf h2=>Af.intro fun bg h3=>?_⟩⟩;simp only[Am,Aw,and_true]at h2 h3;exact⟨bf,bc,Ys (by simp[Cx]) (by simp[A6,h2,h3,Ax]) (by simp[A6,h2,h3]) ⟨h3.1.1,h3.2.1,h2.1⟩,Qno (fun k hk=>by
    simp only[A6,Aw]at hk;split at hk
    ·exact .inl (by assumption)
    ·split at hk
     ·exact .inr (.inl (by assumption))
     ·split at hk
      ·exact .inr (.inr (by assumption))
      ·exact absurd rfl hk)⟩
 rintro⟨M,bg,bf,bc⟩ ⟨hg,ho⟩;simp only at hg ho ⊢;refine AW.seq_ex (ι:=Ac) (fun _=>[(5,.ptr bg 3 0 0)]) (fun M=>M) (fun M=>Dk M n bg bf bc es (List.replicate n 2) (List.replicate n none) (List.replicate n [])∧Fm M (Bc bg bf bc (List.replicate n none))) ?_ ?_
 ·(repeat refine AW.seq_k fun K hK=>?_);refine AW.rg ?_;simp;try (refine hK _ rfl ?_;clear hK K)
  refine AW.block (AW.loopS (ι:=Ac × Nat) (fun z=>[(5,.ptr bg 3 0 0),(14,.int .i64 (n:Nat)),(15,.int .i64 (z.2:Nat))]) (fun z=>z.1)
   (fun z=>z.2≤n∧Dk z.1 n bg bf bc es (List.replicate z.2 2++List.replicate (n-z.2) 0) (List.replicate n none) (List.replicate n [])∧Fm z.1 (Bc bg bf bc (List.replicate n none))) (fun z=>n-z.2) (M,0) ⟨by simp,by simpa using hg,ho⟩ rfl (by simp) ?_)
  rintro⟨M,i⟩ ⟨g1,g2,g3⟩;simp only at g1 g2 g3;(repeat refine AW.seq_k fun K hK=>?_);refine AW.rg ?_;simp;try (refine hK _ rfl ?_;clear hK K)
  (repeat refine AW.seq ?_);refine AW.cs (fun hi=>?_) (fun hi=>?_) rfl<;>(try simp at hi)
  ·refine AW.skip ?_;try simp
   try (refine hK _ rfl ?_;clear hK K)
   have w1:=Au (i+1) (by omega);have m1:=g2.g;have m2:=g2.f;have hfl:=g2.fll;have g4:=g2.setF i 2;rw[List.set_append_right _ _ (by simp),List.length_replicate,Nat.sub_self,show n-i=(n-(i+1))+1 by omega,List.replicate_succ,List.set_cons_zero]at g4;unfold Cx at m1;(repeat refine AW.seq ?_);refine AW.block ?_;(repeat refine AW.seq_k fun K hK=>?_);refine AW.rg ?_;simp;try (refine hK _ rfl ?_;clear hK K)
   (repeat refine AW.seq_k fun K hK=>?_);refine AW.rg ?_;simp[m1,m2,hi,hfl];try (refine hK _ rfl ?_;clear hK K)
   (repeat refine AW.seq_k fun K hK=>?_);refine AW.rg ?_;simp[-Int.natCast_add,w1];try (refine hK _ rfl ?_;clear hK K)
   have e:List.replicate i 2++2::List.replicate (n-(i+1)) 0=List.replicate (i+1) 2++List.replicate (n-(i+1)) 0:=by rw[List.replicate_succ',List.append_assoc];rfl
   rw[e]at g4;refine⟨_,i+1,⟨by omega,g4,g3.set _ (Bh.2 (.inr (.inl rfl)))⟩,by omega,?_,rfl⟩;rw[←e]
   congr 2
   show(Ax (List.replicate i 2++List.replicate (n-i) 0)).set i (.int .i64 ((2:Nat):Int))=_
   rw[Jq,List.set_append_right _ _ (by simp),List.length_replicate,Nat.sub_self,show n-i=(n-(i+1))+1 by omega,List.replicate_succ,List.set_cons_zero]
  ·refine AW.exit ?_;try simp
   rw[show i=n by omega,Nat.sub_self,List.replicate_zero,List.append_nil]at g2;exact⟨g2,g3⟩
 rintro M ⟨hg,ho⟩;(repeat refine AW.seq_k fun K hK=>?_);refine AW.rg ?_;simp;try (refine hK _ rfl ?_;clear hK K)
 exact AW.ret (Bo rfl (H0 hg ho) ⟨bg,bf,bc,rfl,hg,ho⟩)
end Go.Av
end
section
namespace Go.Av
open Go.Proofs Go.Lam
def bools (l:List Bool):List AV:=l.map .bool
@[simp] theorem Qmm (l:List Bool):(bools l).length=l.length:=by simp[bools]
@[simp] theorem Quq {l:List Bool} {i:Nat} (h:i<(bools l).length):(bools l)[i]=.bool (l[i]'(by simpa using h)):=by simp[bools]
theorem F2 (l:List Bool) (i:Nat) (x:Bool):(bools l).set i (.bool x)=bools (l.set i x):=by unfold bools;rw[List.map_set]
theorem Mc (l:List Bool):∀v∈bools l,v.cells.all AV.one=true:=by
 intro v hv;obtain⟨x,_,rfl⟩:=List.mem_map.1 hv;rfl
def Fu (sn:List Bool):Nat→Bool:=fun v=>sn.getD v false
theorem Kr {sn:List Bool} {i:Nat} {x:Bool} (hi:i<sn.length):Fu (sn.set i x)=Fg (Fu sn) i x:=by
 funext v
 unfold Fu Fg;rw[List.getD_eq_getElem?_getD,List.getElem?_set];by_cases h:i=v
 ·subst h;simp[hi]
 ·rw[if_neg h,if_neg (Ne.symm h),←List.getD_eq_getElem?_getD]
theorem Se {sn:List Bool} {i:Nat} (hi:i<sn.length):Fu sn i=sn[i]:=by unfold Fu;rw[List.getD_eq_getElem?_getD,List.getElem?_eq_getElem hi];rfl
theorem Fq {fl:List Nat} {i:Nat} (hi:i<fl.length):fl[i]=Ej fl i:=by unfold Ej;rw[List.getD_eq_getElem?_getD,List.getElem?_eq_getElem hi];rfl
def Ga (sn:List Bool):Nat:=sn.countP fun b=>!b
theorem S2 {sn:List Bool} {i:Nat} (hi:i<sn.length) (h:sn[i]=false):Ga (sn.set i true)+1=Ga sn:=by
 unfold Ga;rw[List.countP_set hi];have hp:0<sn.countP fun b=>!b:=List.countP_pos_iff.2 ⟨sn[i],List.getElem_mem hi,by rw[h];rfl⟩;simp[h];omega
def Qq1 (bg bx c3 n:Nat):AV:=.fn 195 [.rptr [.ptr bg 3 0 0],.rptr [.osl bx 1 0 n],.ptr c3 1 0 0]
structure Jf (M:Ac) (n bg bf bc bx c3:Nat) (es:List RE) (fl:List Nat) (bs:List (Option Nat)) (cl:List (List Nat)) (sn:List Bool):Prop where
 game:Dk M n bg bf bc es fl bs cl
 seen:M bx=some ⟨4,1,bools sn⟩
 snl:sn.length=n
 cell:M c3=some ⟨100,1,[Qq1 bg bx c3 n]⟩
 off:∀k∈Bc bg bf bc bs,k≠bx∧k≠c3
 xc:bx≠c3
 only:Fm M (bx::c3::Bc bg bf bc bs)
section
variable {M:Ac} {n bg bf bc bx c3:Nat} {es:List RE} {fl:List Nat} {bs:List (Option Nat)} {cl:List (List Nat)} {sn:List Bool}
theorem Jf.look (h:Jf M n bg bf bc bx c3 es fl bs cl sn) (i:Nat):Jf (M.set bx ⟨4,1,bools (sn.set i true)⟩) n bg bf bc bx c3 es fl bs cl (sn.set i true) where
 game:=h.game.congr fun k hk=>Ac.set_other _ _ (h.off k hk).1
 seen:=Ac.set_same _ _ _
 snl:=by rw[List.length_set,h.snl]
 cell:=by rw[Ac.set_other _ _ (Ne.symm h.xc)];exact h.cell
 off:=h.off
 xc:=h.xc
 only:=h.only.set _ (by simp)
theorem Jf.setF (h:Jf M n bg bf bc bx c3 es fl bs cl sn) (i x:Nat):Jf (M.set bf ⟨3,1,Ax (fl.set i x)⟩) n bg bf bc bx c3 es (fl.set i x) bs cl sn where
 game:=h.game.setF i x
 seen:=by rw[Ac.set_other _ _ (Ne.symm (h.off bf (Bh.2 (.inr (.inl rfl)))).1)];exact h.seen
 snl:=h.snl
 cell:=by rw[Ac.set_other _ _ (Ne.symm (h.off bf (Bh.2 (.inr (.inl rfl)))).2)];exact h.cell
 off:=h.off
 xc:=h.xc
 only:=h.only.set _ (by simp[Bc])
theorem Qih {i b' k:Nat} (hi:i<bs.length) (hk:k∈Bc bg bf bc (bs.set i (some b'))):k=b'∨k∈Bc bg bf bc bs:=by
 rcases Bh.1 hk with h|h|h|⟨j,hj⟩
 ·exact .inr (Bh.2 (.inl h))
 ·exact .inr (Bh.2 (.inr (.inl h)))
 ·exact .inr (Bh.2 (.inr (.inr (.inl h))))
 ·rw[List.getElem?_set]at hj;by_cases e:i=j
  ·rw[if_pos e,if_pos hi]at hj;cases hj;exact .inl rfl
  ·rw[if_neg e]at hj;exact .inr (Bh.2 (.inr (.inr (.inr ⟨j,hj⟩))))
theorem Jf.dom (h:Jf M n bg bf bc bx c3 es fl bs cl sn) {k:Nat} (hk:k∈bx::c3::Bc bg bf bc bs):M k≠none:=by
 simp only[List.mem_cons]at hk;rcases hk with rfl | rfl | hk
 ·rw[h.seen];simp
 ·rw[h.cell];simp
 ·rcases Bh.1 hk with rfl|rfl|rfl|⟨i,hi⟩
  ·rw[h.game.g];simp
  ·rw[h.game.f];simp
  ·rw[h.game.c];simp
  ·rw[h.game.row i k hi];simp
theorem Jf.ones (h:Jf M n bg bf bc bx c3 es fl bs cl sn):∀c y,M c=some y→∀v∈y.l,v.cells.all AV.one=true:=by
 intro c y hy v hv;have hc:=h.only c (by rw[hy];simp);simp only[List.mem_cons]at hc;rcases hc with rfl | rfl | hc
 ·rw[h.seen]at hy;cases hy;exact Mc _ v hv
 ·rw[h.cell]at hy;cases hy;simp only[List.mem_singleton]at hv;subst hv;rfl
 ·rcases Bh.1 hc with rfl|rfl|rfl|⟨i,hi⟩
  ·rw[h.game.g]at hy;cases hy;simp only[Cx,List.mem_singleton]at hv;subst hv;rfl
  ·rw[h.game.f]at hy;cases hy;exact Cu _ v hv
  ·rw[h.game.c]at hy;cases hy;exact Jh _ _ v hv
  ·rw[h.game.row i c hi]at hy;cases hy;exact Cu _ v hv
theorem Jf.setC (h:Jf M n bg bf bc bx c3 es fl bs cl sn) {i b':Nat} {l':List Nat} (hi:i<n) (hf:b' ∉ bx::c3::Bc bg bf bc bs∨bs[i]?=some (some b')) {M':Ac}
  (h3:M' bc=some ⟨25,1,(Hi bs cl).set i (.osl b' 1 0 l'.length)⟩) (h4:M' b'=some ⟨3,1,Ax l'⟩) (h5:∀k∈bx::c3::Bc bg bf bc bs,k≠b'→k≠bc→bs[i]?≠some (some k)→M' k=M k)
  (h6:∀k,M' k≠none→k=b'∨k∈bx::c3::Bc bg bf bc bs∧(bs[i]?=some (some k)→k=b')):Jf M' n bg bf bc bx c3 es fl (bs.set i (some b')) (cl.set i l') sn:=by
 have hib:i<bs.length:=by rw[h.game.bsl];exact hi
 have hb':b'≠bg∧b'≠bf∧b'≠bc∧b'≠bx∧b'≠c3:=by
  rcases hf with hf|hf
  ·simp only[Bc,List.mem_cons,not_or]at hf;exact⟨hf.2.2.1,hf.2.2.2.1,hf.2.2.2.2.1,hf.1,hf.2.1⟩
  ·have h1:=h.game.ndr i b' hf;have h2:=h.off b' (Bh.2 (.inr (.inr (.inr ⟨i,hf⟩))));exact⟨h1.1,h1.2.1,h1.2.2,h2.1,h2.2⟩
 have hn1:bs[i]?≠some (some bg):=fun e=>(h.game.ndr i bg e).1 rfl;have hn2:bs[i]?≠some (some bf):=fun e=>(h.game.ndr i bf e).2.1 rfl;have hn3:bs[i]?≠some (some bx):=fun e=>(h.off bx (Bh.2 (.inr (.inr (.inr ⟨i,e⟩))))).1 rfl;have hn4:bs[i]?≠some (some c3):=fun e=>(h.off c3 (Bh.2 (.inr (.inr (.inr ⟨i,e⟩))))).2 rfl;have hbc:=h.off bc (Bh.2 (.inr (.inr (.inl rfl))));have hrow:∀j,j≠i→bs[j]?≠some (some b'):=fun j hj e=>by
  rcases hf with hf|hf
  ·exact hf (by simp only[List.mem_cons];exact .inr (.inr (Bh.2 (.inr (.inr (.inr ⟨j,e⟩))))))
  ·exact hj (h.game.inj j i b' e hf)
 refine⟨h.game.setC hi ⟨hb'.1,hb'.2.1,hb'.2.2.1⟩ hrow ?_ ?_ h3 h4 ?_,?_,h.snl,?_,?_,h.xc,?_⟩
 ·exact h5 bg (by simp[Bc]) (Ne.symm hb'.1) h.game.nd.2.1 hn1
 ·exact h5 bf (by simp[Bc]) (Ne.symm hb'.2.1) h.game.nd.2.2 hn2
 ·intro j b hj hb;have hm:b∈Bc bg bf bc bs:=Bh.2 (.inr (.inr (.inr ⟨j,hb⟩)));exact h5 b (by simp only[List.mem_cons];exact .inr (.inr hm)) (fun e=>hrow j hj (e ▸ hb)) (h.game.ndr j b hb).2.2 (fun e=>hj (h.game.inj j i b hb e))
 ·rw[h5 bx (by simp) (Ne.symm hb'.2.2.2.1) (Ne.symm hbc.1) hn3];exact h.seen
 ·rw[h5 c3 (by simp) (Ne.symm hb'.2.2.2.2) (Ne.symm hbc.2) hn4];exact h.cell
 ·intro k hk;rcases Qih hib hk with rfl | hk
  ·exact⟨hb'.2.2.2.1,hb'.2.2.2.2⟩
  ·exact h.off k hk
 ·intro k hk;simp only[List.mem_cons];rcases h6 k hk with rfl | ⟨hk,hk2⟩
  ·exact .inr (.inr (Bh.2 (.inr (.inr (.inr ⟨i,by rw[List.getElem?_set,if_pos rfl,if_pos hib]⟩)))))
  ·simp only[List.mem_cons]at hk;rcases hk with hk | hk | hk
   ·exact .inl hk
   ·exact .inr (.inl hk)
   ·refine .inr (.inr (Bh.2 ?_));rcases Bh.1 hk with hk | hk | hk | ⟨j,hj⟩
    ·exact .inl hk
    ·exact .inr (.inl hk)
    ·exact .inr (.inr (.inl hk))
    ·by_cases hij:i=j
     ·subst hij;rw[hk2 hj];exact .inr (.inr (.inr ⟨i,by rw[List.getElem?_set,if_pos rfl,if_pos hib]⟩))
     ·exact .inr (.inr (.inr ⟨j,by rw[List.getElem?_set,if_neg hij];exact hj⟩))
end
end Go.Av
end
section
namespace Go.Av
open Go.Proofs Go.Lam
structure VSt where
 M:Ac
 fl:List Nat
 bs:List (Option Nat)
 cl:List (List Nat)
 sn:List Bool
def Qvz (n bg bf bc bx c3:Nat) (es:List RE) (A:List Nat) (fl:List Nat) (bs:List (Option Nat)) (cl:List (List Nat)) (sn:List Bool) (j:Nat) (v:AV) (M':Ac):Prop :=
 ∃ok:Bool,v=.bool ok∧∃(fl':List Nat) (bs':List (Option Nat)) (cl':List (List Nat)) (sn':List Bool),Jf M' n bg bf bc bx c3 es fl' bs' cl' sn' ∧
  (ok=false→fl'=fl∧bs'=bs∧cl'=cl∧Ku n (Ah es) (Ej fl) (Dh cl) (Fu sn) (Fu sn')∧∀e∈Dh cl j,Fu sn' (Gj (Ah es) e j)=true) ∧
  (ok=true→Got n (Ah es) A (Fu sn) j (Ej fl) (Dh cl) (Ej fl') (Dh cl')∧∀v,Fu sn v=true→Fu sn' v=true)
theorem set_self {m:Ac} {b:Nat} {x:Ev} (h:m b=some x):m.set b x=m:=by
 funext k
 by_cases e:k=b
 ·subst e;rw[Ac.set_same,h]
 ·rw[Ac.set_other _ _ e]
theorem Vw {n:Nat} {E:Nat→Ed} {fr:Nat→Nat} {cv:Nat→List Nat} {s t:List Bool} (h:Ku n E fr cv (Fu s) (Fu t)) (hs:s.length=n) (ht:t.length=n):Ga t≤Ga s:=by
 have key:∀{s t:List Bool},s.length=t.length→(∀i,Fu s i=true→Fu t i=true)→Ga t≤Ga s:=by
  intro s
  induction s with
  |nil=>intro t hl _;cases t with
   |nil=>exact Nat.le_refl _
   |cons b t=>simp at hl
  |cons a s ih=>intro t hl hi;cases t with
   |nil=>simp at hl
   |cons b t =>
    have h1:=ih (t:=t) (by simpa using hl) (fun i hi'=>by have:=hi (i+1);simp[Fu]at this;simpa[Fu]using this (by simpa[Fu]using hi'));have h2:=hi 0;simp[Fu]at h2;unfold Ga at *;rw[List.countP_cons,List.countP_cons];cases a<;>cases b<;>simp_all
    omega
 exact key (by rw[hs,ht]) h.sub
theorem Jj {l:List Nat} {i e:Nat} (hi:i<l.length) (he:l[i]=e):l.take (i+1)=l.take i++[e]:=by
 rw[List.take_add_one,List.getElem?_eq_getElem hi,he];rfl
theorem Qdj (n bg bf bc bx c3:Nat) (es:List RE) (A:List Nat) (hn:n≤12) (hes:Ly n es) (hA:∀e∈A,e<es.length) :
  ∀(fuel:Nat) (M:Ac) (fl:List Nat) (bs:List (Option Nat)) (cl:List (List Nat)) (sn:List Bool) (j:Nat),Ga sn≤fuel→Jf M n bg bf bc bx c3 es fl bs cl sn→Inv n (Ah es) A (Ej fl) (Dh cl)→j<n→Fu sn j=true →
   Ai Tryz.prog 195 [.int .i64 (j:Nat),.rptr [.ptr bg 3 0 0],.rptr [.osl bx 1 0 n],.ptr c3 1 0 0] M (Qvz n bg bf bc bx c3 es A fl bs cl sn j):=by
 have hes12:Ly 12 es:=fun i hi=>⟨(hes i hi).1,(hes i hi).2.1,by have:=(hes i hi).2.2;exact⟨by have:=this.1;omega,by have:=this.2.1;omega,this.2.2⟩⟩;intro fuel
 induction fuel using Nat.strongRecOn with
 |ind fuel IH =>
 intro M fl bs cl sn j hu hV hI hj hjs;refine Ad Tryz.func195 rfl rfl 99 rfl (Nat.le_of_ble_eq_true rfl) ?_;(repeat refine AW.seq_k fun K hK=>?_);refine AW.rg ?_;simp[Al];try (refine hK _ rfl ?_;clear hK K)
 have m1:=hV.game.g;have m3:=hV.game.c;have hhl:=He hV.game;obtain⟨o,ho,hget⟩:=Lf hV.game hj;unfold Cx at m1;have hjh:j<(Hi bs cl).length:=by rw[hhl];exact hj
 have hgel:(Hi bs cl)[j]=hdO o (Dh cl j):=by rw[List.getElem?_eq_getElem hjh]at hget;exact Option.some.inj hget
 cases o with
 |none =>
  have hc0:=hV.game.nil j ho;simp only[hdO]at hgel;have hone:=hV.ones;refine AW.seq_ex (ι:=Unit) (fun _=>[]) (fun _=>M) (fun _=>True) ?_ ?_
  ·(repeat refine AW.seq_k fun K hK=>?_);refine AW.rg ?_;simp[m1,m3,hj,hhl,hgel];try (refine hK _ rfl ?_;clear hK K)
   refine AW.block (AW.loopS (ι:=Unit) (fun _=>[(16,.int .i64 0),(17,.int .i64 0)]) (fun _=>M) (fun _=>True) (fun _=>0) () trivial rfl (by simp) ?_);intro _ _;(repeat refine AW.seq_k fun K hK=>?_);refine AW.rg ?_;simp;try (refine hK _ rfl ?_;clear hK K)
   (repeat refine AW.seq ?_);refine AW.no ?_ rfl;refine AW.exit ?_;try simp
  ·rintro _ _;(repeat refine AW.seq_k fun K hK=>?_);refine AW.rg ?_;simp;try (refine hK _ rfl ?_;clear hK K)
   exact AW.ret (Bo rfl hone ⟨false,rfl,fl,bs,cl,sn,hV,fun _=>⟨rfl,rfl,rfl,Ku.refl _,fun e he=>by rw[hc0]at he;cases he⟩,fun h=>by cases h⟩)
 |some b =>
  simp only[hdO]at hgel;have hrow:=hV.game.row j b ho;have hlen2:(Dh cl j).length≤2:=by have:=hI.two j hj;omega
  refine AW.seq_ex (ι:=Ac × List Bool) (fun _=>[]) (fun z=>z.1) (fun z=>Jf z.1 n bg bf bc bx c3 es fl bs cl z.2∧Ku n (Ah es) (Ej fl) (Dh cl) (Fu sn) (Fu z.2)∧∀e∈Dh cl j,Fu z.2 (Gj (Ah es) e j)=true) ?_ ?_
  ·(repeat refine AW.seq_k fun K hK=>?_);refine AW.rg ?_;simp[m1,m3,hj,hhl,hgel];try (refine hK _ rfl ?_;clear hK K)
   refine AW.block (AW.loopS (ι:=Ac × List Bool × Nat) (fun z=>[(0,.int .i64 (j:Nat)),(1,.rptr [.ptr bg 3 0 0]),(2,.rptr [.osl bx 1 0 n]),(3,.ptr c3 1 0 0),(15,.osl b 1 0 (Dh cl j).length),(16,.int .i64 ((Dh cl j).length:Nat)),(17,.int .i64 (z.2.2:Nat))]) (fun z=>z.1)
    (fun z=>z.2.2≤(Dh cl j).length∧Jf z.1 n bg bf bc bx c3 es fl bs cl z.2.1∧Ku n (Ah es) (Ej fl) (Dh cl) (Fu sn) (Fu z.2.1)∧∀e∈(Dh cl j).take z.2.2,Fu z.2.1 (Gj (Ah es) e j)=true)
    (fun z=>(Dh cl j).length-z.2.2) (M,sn,0) ⟨by simp,hV,Ku.refl _,by simp⟩ rfl (by simp) ?_)
   rintro⟨M1,s1,i⟩ ⟨g1,g2,g3,g4⟩;simp only at g1 g2 g3 g4;(repeat refine AW.seq_k fun K hK=>?_);refine AW.rg ?_;simp;try (refine hK _ rfl ?_;clear hK K)
   (repeat refine AW.seq ?_);refine AW.cs (fun hi=>?_) (fun hi=>?_) rfl<;>(try simp at hi)
   ·refine AW.skip ?_;try simp
    try (refine hK _ rfl ?_;clear hK K)
    have w1:=Au (i+1) (by omega);have r1:=g2.game.row j b ho;have r2:=g2.seen;have hsl:=g2.snl;obtain⟨e,he⟩:∃e,(Dh cl j)[i]=e:=⟨_,rfl⟩;have heM:e∈Dh cl j:=he ▸ List.getElem_mem hi;have hei:(Dh cl j)[i]?=some e:=by rw[List.getElem?_eq_getElem hi,he]
    have hel:e<es.length:=hA e (hI.mem hj heM);have hend:=hI.ends j hj e heM;obtain⟨hn1,hn2⟩:=hI.oth_lt hj heM;have htk:=Jj hi he;(repeat refine AW.seq ?_);refine AW.block ?_;(repeat refine AW.seq_k fun K hK=>?_);refine AW.rg ?_;simp[r1,hi,he];try (refine hK _ rfl ?_;clear hK K)
    (repeat refine AW.seq_k fun K hK=>?_);refine AW.rg ?_;simp;try (refine hK _ rfl ?_;clear hK K)
    refine Aa.grant bg (Cx es bf bc n) g2.game.g (fun h=>h) (Sz bg bf bc n es e j hel hes12 (by rcases hend with h | h;exact .inl h.symm;exact .inr h.symm)) ?_;rintro _ _ ⟨rfl,rfl⟩;rw[set_self g2.game.g];simp;try (refine hK _ rfl ?_;clear hK K)
    obtain⟨n1,hn⟩:∃n1,Gj (Ah es) e j=n1:=⟨_,rfl⟩;rw[hn]at hn1 hn2;simp only[hn];have hs1:n1<s1.length:=by rw[hsl];exact hn1
    cases hseen:s1[n1]with
    |true =>
     (repeat refine AW.seq_k fun K hK=>?_);refine AW.rg ?_;simp[r2,hn1,hsl,hseen];try (refine hK _ rfl ?_;clear hK K)
     refine AW.yes ?_ rfl;refine AW.exit ?_;try simp
     (repeat refine AW.seq_k fun K hK=>?_);refine AW.rg ?_;simp[-Int.natCast_add,w1];try (refine hK _ rfl ?_;clear hK K)
     refine⟨M1,s1,i+1,⟨by omega,g2,g3,fun x hx=>?_⟩,by omega,rfl,rfl⟩;rw[htk]at hx;rcases List.mem_append.1 hx with hx | hx
     ·exact g4 x hx
     ·simp only[List.mem_singleton]at hx;subst hx;rw[hn,Se hs1,hseen]
    |false =>
     have hS1:Fu s1 n1=false:=by rw[Se hs1,hseen]
     have hS:Fu sn n1=false:=by
      cases hc:Fu sn n1 with
      |false=>rfl
      |true=>rw[g3.sub n1 hc]at hS1;cases hS1
     (repeat refine AW.seq_k fun K hK=>?_);refine AW.rg ?_;simp[r2,hn1,hsl,hseen];try (refine hK _ rfl ?_;clear hK K)
     refine AW.no ?_ rfl;refine AW.skip ?_;try simp
     try (refine hK _ rfl ?_;clear hK K)
     (repeat refine AW.seq_k fun K hK=>?_);refine AW.rg ?_;simp[r2,hn1,hsl];try (refine hK _ rfl ?_;clear hK K)
     rw[F2];have V2:=g2.look n1;have hsn2:Fu (s1.set n1 true)=Fg (Fu s1) n1 true:=Kr hs1;have hu2:=S2 hs1 hseen;generalize M1.set bx ⟨4,1,bools (s1.set n1 true)⟩=M2 at V2 ⊢;refine AW.seq_ex (ι:=VSt) (fun z=>[(0,.int .i64 (j:Nat)),(1,.rptr [.ptr bg 3 0 0]),(2,.rptr [.osl bx 1 0 n]),(3,.ptr c3 1 0 0),(15,.osl b 1 0 (Dh cl j).length),(6,.int .i64 (i:Nat)),(7,.int .i64 (e:Nat)),(8,.int .i64 (n1:Nat))]) (fun z=>z.M)
      (fun z=>Jf z.M n bg bf bc bx c3 es z.fl z.bs z.cl z.sn∧Inv n (Ah es) A (Ej z.fl) (Dh z.cl)∧Dh z.cl j=Dh cl j∧0<Ej z.fl n1 ∧
       Got n (Ah es) A (Fu sn) j (Ej fl) (Dh cl) (Fg (Fg (Ej z.fl) n1 (Ej z.fl n1-1)) j (Ej z.fl j+1)) (Fg (Fg (Dh z.cl) n1 (Dh z.cl n1++[e])) j ((Dh z.cl j).eraseIdx i))∧∀v,Fu sn v=true→Fu z.sn v=true) ?_ ?_
     ·have q1:=V2.game.g;have q2:=V2.game.f;have q3:=V2.cell;have q4:=V2.game.fll;have hf1:n1<fl.length:=by rw[q4];exact hn1
      unfold Cx at q1;unfold Qq1 at q3;have hsub2:∀v,Fu sn v=true→Fu (s1.set n1 true) v=true:=fun v hv=>by
       rw[hsn2];unfold Fg;split;rfl;exact g3.sub v hv
      by_cases hz:fl[n1]=0
      ·have ih:=IH (Ga (s1.set n1 true)) (by have h1:=hu2;have h2:=Vw g3 hV.snl g2.snl;omega) _ fl bs cl (s1.set n1 true) n1 (Nat.le_refl _) V2 hI hn1 (by rw[hsn2,Eh]);(repeat refine AW.seq_k fun K hK=>?_);refine AW.rg ?_;simp[q1,q2,q3,hn1,q4,hz];try (refine hK _ rfl ?_;clear hK K)
       refine⟨195,_,⟨rfl,rfl⟩,?_⟩;refine Aa.whole (fun _ h=>h) ih ?_;rintro _ g ⟨ok,rfl,fl',bs',cl',sn',hV',hF,hT⟩;cases ok with
       |false =>
        obtain⟨rfl,rfl,rfl,hL,hsh⟩:=hF rfl;simp;try (refine hK _ rfl ?_;clear hK K)
        refine AW.yes ?_ rfl;refine AW.exit ?_;try simp
        (repeat refine AW.seq_k fun K hK=>?_);refine AW.rg ?_;simp[-Int.natCast_add,w1];try (refine hK _ rfl ?_;clear hK K)
        refine⟨g,sn',i+1,⟨by omega,hV',?_,fun x hx=>?_⟩,by omega,rfl,rfl⟩
        ·rw[hsn2]at hL;exact g3.step (by rw[←Fq hf1];exact hz) hL hsh
        ·rw[htk]at hx;have hm:∀v,Fu s1 v=true→Fu sn' v=true:=fun v hv=>hL.sub v (by rw[hsn2];unfold Fg;split;rfl;exact hv);rcases List.mem_append.1 hx with hx | hx
         ·exact hm _ (g4 x hx)
         ·simp only[List.mem_singleton]at hx;subst hx;rw[hn];exact hL.sub n1 (by rw[hsn2,Eh])
       |true =>
        obtain⟨hG,hsub3⟩:=hT rfl;simp;try (refine hK _ rfl ?_;clear hK K)
        refine AW.no ?_ rfl;refine AW.skip ?_;rw[hsn2]at hG;have hGt:=Got.through (fun v hv=>g3.sub v hv) hj hjs hei (by rw[hn];exact hS1) (by rw[hn];exact hn2) (by rw[hn];exact hG);rw[hn]at hGt;have hjT:Fg (Fu s1) n1 true j=true:=by rw[Bn _ _ (Ne.symm hn2)];exact g3.sub j hjs
        refine⟨⟨g,fl',bs',cl',sn'⟩,⟨hV',hG.inv,hG.cover j hj hjT (Ne.symm hn2),by rw[hG.plus];omega,hGt,fun v hv=>hsub3 v (hsub2 v hv)⟩,rfl,rfl,by simp⟩
      ·have hpos:0<Ej fl n1:=by rw[←Fq hf1];omega
       (repeat refine AW.seq_k fun K hK=>?_);refine AW.rg ?_;simp[q1,q2,q3,hn1,q4,hz];try (refine hK _ rfl ?_;clear hK K)
       refine AW.no ?_ rfl;refine AW.skip ?_;have hGd:=Got.direct (S:=Fu sn) hI hj hei (by rw[hn];exact hS) (by rw[hn];exact hpos);rw[hn]at hGd;refine⟨⟨_,fl,bs,cl,s1.set n1 true⟩,⟨V2,hI,rfl,hpos,hGd,hsub2⟩,rfl,rfl,by simp⟩
     ·rintro⟨M3,fl3,bs3,cl3,s3⟩ ⟨hV3,hI3,hcj,hp3,hG3,hsub3⟩;simp only at hV3 hI3 hcj hp3 hG3 hsub3 ⊢;have q1:=hV3.game.g;have q2:=hV3.game.f;have q4:=hV3.game.fll;have hf1:n1<fl3.length:=by rw[q4];exact hn1
      have hx2:Ej fl3 n1≤2:=by have:=hI3.two n1 hn1;omega
      have hx1:=Fq hf1;have w2:IntKind.i64.wrap (((Ej fl3 n1:Nat):Int)-1)=((Ej fl3 n1-1:Nat):Int):=by
       rw[show((Ej fl3 n1:Nat):Int)-1=((Ej fl3 n1-1:Nat):Int) by omega];exact wi (by omega)
      unfold Cx at q1;(repeat refine AW.seq_k fun K hK=>?_);refine AW.rg ?_;simp[q1,q2,hn1,q4,hx1,w2];try (refine hK _ rfl ?_;clear hK K)
      rw[Jq];have V4:=hV3.setF n1 (Ej fl3 n1-1);generalize M3.set bf ⟨3,1,Ax (fl3.set n1 (Ej fl3 n1-1))⟩=M4 at V4 ⊢;refine AW.seq_ex (ι:=Ac × Nat) (fun _=>[(0,.int .i64 (j:Nat)),(1,.rptr [.ptr bg 3 0 0]),(2,.rptr [.osl bx 1 0 n]),(3,.ptr c3 1 0 0),(6,.int .i64 (i:Nat)),(7,.int .i64 (e:Nat)),(8,.int .i64 (n1:Nat))]) (fun z=>z.1) (fun z=>Jf z.1 n bg bf bc bx c3 es (fl3.set n1 (Ej fl3 n1-1)) (bs3.set n1 (some z.2)) (cl3.set n1 (Dh cl3 n1++[e])) s3) ?_ ?_
      ·have q5:=V4.game.g;have q6:=V4.game.c;have hhl4:=He V4.game;obtain⟨o4,ho4,hget4⟩:=Lf V4.game hn1;have hjh4:n1<(Hi bs3 cl3).length:=by rw[hhl4];exact hn1
       have hgel4:(Hi bs3 cl3)[n1]=hdO o4 (Dh cl3 n1):=by rw[List.getElem?_eq_getElem hjh4]at hget4;exact Option.some.inj hget4
       have nd:=V4.game.nd;have hbcn:bc≠bg:=Ne.symm nd.2.1;unfold Cx at q5;have hl3:(Dh cl3 n1).length≤2:=by have:=hI3.two n1 hn1;omega
       cases o4 with
       |none =>
        have hc0:=V4.game.nil n1 ho4;simp only[hdO]at hgel4;(repeat refine AW.seq_k fun K hK=>?_);refine AW.rdLR [69] [bg,bc] [0,1,2,3,4,5,6,7,8,9,10,11,12,13,14,15,16] C6 (by simp[q5,q6]) ?_;simp[q5,q6,hn1,hhl4,hgel4];refine⟨by unfold maxLen;omega,fun b6 h6 _=>?_⟩;have hfresh:b6 ∉ bx::c3::Bc bg bf bc bs3:=fun hm=>V4.dom hm h6;have e1:¬bc=b6:=fun h=>hfresh (by rw[←h];simp[Bc]);simp[e1,hn1,hhl4];refine⟨b6,V4.setC hn1 (.inl hfresh) (by rw[Ac.set_same,hc0];rfl) (by rw[Ac.set_other _ _ (Ne.symm e1),Ac.set_same,hc0];rfl) (fun k _ hk1 hk2 _=>by rw[Ac.set_other _ _ hk2,Ac.set_other _ _ hk1]) (fun k hk=>?_)⟩
        by_cases k1:k=b6
        ·exact .inl k1
        ·refine .inr ⟨?_,fun h=>by rw[ho4]at h;cases h⟩;by_cases k2:k=bc
         ·rw[k2];simp[Bc]
         ·rw[Ac.set_other _ _ k2,Ac.set_other _ _ k1]at hk;exact V4.only k hk
       |some b4 =>
        simp only[hdO]at hgel4;have q7:=V4.game.row n1 b4 ho4;have hnd4:=V4.game.ndr n1 b4 ho4;(repeat refine AW.seq_k fun K hK=>?_);refine AW.rdLR [69] [bg,bc] [0,1,2,3,4,5,6,7,8,9,10,11,12,13,14,15,16] C6 (by simp[q5,q6]) ?_;simp[q5,q6,q7,hn1,hhl4,hgel4,hnd4];refine⟨by omega,by unfold maxLen;omega,fun b6 h6 _=>?_⟩;have hf6:b6 ∉ bx::c3::Bc bg bf bc bs3∨bs3[n1]?=some (some b6):=by
         by_cases e:b6=b4
         ·exact .inr (by rw[e];exact ho4)
         ·exact .inl fun hm=>V4.dom hm (by rwa [Ac.del_other _ e]at h6)
        have e1:¬bc=b6:=by
         intro h;rcases hf6 with hf6 | hf6
         ·exact hf6 (by rw[←h];simp[Bc])
         ·exact(V4.game.ndr n1 b6 hf6).2.2 h.symm
        have e2:¬bc=b4:=Ne.symm hnd4.2.2;simp[e1,e2,hn1,hhl4];refine⟨b6,V4.setC hn1 hf6 (by rw[Ac.set_same];simp) (by rw[Ac.set_other _ _ (Ne.symm e1),Ac.set_same,Ek]) (fun k _ hk1 hk2 hk3=>?_) (fun k hk=>?_)⟩
        ·have:k≠b4:=fun h=>hk3 (by rw[h];exact ho4);rw[Ac.set_other _ _ hk2,Ac.set_other _ _ hk1,Ac.del_other _ this]
        ·by_cases k1:k=b6
         ·exact .inl k1
         ·by_cases k2:k=bc
          ·exact .inr ⟨by rw[k2];simp[Bc],fun h=>absurd k2 (V4.game.ndr n1 k h).2.2⟩
          ·rw[Ac.set_other _ _ k2,Ac.set_other _ _ k1]at hk;by_cases k3:k=b4
           ·rw[k3,Ac.del_same]at hk;exact absurd rfl hk
           ·rw[Ac.del_other _ k3]at hk;exact .inr ⟨V4.only k hk,fun h=>by rw[ho4]at h;cases h;exact absurd rfl k3⟩
      ·rintro⟨M5,b5⟩ V5;simp only at V5 ⊢;have hcv5:Dh (cl3.set n1 (Dh cl3 n1++[e]))=Fg (Dh cl3) n1 (Dh cl3 n1++[e]):=Ok (by rw[hV3.game.cll];exact hn1);have hcj5:Dh (cl3.set n1 (Dh cl3 n1++[e])) j=Dh cl j:=by rw[hcv5,Bn _ _ (Ne.symm hn2),hcj]
       have hfr5:Ej (fl3.set n1 (Ej fl3 n1-1))=Fg (Ej fl3) n1 (Ej fl3 n1-1):=Xs hf1;have hfj5:Ej (fl3.set n1 (Ej fl3 n1-1)) j=Ej fl3 j:=by rw[hfr5,Bn _ _ (Ne.symm hn2)]
       have hfl5:(fl3.set n1 (Ej fl3 n1-1)).length=n:=V5.game.fll;have hcl5:(cl3.set n1 (Dh cl3 n1++[e])).length=n:=V5.game.cll;have hfj2:Ej fl3 j≤2:=by have:=hI3.two j hj;omega
       have hdone:∀(M:Ac) (bs':List (Option Nat)),Jf M n bg bf bc bx c3 es ((fl3.set n1 (Ej fl3 n1-1)).set j (Ej fl3 j+1)) bs' ((cl3.set n1 (Dh cl3 n1++[e])).set j ((Dh cl j).eraseIdx i)) s3 →
         Qvz n bg bf bc bx c3 es A fl bs cl sn j (.bool true) M:=fun M bs' hV=>⟨true,rfl,_,bs',_,s3,hV,(fun h=>by cases h),fun _=>⟨by
        rw[Xs (by rw[hfl5];exact hj),Ok (by rw[hcl5];exact hj),hfr5,hcv5];rw[hcj]at hG3;exact hG3,hsub3⟩⟩
       generalize fl3.set n1 (Ej fl3 n1-1)=fl5 at *;generalize cl3.set n1 (Dh cl3 n1++[e])=cl5 at *;generalize bs3.set n1 (some b5)=bs5 at *;obtain⟨o5,ho5,hget5⟩:=Lf V5.game hj;cases o5 with
       |none =>
        have:=V5.game.nil j ho5;rw[hcj5]at this;rw[this]at hi;simp at hi
       |some bj =>
        simp only[hdO]at hget5;have q5:=V5.game.g;have q6:=V5.game.c;have q7:=V5.game.row j bj ho5;have hnd5:=V5.game.ndr j bj ho5;have hhl5:=He V5.game;have hjh5:j<(Hi bs5 cl5).length:=by rw[hhl5];exact hj
        rw[hcj5]at hget5 q7;have hgel5:(Hi bs5 cl5)[j]=.osl bj 1 0 (Dh cl j).length:=by rw[List.getElem?_eq_getElem hjh5]at hget5;exact Option.some.inj hget5
        have nd:=V5.game.nd;have hbcn:bc≠bg:=Ne.symm nd.2.1;unfold Cx at q5;(repeat refine AW.seq_k fun K hK=>?_);refine AW.rdL [bg,bc] [0,1,2,3,4,5,6,7,8,9,10,11,12,13,14,15,16,17] C6 (by simp[q5,q6]) ?_;simp[-Int.natCast_add,q5,q6,hj,hhl5,hgel5,w1];refine Aa.grant (R:=fun v x'=>v=.osl bj 1 0 ((Dh cl j).length-1)∧x'=⟨3,1,Ax ((Dh cl j).eraseIdx i)⟩) bj ⟨3,1,Ax (Dh cl j)⟩ q7 (fun h=>by rcases h with h | h;exact hnd5.1 h;exact hnd5.2.2 h)
         ((Pc bj (Dh cl j) i hi (by omega)).mono fun v m hm=>⟨_,⟨hm.1,rfl⟩,hm.2⟩) ?_
        rintro _ _ ⟨rfl,rfl⟩;have e2:¬bc=bj:=Ne.symm hnd5.2.2;simp[-Int.natCast_add,q6,e2,hj,hhl5];try (refine hK _ rfl ?_;clear hK K)
        have hle:((Dh cl j).eraseIdx i).length=(Dh cl j).length-1:=by rw[List.length_eraseIdx,if_pos hi]
        have V6:=V5.setC (l':=(Dh cl j).eraseIdx i) (M':=(M5.set bj ⟨3,1,Ax ((Dh cl j).eraseIdx i)⟩).set bc ⟨25,1,(Hi bs5 cl5).set j (.osl bj 1 0 ((Dh cl j).length-1))⟩) hj (.inr ho5) (by rw[Ac.set_same,hle]) (by rw[Ac.set_other _ _ (Ne.symm e2),Ac.set_same])
         (fun k _ hk1 hk2 _=>by rw[Ac.set_other _ _ hk2,Ac.set_other _ _ hk1]) (fun k hk=>by
          by_cases k1:k=bj
          ·exact .inl k1
          ·refine .inr ⟨?_,fun h=>by rw[ho5]at h;cases h;exact absurd rfl k1⟩;by_cases k2:k=bc
           ·rw[k2];simp[Bc]
           ·rw[Ac.set_other _ _ k2,Ac.set_other _ _ k1]at hk;exact V5.only k hk)
        generalize(M5.set bj ⟨3,1,Ax ((Dh cl j).eraseIdx i)⟩).set bc ⟨25,1,(Hi bs5 cl5).set j (.osl bj 1 0 ((Dh cl j).length-1))⟩=M6 at V6 ⊢;have p1:=V6.game.g;have p2:=V6.game.f;unfold Cx at p1;have hjf:j<fl5.length:=by rw[hfl5];exact hj
        have hxj:fl5[j]=Ej fl3 j:=by rw[Fq hjf,hfj5]
        have w3:=Au (Ej fl3 j+1) (by omega);(repeat refine AW.seq_k fun K hK=>?_);refine AW.rg ?_;simp[-Int.natCast_add,p1,p2,hj,hfl5,hxj,w3];try (refine hK _ rfl ?_;clear hK K)
        rw[Jq];have V7:=V6.setF j (Ej fl3 j+1);generalize M6.set bf ⟨3,1,Ax (fl5.set j (Ej fl3 j+1))⟩=M7 at V7 ⊢;(repeat refine AW.seq_k fun K hK=>?_);refine AW.rg ?_;simp[-Int.natCast_add];try (refine hK _ rfl ?_;clear hK K)
        exact AW.ret (Bo rfl V7.ones (hdone _ _ V7))
   ·refine AW.exit ?_;try simp
    have hil:i=(Dh cl j).length:=by omega
    exact⟨s1,g2,g3,fun e he=>g4 e (by rw[hil,List.take_length];exact he)⟩
  ·rintro⟨M1,s1⟩ ⟨g1,g2,g3⟩;simp only at g1 g2 g3;(repeat refine AW.seq_k fun K hK=>?_);refine AW.rg ?_;simp;try (refine hK _ rfl ?_;clear hK K)
   exact AW.ret (Bo rfl g1.ones ⟨false,rfl,fl,bs,cl,s1,g1,fun _=>⟨rfl,rfl,rfl,g2,g3⟩,fun h=>by cases h⟩)
end Go.Av
end
section
namespace Go.Av
open Go.Proofs Go.Lam
def Qyt (n bg bf bc:Nat) (es:List RE) (A:List Nat) (fl:List Nat) (bs:List (Option Nat)) (cl:List (List Nat)) (to keep:Nat) (v:AV) (M':Ac):Prop :=
 ∃ok:Bool,v=.bool ok∧∃(fl':List Nat) (bs':List (Option Nat)) (cl':List (List Nat)),Dk M' n bg bf bc es fl' bs' cl'∧Fm M' (Bc bg bf bc bs') ∧
  (ok=false→fl'=fl∧bs'=bs∧cl'=cl∧∃X:Nat→Bool,X to=true∧X keep=true∧(∀v,v<n→X v=true→v≠to→v≠keep→Ej fl v=0)∧(∀v,v<n→X v=true→(v=to∨v≠keep)→∀e∈Dh cl v,X (Gj (Ah es) e v)=true)) ∧
  (ok=true→Got n (Ah es) A (fun v=>v==to || v==keep) to (Ej fl) (Dh cl) (Ej fl') (Dh cl'))
theorem S7 (n bg bf bc:Nat) (es:List RE) (A:List Nat) (hn:n≤12) (hes:Ly n es) (hA:∀e∈A,e<es.length) (M:Ac) (fl:List Nat) (bs:List (Option Nat)) (cl:List (List Nat)) (to keep:Nat)
  (hG:Dk M n bg bf bc es fl bs cl) (ho:Fm M (Bc bg bf bc bs)) (hI:Inv n (Ah es) A (Ej fl) (Dh cl)) (ht:to<n) (hk:keep<n) :
  Ai Tryz.prog 162 [.ptr bg 3 0 0,.int .i64 (to:Nat),.int .i64 (keep:Nat)] M (Qyt n bg bf bc es A fl bs cl to keep):=by
 have q1:=hG.g;have q4:=hG.fll;have hone:=H0 hG ho;refine Ad Tryz.func162 rfl rfl 25 rfl (Nat.le_of_ble_eq_true rfl) ?_;(repeat refine AW.seq_k fun K hK=>?_);refine AW.rgR [3] ?_;simp[Al];try (refine hK _ rfl ?_;clear hK K)
 unfold Cx at q1;(repeat refine AW.seq_k fun K hK=>?_);refine AW.rg ?_;simp[q1];try (refine hK _ rfl ?_;clear hK K)
 refine⟨by omega,Af.intro fun bx hx=>Af.intro fun c2 h2=>?_⟩;simp only[Am]at h2;refine hK _ rfl ?_;clear hK K;have hrep:List.replicate n (AV.bool false)=bools (List.replicate n false):=by simp[bools]
 rw[hrep];have ones1:∀c y,M.set bx ⟨4,1,bools (List.replicate n false)⟩ c=some y→∀v∈y.l,v.cells.all AV.one=true:=by
  intro c y hy v hv;by_cases e:c=bx
  ·rw[e,Ac.set_same]at hy;cases hy;exact Mc _ v hv
  ·rw[Ac.set_other _ _ e]at hy;exact hone c y hy v hv
 have hc2:M.set bx ⟨4,1,bools (List.replicate n false)⟩ c2=none:=by rw[Ac.set_other _ _ h2.1.1];exact h2.2
 refine AW.turn [(1,.int .i64 (to:Nat)),(2,.int .i64 (keep:Nat)),(3,.rptr [.ptr bg 3 0 0]),(6,.bool false),(7,.rptr [.osl bx 1 0 n])] (M.set bx ⟨4,1,bools (List.replicate n false)⟩) (Ba.drop hc2 ones1)
  (by simp;exact .ptr c2 1 0 0 ⟨137,1,[.osl bx 1 0 n]⟩ (.osl bx 1 0 n) (Ac.set_same _ _ _) hc2 rfl rfl) ?_
 have hl0:(bools (List.replicate n false)).length=n:=by simp
 (repeat refine AW.seq_k fun K hK=>?_);refine AW.rdT [] [7] [] [] [0,1,2,3,4,5,6,7] C6 (by simp[ht,hk,hl0]) (by simp[ht,hk,hl0]) (by simp[ht,hk,hl0]) (by simp[ht,hk,hl0]) (by simp[ht,hk,hl0]) ?_;simp[ht,hk,hl0];try (refine hK _ rfl ?_;clear hK K)
 rw[F2,F2];have hsl:(((List.replicate n false).set to true).set keep true).length=n:=by simp
 have hS:Fu (((List.replicate n false).set to true).set keep true)=fun v=>v==to || v==keep:=by
  rw[Kr (by simp;exact hk),Kr (by simp;exact ht)]
  funext v
  unfold Fg;have h0:Fu (List.replicate n false) v=false:=by unfold Fu;rw[List.getD_eq_getElem?_getD,List.getElem?_replicate];split<;>rfl
  by_cases e1:v=keep<;>by_cases e2:v=to<;>simp[e1,e2,h0]
 generalize((List.replicate n false).set to true).set keep true=sn at hsl hS ⊢;(repeat refine AW.seq_k fun K hK=>?_);refine AW.rg ?_;simp;try (refine hK _ rfl ?_;clear hK K)
 refine⟨rfl,by simp[AV.cells,AV.one],Af.intro fun c3 h3=>?_⟩;simp only[Am]at h3;refine hK _ rfl ?_;clear hK K;(repeat refine AW.seq_k fun K hK=>?_);refine AW.rg ?_;simp;try (refine hK _ rfl ?_;clear hK K)
 have hnx:∀k∈Bc bg bf bc bs,k≠bx∧k≠c3:=fun k hk=>⟨fun e=>hG.dom hk (by rw[e];exact hx),fun e=>hG.dom hk (by rw[e];exact h3.2)⟩;have hV:Jf ((M.set bx ⟨4,1,bools sn⟩).set c3 ⟨100,1,[.fn 195 [.rptr [.ptr bg 3 0 0],.rptr [.osl bx 1 0 n],.ptr c3 1 0 0]]⟩) n bg bf bc bx c3 es fl bs cl sn :=
  {game:=hG.congr fun k hk=>by rw[Ac.set_other _ _ (hnx k hk).2,Ac.set_other _ _ (hnx k hk).1]
   seen:=by rw[Ac.set_other _ _ h3.1.2,Ac.set_same]
   snl:=hsl
   cell:=Ac.set_same _ _ _
   off:=hnx
   xc:=h3.1.2
   only:=fun k hk=>by
    simp only[List.mem_cons];by_cases e1:k=c3
    ·exact .inr (.inl e1)
    ·by_cases e2:k=bx
     ·exact .inl e2
     ·rw[Ac.set_other _ _ e1,Ac.set_other _ _ e2]at hk;exact .inr (.inr (ho k hk))}
 have hc3:=hV.cell;unfold Qq1 at hc3;have ih:=Qdj n bg bf bc bx c3 es A hn hes hA (Ga sn) _ fl bs cl sn to (Nat.le_refl _) hV hI ht (by rw[hS];simp);generalize(M.set bx ⟨4,1,bools sn⟩).set c3 ⟨100,1,[.fn 195 [.rptr [.ptr bg 3 0 0],.rptr [.osl bx 1 0 n],.ptr c3 1 0 0]]⟩=M2 at hV hc3 ih ⊢;(repeat refine AW.seq_k fun K hK=>?_);refine AW.rg ?_;simp[hc3];try (refine hK _ rfl ?_;clear hK K)
 refine⟨195,_,⟨rfl,rfl⟩,?_⟩;refine Aa.whole (fun _ h=>h) ih ?_;rintro _ g ⟨ok,rfl,fl',bs',cl',sn',hV',hF,hT⟩;simp;try (refine hK _ rfl ?_;clear hK K)
 have hrec:Ba g (g.only (Bc bg bf bc bs')):=Ba.sub fun b x hb=>by
  by_cases hm:b∈Bc bg bf bc bs'
  ·rw[Bx hm]at hb;exact⟨hb,hV'.ones b x hb⟩
  ·rw[Bv hm]at hb;cases hb
 refine AW.ret ⟨[.bool ok],rfl,.bool ok,_,hrec,.same _,ok,rfl,fl',bs',cl',hV'.game.congr fun k hk=>Bx hk,fun k hk=>?_,fun h=>?_,fun h=>?_⟩
 ·rcases Decidable.em (k∈Bc bg bf bc bs')with hm|hm
  ·exact hm
  ·exact absurd (Bv hm) hk
 ·obtain⟨r1,r2,r3,hL,hsh⟩:=hF h;rw[hS]at hL;refine⟨r1,r2,r3,Fu sn',hL.sub to (by simp),hL.sub keep (by simp),fun v hv hx h1 h2=>hL.zero v hv (by simp[h1,h2]) hx,fun v hv hx h1=>?_⟩;by_cases e:v=to
  ·rw[e];exact hsh
  ·exact hL.shut v hv (by simp[e];exact h1.resolve_left e) hx
 ·have:=(hT h).1;rw[hS]at this;exact this
end Go.Av
end
section
namespace Go.Av
open Go.Proofs Go.Lam
structure GSt where
 M:Ac
 fl:List Nat
 bs:List (Option Nat)
 cl:List (List Nat)
structure I8 (n bg bf bc:Nat) (es:List RE) (A:List Nat) (M:Ac) (fl:List Nat) (bs:List (Option Nat)) (cl:List (List Nat)):Prop where
 mem:Dk M n bg bf bc es fl bs cl
 only:Fm M (Bc bg bf bc bs)
 inv:Inv n (Ah es) A (Ej fl) (Dh cl)
def Qys (n bg bf bc:Nat) (es:List RE) (A:List Nat) (a b:Nat) (v:AV) (M':Ac):Prop :=
 ∃(fl':List Nat) (bs':List (Option Nat)) (cl':List (List Nat)),v=.int .i64 ((Ej fl' a+Ej fl' b:Nat):Int)∧I8 n bg bf bc es A M' fl' bs' cl'∧Ej fl' a=2 ∧
  (Ej fl' b=2∨Ej fl' b=1∧∃X,D0 n (A.map (Ah es)) X∧X a=true∧X b=true)
theorem Qf (n bg bf bc:Nat) (es:List RE) (A:List Nat) (hn:n≤12) (hes:Ly n es) (hA:∀e∈A,e<es.length) (hsp:Bf n (A.map (Ah es))) (M:Ac) (fl:List Nat) (bs:List (Option Nat)) (cl:List (List Nat)) (a b:Nat)
  (hG:I8 n bg bf bc es A M fl bs cl) (ha:a<n) (hb:b<n) (hab:a≠b) :
  Ai Tryz.prog 119 [.ptr bg 3 0 0,.int .i64 (a:Nat),.int .i64 (b:Nat)] M (Qys n bg bf bc es A a b):=by
 refine Ad Tryz.func119 rfl rfl 50 rfl (Nat.le_of_ble_eq_true rfl) ?_;(repeat refine AW.seq_k fun K hK=>?_);refine AW.rg ?_;simp[Al];try (refine hK _ rfl ?_;clear hK K)
 refine AW.seq_ex (ι:=GSt) (fun _=>[(0,.ptr bg 3 0 0),(1,.int .i64 (a:Nat)),(2,.int .i64 (b:Nat))]) (fun z=>z.M) (fun z=>I8 n bg bf bc es A z.M z.fl z.bs z.cl∧Ej z.fl a=2) ?_ ?_
 ·refine AW.block (AW.loopS (ι:=GSt) (fun _=>[(0,.ptr bg 3 0 0),(1,.int .i64 (a:Nat)),(2,.int .i64 (b:Nat))]) (fun z=>z.M) (fun z=>I8 n bg bf bc es A z.M z.fl z.bs z.cl) (fun z=>2-Ej z.fl a) ⟨M,fl,bs,cl⟩ hG rfl (by simp) ?_);rintro⟨M,fl,bs,cl⟩ hG;simp only at hG ⊢;have q1:=hG.mem.g;have q2:=hG.mem.f;have q4:=hG.mem.fll;have hal:a<fl.length:=by rw[q4];exact ha
  have hx:=Fq hal;have h2:=hG.inv.two a ha;unfold Cx at q1;by_cases hlt:fl[a]<2
  ·have hc:=S7 n bg bf bc es A hn hes hA M fl bs cl a a hG.mem hG.only hG.inv ha ha;have hlt':((fl[a]:Nat):Int)<2:=by omega
   (repeat refine AW.seq_k fun K hK=>?_);refine AW.rg ?_;simp[q1,q2,ha,q4,hlt];try (refine hK _ rfl ?_;clear hK K)
   refine Aa.whole (fun _ h=>h) hc ?_;rintro _ g ⟨ok,rfl,fl',bs',cl',hM,ho,hF,hT⟩;cases ok with
   |true =>
    have hg:=hT rfl;simp;try (refine hK _ rfl ?_;clear hK K)
    refine AW.yes ?_ rfl;refine AW.skip ?_;try simp
    try (refine hK _ rfl ?_;clear hK K)
    (repeat refine AW.seq ?_);refine AW.block ?_;refine AW.skip ?_;try simp
    exact⟨⟨g,fl',bs',cl'⟩,⟨hM,ho,hg.inv⟩,by simp only;rw[hg.plus];omega,rfl⟩
   |false =>
    obtain⟨r1,r2,r3,X,x1,x2,hz,hsh⟩:=hF rfl;have:=hG.inv.first hsp ha (X:=X) (fun v hv hx e he=>hsh v hv hx (Decidable.em (v=a)) e he) x1 (fun v hv hx h=>hz v hv hx h h);omega
  ·(repeat refine AW.seq_k fun K hK=>?_);refine AW.rg ?_;simp[q1,q2,ha,q4,hlt];try (refine hK _ rfl ?_;clear hK K)
   (repeat refine AW.seq ?_);refine AW.no ?_ rfl;refine AW.exit ?_;try simp
   exact⟨⟨M,fl,bs,cl⟩,⟨hG,by simp only;omega⟩,rfl⟩
 rintro⟨M,fl,bs,cl⟩ ⟨hG,h2⟩;simp only at hG h2 ⊢;refine AW.seq_ex (ι:=GSt) (fun _=>[(0,.ptr bg 3 0 0),(1,.int .i64 (a:Nat)),(2,.int .i64 (b:Nat))]) (fun z=>z.M) (fun z=>I8 n bg bf bc es A z.M z.fl z.bs z.cl∧Ej z.fl a=2∧(Ej z.fl b=2∨Ej z.fl b=1∧∃X,D0 n (A.map (Ah es)) X∧X a=true∧X b=true)) ?_ ?_
 ·refine AW.block (AW.loopS (ι:=GSt) (fun _=>[(0,.ptr bg 3 0 0),(1,.int .i64 (a:Nat)),(2,.int .i64 (b:Nat))]) (fun z=>z.M) (fun z=>I8 n bg bf bc es A z.M z.fl z.bs z.cl∧Ej z.fl a=2) (fun z=>2-Ej z.fl b) ⟨M,fl,bs,cl⟩ ⟨hG,h2⟩ rfl (by simp) ?_);rintro⟨M,fl,bs,cl⟩ ⟨hG,h2⟩;simp only at hG h2 ⊢;have q1:=hG.mem.g;have q2:=hG.mem.f;have q4:=hG.mem.fll;have hbl:b<fl.length:=by rw[q4];exact hb
  have hx:=Fq hbl;have h3:=hG.inv.two b hb;have h4:=hG.inv.two a ha;unfold Cx at q1;by_cases hlt:fl[b]<2
  ·have hc:=S7 n bg bf bc es A hn hes hA M fl bs cl b a hG.mem hG.only hG.inv hb ha;(repeat refine AW.seq_k fun K hK=>?_);refine AW.rg ?_;simp[q1,q2,hb,q4,hlt];try (refine hK _ rfl ?_;clear hK K)
   refine Aa.whole (fun _ h=>h) hc ?_;rintro _ g ⟨ok,rfl,fl',bs',cl',hM,ho,hF,hT⟩;cases ok with
   |true =>
    have hg:=hT rfl;simp;try (refine hK _ rfl ?_;clear hK K)
    refine AW.yes ?_ rfl;refine AW.skip ?_;try simp
    try (refine hK _ rfl ?_;clear hK K)
    (repeat refine AW.seq ?_);refine AW.block ?_;refine AW.skip ?_;try simp
    exact⟨⟨g,fl',bs',cl'⟩,⟨⟨hM,ho,hg.inv⟩,by simp only;rw[hg.free a ha (by simp) hab];exact h2⟩,by simp only;rw[hg.plus];omega,rfl⟩
   |false =>
    obtain⟨r1,r2,r3,X,x1,x2,hz,hsh⟩:=hF rfl;subst r1;subst r2;subst r3;have hc0:Dh cl' a=[]:=List.eq_nil_of_length_eq_zero (by omega);obtain⟨k1,k2⟩:=hG.inv.second hsp ha hb hab h2 (X:=X) (fun v hv hx e he=>by
     by_cases e1:v=a
     ·subst e1;rw[hc0]at he;cases he
     ·exact hsh v hv hx (.inr e1) e he) x2 x1 (fun v hv hx h h'=>hz v hv hx h' h) (by omega)
    simp;try (refine hK _ rfl ?_;clear hK K)
    refine AW.no ?_ rfl;refine AW.exit ?_;try simp
    exact⟨⟨g,fl',bs',cl'⟩,⟨⟨hM,ho,hG.inv⟩,h2,.inr ⟨k1,X,k2,x2,x1⟩⟩,rfl⟩
  ·(repeat refine AW.seq_k fun K hK=>?_);refine AW.rg ?_;simp[q1,q2,hb,q4,hlt];try (refine hK _ rfl ?_;clear hK K)
   (repeat refine AW.seq ?_);refine AW.no ?_ rfl;refine AW.exit ?_;try simp
   exact⟨⟨M,fl,bs,cl⟩,⟨hG,h2,.inl (by simp only;omega)⟩,rfl⟩
 rintro⟨M,fl,bs,cl⟩ ⟨hG,h2,h3⟩;simp only at hG h2 h3 ⊢;have q1:=hG.mem.g;have q2:=hG.mem.f;have q4:=hG.mem.fll;have hal:a<fl.length:=by rw[q4];exact ha
 have hbl:b<fl.length:=by rw[q4];exact hb
 have hx:=Fq hal;have hy:=Fq hbl;unfold Cx at q1;have w1:IntKind.i64.wrap ((Ej fl a+Ej fl b:Nat):Int)=((Ej fl a+Ej fl b:Nat):Int):=wi (by rcases h3 with h3 | h3;omega;have:=h3.1;omega);(repeat refine AW.seq_k fun K hK=>?_);refine AW.rdL [bg,bf] [0,1,2,3,4,5,6,7,8,9,10,11,12,13,14,15] C6 (by simp[q1,q2]) ?_;simp[-Int.natCast_add,q1,q2,ha,hb,q4,hx,hy,w1];try (refine hK _ rfl ?_;clear hK K)
 exact AW.ret (Bo rfl (H0 hG.mem hG.only) ⟨fl,bs,cl,rfl,hG,h2,h3⟩)
end Go.Av
end
section
namespace Go.Lam
section
variable {n:Nat} {E:Nat→Ed} {A:List Nat} {fr:Nat→Nat} {cv:Nat→List Nat}
def Far (n:Nat) (E:Nat→Ed) (fr:Nat→Nat) (cv:Nat→List Nat) (S:Nat→Bool) (j:Nat):Prop:=∀X,X j=true→Qgw n E cv X→∃w,w<n∧X w=true∧S w=false∧0<fr w
theorem Far.direct {S T:Nat→Bool} {j e:Nat} (hsub:∀v,S v=true→T v=true) (hj:j<n) (he:e∈cv j) (hk:Gj E e j<n) (hT:T (Gj E e j)=false) (hf:0<fr (Gj E e j)):Far n E fr cv S j:=fun X hX hs=>by
 refine⟨Gj E e j,hk,hs j hj hX e he,?_,hf⟩;cases h:S (Gj E e j)with
 |false=>rfl
 |true=>rw[hsub _ h]at hT;cases hT
theorem Far.through {S T:Nat→Bool} {j e:Nat} (hsub:∀v,S v=true→T v=true) (hj:j<n) (he:e∈cv j) (h:Far n E fr cv T (Gj E e j)):Far n E fr cv S j:=fun X hX hs=>by
 obtain⟨w,h1,h2,h3,h4⟩:=h X (hs j hj hX e he) hs;refine⟨w,h1,h2,?_,h4⟩;cases hc:S w with
 |false=>rfl
 |true=>rw[hsub _ hc]at h3;cases h3
theorem Qiq (h:Inv n E A fr cv) {a b v:Nat} (ha:a<n) (hb:b<n) (hab:a≠b) (hv:v<n) (h3:3≤fr a+fr b) {S:Nat→Bool} (hSa:S a=true) (hSb:S b=true) (hF:Far n E fr cv S v) {X:Nat→Bool} (hX:D0 n (A.map E) X) (hXa:X a=true) (hXb:X b=true):X v=false:=by
 cases hXv:X v with
 |false=>rfl
 |true =>
  exfalso
  have e2:Uy n fr (Fe a b)≤Uy n fr X:=Qj6 fun v _ hv=>by
   simp only[Fe,Bool.or_eq_true,beq_iff_eq]at hv;rcases hv with rfl | rfl<;>assumption
  rw[O1 ha hb hab]at e2;have hS:=h.shut (X:=X) (by have:=hX.2;omega);obtain⟨w,w1,w2,w3,w4⟩:=hF X hXv hS;have hwa:w≠a:=fun e=>by rw[e,hSa]at w3;cases w3
  have hwb:w≠b:=fun e=>by rw[e,hSb]at w3;cases w3
  have e3:Uy n fr (Fe a b)+Uy n fr (fun v=>v==w)≤Uy n fr X:=by
   unfold Uy;rw[←Kn];refine Wn fun v hv=>?_;by_cases h1:v=w
   ·subst h1;have:Fe a b v=false:=by simp[Fe,hwa,hwb]
    simp[this,w2]
   ·by_cases h2:Fe a b v=true
    ·have:X v=true:=by
      simp only[Fe,Bool.or_eq_true,beq_iff_eq]at h2;rcases h2 with rfl | rfl<;>assumption
     simp[h2,h1,this]
    ·simp[h1,h2]
  rw[O1 ha hb hab,Sx w1]at e3;have:=h.le X;have:=hX.2;omega
theorem Qgt (h:Inv n E A fr cv) (hs:Bf n (A.map E)) {a b v e:Nat} (ha:a<n) (hb:b<n) (hab:a≠b) (hv:v<n) (heA:e∈A) (he:(E e).1=a∧(E e).2=b) (h2:fr a=2) (h1:fr b=1) (hfv:fr v=0) {T:Nat→Bool}
  (hL:Ku n E fr cv (Fg (Fg (Fg (fun _=>false) a true) b true) v true) T) (hc:∀e∈cv v,T (Gj E e v)=true):D0 n (A.map E) T∧T a=true∧T b=true∧T v=true:=by
 have hS:∀w,Fg (Fg (Fg (fun _=>false) a true) b true) v true w=true↔w=v∨w=b∨w=a:=fun w=>by
  unfold Fg;by_cases h1:w=v
  ·simp[h1]
  ·by_cases h2:w=b
   ·simp[h2]
   ·by_cases h3:w=a<;>simp[h1,h2,h3]
 have hTa:=hL.sub a ((hS a).2 (.inr (.inr rfl)));have hTb:=hL.sub b ((hS b).2 (.inr (.inl rfl)));have hTv:=hL.sub v ((hS v).2 (.inl rfl));have hca:cv a=[]:=List.eq_nil_of_length_eq_zero (by have:=h.two a ha;omega);have hcb:∀x∈cv b,x=e:=by
  have hm:e∈(List.range n).flatMap cv:=h.perm.mem_iff.2 heA;obtain⟨u,hu,hu2⟩:=List.mem_flatMap.1 hm;have hun:=List.mem_range.1 hu;have hub:u=b:=by
   rcases h.ends u hun e hu2 with h3|h3
   ·rw[he.1]at h3;rw[←h3,hca]at hu2;cases hu2
   ·rw[he.2]at h3;exact h3.symm
  subst hub;have hl:=h.two u hb;intro x hx
  match hcu:cv u,hx,hu2 with
  |[y],hx,hu2=>simp at hx hu2;rw[hx,hu2]
  |[],hx,_=>cases hx
  |y::z::t,_,_=>rw[hcu]at hl;simp at hl;omega
 have hSh:Qgw n E cv T:=fun u hu hTu x hx=>by
  by_cases hu2:Fg (Fg (Fg (fun _=>false) a true) b true) v true u=true
  ·rcases(hS u).1 hu2 with rfl|rfl|rfl
   ·exact hc x hx
   ·rw[hcb x hx];have:Gj E e u=a:=by unfold Gj;omega
    rw[this];exact hTa
   ·rw[hca]at hx;cases hx
  ·exact hL.shut u hu (by simpa using hu2) hTu x hx
 have:=h.second hs ha hb hab h2 hSh hTa hTb (fun u hu hTu hua hub=>by
  by_cases huv:u=v
  ·rw[huv];exact hfv
  ·refine hL.zero u hu ?_ hTu;cases hq:Fg (Fg (Fg (fun _=>false) a true) b true) v true u with
   |false=>rfl
   |true=>rcases(hS u).1 hq with h' | h' | h'<;>contradiction) (by omega)
 exact⟨this.2,hTa,hTb,hTv⟩
end
end Go.Lam
end
section
namespace Go.Av
open Go.Proofs Go.Lam
def Qrt (bg bx c3 n:Nat):AV:=.fn 124 [.rptr [.ptr bg 3 0 0],.rptr [.osl bx 1 0 n],.ptr c3 1 0 0]
structure Vg (M:Ac) (n bg bf bc bx c3:Nat) (es:List RE) (fl:List Nat) (bs:List (Option Nat)) (cl:List (List Nat)) (sn:List Bool):Prop where
 game:Dk M n bg bf bc es fl bs cl
 seen:M bx=some ⟨4,1,bools sn⟩
 snl:sn.length=n
 cell:M c3=some ⟨100,1,[Qrt bg bx c3 n]⟩
 off:∀k∈Bc bg bf bc bs,k≠bx∧k≠c3
 xc:bx≠c3
 only:Fm M (bx::c3::Bc bg bf bc bs)
section
variable {M:Ac} {n bg bf bc bx c3:Nat} {es:List RE} {fl:List Nat} {bs:List (Option Nat)} {cl:List (List Nat)} {sn:List Bool}
theorem Vg.look (h:Vg M n bg bf bc bx c3 es fl bs cl sn) (i:Nat):Vg (M.set bx ⟨4,1,bools (sn.set i true)⟩) n bg bf bc bx c3 es fl bs cl (sn.set i true) where
 game:=h.game.congr fun k hk=>Ac.set_other _ _ (h.off k hk).1
 seen:=Ac.set_same _ _ _
 snl:=by rw[List.length_set,h.snl]
 cell:=by rw[Ac.set_other _ _ (Ne.symm h.xc)];exact h.cell
 off:=h.off
 xc:=h.xc
 only:=h.only.set _ (by simp)
theorem Vg.ones (h:Vg M n bg bf bc bx c3 es fl bs cl sn):∀c y,M c=some y→∀v∈y.l,v.cells.all AV.one=true:=by
 intro c y hy v hv;have hc:=h.only c (by rw[hy];simp);simp only[List.mem_cons]at hc;rcases hc with rfl | rfl | hc
 ·rw[h.seen]at hy;cases hy;exact Mc _ v hv
 ·rw[h.cell]at hy;cases hy;simp only[List.mem_singleton]at hv;subst hv;rfl
 ·rcases Bh.1 hc with rfl|rfl|rfl|⟨i,hi⟩
  ·rw[h.game.g]at hy;cases hy;simp only[Cx,List.mem_singleton]at hv;subst hv;rfl
  ·rw[h.game.f]at hy;cases hy;exact Cu _ v hv
  ·rw[h.game.c]at hy;cases hy;exact Jh _ _ v hv
  ·rw[h.game.row i c hi]at hy;cases hy;exact Cu _ v hv
end
def Qyw (n bg bf bc bx c3:Nat) (es:List RE) (fl:List Nat) (bs:List (Option Nat)) (cl:List (List Nat)) (sn:List Bool) (j:Nat) (v:AV) (M':Ac):Prop :=
 ∃ok:Bool,v=.bool ok∧∃(sn':List Bool),Vg M' n bg bf bc bx c3 es fl bs cl sn' ∧
  (ok=false→Ku n (Ah es) (Ej fl) (Dh cl) (Fu sn) (Fu sn')∧∀e∈Dh cl j,Fu sn' (Gj (Ah es) e j)=true) ∧
  (ok=true→Far n (Ah es) (Ej fl) (Dh cl) (Fu sn) j)
theorem Qcp (n bg bf bc bx c3:Nat) (es:List RE) (A:List Nat) (hn:n≤12) (hes:Ly n es) (hA:∀e∈A,e<es.length) (fl:List Nat) (bs:List (Option Nat)) (cl:List (List Nat)) (hI:Inv n (Ah es) A (Ej fl) (Dh cl)) :
  ∀(fuel:Nat) (M:Ac) (sn:List Bool) (j:Nat),Ga sn≤fuel→Vg M n bg bf bc bx c3 es fl bs cl sn→j<n →
   Ai Tryz.prog 124 [.int .i64 (j:Nat),.rptr [.ptr bg 3 0 0],.rptr [.osl bx 1 0 n],.ptr c3 1 0 0] M (Qyw n bg bf bc bx c3 es fl bs cl sn j):=by
 have hes12:Ly 12 es:=fun i hi=>⟨(hes i hi).1,(hes i hi).2.1,by have:=(hes i hi).2.2;exact⟨by have:=this.1;omega,by have:=this.2.1;omega,this.2.2⟩⟩;intro fuel
 induction fuel using Nat.strongRecOn with
 |ind fuel IH =>
 intro M sn j hu hV hj;refine Ad Tryz.func124 rfl rfl 46 rfl (Nat.le_of_ble_eq_true rfl) ?_;(repeat refine AW.seq_k fun K hK=>?_);refine AW.rg ?_;simp[Al];try (refine hK _ rfl ?_;clear hK K)
 have m1:=hV.game.g;have m3:=hV.game.c;have hhl:=He hV.game;obtain⟨o,ho,hget⟩:=Lf hV.game hj;unfold Cx at m1;have hjh:j<(Hi bs cl).length:=by rw[hhl];exact hj
 have hgel:(Hi bs cl)[j]=hdO o (Dh cl j):=by rw[List.getElem?_eq_getElem hjh]at hget;exact Option.some.inj hget
 cases o with
 |none =>
  have hc0:=hV.game.nil j ho;simp only[hdO]at hgel;have hone:=hV.ones;refine AW.seq_ex (ι:=Unit) (fun _=>[]) (fun _=>M) (fun _=>True) ?_ ?_
  ·(repeat refine AW.seq_k fun K hK=>?_);refine AW.rg ?_;simp[m1,m3,hj,hhl,hgel];try (refine hK _ rfl ?_;clear hK K)
   refine AW.block (AW.loopS (ι:=Unit) (fun _=>[(16,.int .i64 0),(17,.int .i64 0)]) (fun _=>M) (fun _=>True) (fun _=>0) () trivial rfl (by simp) ?_);intro _ _;(repeat refine AW.seq_k fun K hK=>?_);refine AW.rg ?_;simp;try (refine hK _ rfl ?_;clear hK K)
   (repeat refine AW.seq ?_);refine AW.no ?_ rfl;refine AW.exit ?_;try simp
  ·rintro _ _;(repeat refine AW.seq_k fun K hK=>?_);refine AW.rg ?_;simp;try (refine hK _ rfl ?_;clear hK K)
   exact AW.ret (Bo rfl hone ⟨false,rfl,sn,hV,fun _=>⟨Ku.refl _,fun e he=>by rw[hc0]at he;cases he⟩,fun h=>by cases h⟩)
 |some b =>
  simp only[hdO]at hgel;have hrow:=hV.game.row j b ho;have hlen2:(Dh cl j).length≤2:=by have:=hI.two j hj;omega
  refine AW.seq_ex (ι:=Ac × List Bool) (fun _=>[]) (fun z=>z.1) (fun z=>Vg z.1 n bg bf bc bx c3 es fl bs cl z.2∧Ku n (Ah es) (Ej fl) (Dh cl) (Fu sn) (Fu z.2)∧∀e∈Dh cl j,Fu z.2 (Gj (Ah es) e j)=true) ?_ ?_
  ·(repeat refine AW.seq_k fun K hK=>?_);refine AW.rg ?_;simp[m1,m3,hj,hhl,hgel];try (refine hK _ rfl ?_;clear hK K)
   refine AW.block (AW.loopS (ι:=Ac × List Bool × Nat) (fun z=>[(0,.int .i64 (j:Nat)),(1,.rptr [.ptr bg 3 0 0]),(2,.rptr [.osl bx 1 0 n]),(3,.ptr c3 1 0 0),(15,.osl b 1 0 (Dh cl j).length),(16,.int .i64 ((Dh cl j).length:Nat)),(17,.int .i64 (z.2.2:Nat))]) (fun z=>z.1)
    (fun z=>z.2.2≤(Dh cl j).length∧Vg z.1 n bg bf bc bx c3 es fl bs cl z.2.1∧Ku n (Ah es) (Ej fl) (Dh cl) (Fu sn) (Fu z.2.1)∧∀e∈(Dh cl j).take z.2.2,Fu z.2.1 (Gj (Ah es) e j)=true)
    (fun z=>(Dh cl j).length-z.2.2) (M,sn,0) ⟨by simp,hV,Ku.refl _,by simp⟩ rfl (by simp) ?_)
   rintro⟨M1,s1,i⟩ ⟨g1,g2,g3,g4⟩;simp only at g1 g2 g3 g4;(repeat refine AW.seq_k fun K hK=>?_);refine AW.rg ?_;simp;try (refine hK _ rfl ?_;clear hK K)
   (repeat refine AW.seq ?_);refine AW.cs (fun hi=>?_) (fun hi=>?_) rfl<;>(try simp at hi)
   ·refine AW.skip ?_;try simp
    try (refine hK _ rfl ?_;clear hK K)
    have w1:=Au (i+1) (by omega);have r1:=g2.game.row j b ho;have r2:=g2.seen;have hsl:=g2.snl;obtain⟨e,he⟩:∃e,(Dh cl j)[i]=e:=⟨_,rfl⟩;have heM:e∈Dh cl j:=he ▸ List.getElem_mem hi;have hel:e<es.length:=hA e (hI.mem hj heM);have hend:=hI.ends j hj e heM;obtain⟨hn1,hn2⟩:=hI.oth_lt hj heM;have htk:=Jj hi he;(repeat refine AW.seq ?_);refine AW.block ?_;(repeat refine AW.seq_k fun K hK=>?_);refine AW.rg ?_;simp[r1,hi,he];try (refine hK _ rfl ?_;clear hK K)
    (repeat refine AW.seq_k fun K hK=>?_);refine AW.rg ?_;simp;try (refine hK _ rfl ?_;clear hK K)
    refine Aa.grant bg (Cx es bf bc n) g2.game.g (fun h=>h) (Sz bg bf bc n es e j hel hes12 (by rcases hend with h | h;exact .inl h.symm;exact .inr h.symm)) ?_;rintro _ _ ⟨rfl,rfl⟩;rw[set_self g2.game.g];simp;try (refine hK _ rfl ?_;clear hK K)
    obtain⟨n1,hn⟩:∃n1,Gj (Ah es) e j=n1:=⟨_,rfl⟩;rw[hn]at hn1 hn2;simp only[hn];have hs1:n1<s1.length:=by rw[hsl];exact hn1
    cases hseen:s1[n1]with
    |true =>
     (repeat refine AW.seq_k fun K hK=>?_);refine AW.rg ?_;simp[r2,hn1,hsl,hseen];try (refine hK _ rfl ?_;clear hK K)
     refine AW.yes ?_ rfl;refine AW.exit ?_;try simp
     (repeat refine AW.seq_k fun K hK=>?_);refine AW.rg ?_;simp[-Int.natCast_add,w1];try (refine hK _ rfl ?_;clear hK K)
     refine⟨M1,s1,i+1,⟨by omega,g2,g3,fun x hx=>?_⟩,by omega,rfl,rfl⟩;rw[htk]at hx;rcases List.mem_append.1 hx with hx | hx
     ·exact g4 x hx
     ·simp only[List.mem_singleton]at hx;subst hx;rw[hn,Se hs1,hseen]
    |false =>
     have hS1:Fu s1 n1=false:=by rw[Se hs1,hseen]
     (repeat refine AW.seq_k fun K hK=>?_);refine AW.rg ?_;simp[r2,hn1,hsl,hseen];try (refine hK _ rfl ?_;clear hK K)
     refine AW.no ?_ rfl;refine AW.skip ?_;try simp
     try (refine hK _ rfl ?_;clear hK K)
     (repeat refine AW.seq_k fun K hK=>?_);refine AW.rg ?_;simp[r2,hn1,hsl];try (refine hK _ rfl ?_;clear hK K)
     rw[F2];have V2:=g2.look n1;have hsn2:Fu (s1.set n1 true)=Fg (Fu s1) n1 true:=Kr hs1;have hu2:=S2 hs1 hseen;generalize M1.set bx ⟨4,1,bools (s1.set n1 true)⟩=M2 at V2 ⊢;have q1:=V2.game.g;have q2:=V2.game.f;have q3:=V2.cell;have q4:=V2.game.fll;have hf1:n1<fl.length:=by rw[q4];exact hn1
     unfold Cx at q1;unfold Qrt at q3;have hsub2:∀v,Fu sn v=true→Fu (s1.set n1 true) v=true:=fun v hv=>by
      rw[hsn2];unfold Fg;split;rfl;exact g3.sub v hv
     by_cases hz:fl[n1]=0
     ·have ih:=IH (Ga (s1.set n1 true)) (by have h1:=hu2;have h2:=Vw g3 hV.snl g2.snl;omega) _ (s1.set n1 true) n1 (Nat.le_refl _) V2 hn1;(repeat refine AW.seq_k fun K hK=>?_);refine AW.rg ?_;simp[q1,q2,q3,hn1,q4,hz];try (refine hK _ rfl ?_;clear hK K)
      refine⟨124,_,⟨rfl,rfl⟩,?_⟩;refine Aa.whole (fun _ h=>h) ih ?_;rintro _ g ⟨ok,rfl,sn',hV',hF,hT⟩;cases ok with
      |false =>
       obtain⟨hL,hsh⟩:=hF rfl;simp;try (refine hK _ rfl ?_;clear hK K)
       refine AW.no ?_ rfl;refine AW.skip ?_;try simp
       try (refine hK _ rfl ?_;clear hK K)
       (repeat refine AW.seq_k fun K hK=>?_);refine AW.rg ?_;simp[-Int.natCast_add,w1];try (refine hK _ rfl ?_;clear hK K)
       refine⟨g,sn',i+1,⟨by omega,hV',?_,fun x hx=>?_⟩,by omega,rfl,rfl⟩
       ·rw[hsn2]at hL;exact g3.step (by rw[←Fq hf1];exact hz) hL hsh
       ·rw[htk]at hx;have hm:∀v,Fu s1 v=true→Fu sn' v=true:=fun v hv=>hL.sub v (by rw[hsn2];unfold Fg;split;rfl;exact hv);rcases List.mem_append.1 hx with hx | hx
        ·exact hm _ (g4 x hx)
        ·simp only[List.mem_singleton]at hx;subst hx;rw[hn];exact hL.sub n1 (by rw[hsn2,Eh])
      |true =>
       have hG:=hT rfl;simp;try (refine hK _ rfl ?_;clear hK K)
       refine AW.yes ?_ rfl;(repeat refine AW.seq_k fun K hK=>?_);refine AW.rg ?_;simp;try (refine hK _ rfl ?_;clear hK K)
       exact AW.ret (Bo rfl hV'.ones ⟨true,rfl,sn',hV',fun h=>(by cases h),fun _=>Far.through hsub2 hj heM (by rw[hn];exact hG)⟩)
     ·have hpos:0<Ej fl n1:=by rw[←Fq hf1];omega
      have hpz:0<fl[n1]:=by omega
      (repeat refine AW.seq_k fun K hK=>?_);refine AW.rg ?_;simp[q1,q2,q3,hn1,q4,hpz];try (refine hK _ rfl ?_;clear hK K)
      refine AW.yes ?_ rfl;(repeat refine AW.seq_k fun K hK=>?_);refine AW.rg ?_;simp;try (refine hK _ rfl ?_;clear hK K)
      exact AW.ret (Bo rfl V2.ones ⟨true,rfl,_,V2,fun h=>(by cases h),fun _=>Far.direct (fun v hv=>g3.sub v hv) hj heM (by rw[hn];exact hn1) (by rw[hn];exact hS1) (by rw[hn];exact hpos)⟩)
   ·refine AW.exit ?_;try simp
    have hil:i=(Dh cl j).length:=by omega
    exact⟨s1,g2,g3,fun e he=>g4 e (by rw[hil,List.take_length];exact he)⟩
  ·rintro⟨M1,s1⟩ ⟨g1,g2,g3⟩;simp only at g1 g2 g3;(repeat refine AW.seq_k fun K hK=>?_);refine AW.rg ?_;simp;try (refine hK _ rfl ?_;clear hK K)
   exact AW.ret (Bo rfl g1.ones ⟨false,rfl,s1,g1,fun _=>⟨g2,g3⟩,fun h=>by cases h⟩)
end Go.Av
end
section
namespace Go.Av
open Go.Proofs Go.Lam
def Qyp (n bg bf bc:Nat) (es:List RE) (A:List Nat) (e0 x:Nat) (v:AV) (M':Ac):Prop :=
 v=.bool (Hj n (A.map (Ah es)) (Ah es e0) x)∧∃(fl':List Nat) (bs':List (Option Nat)) (cl':List (List Nat)),I8 n bg bf bc es A M' fl' bs' cl'
theorem Qc8 (n bg bf bc:Nat) (es:List RE) (A:List Nat) (hn:n≤12) (hes:Ly n es) (hA:∀e∈A,e<es.length) (hsp:Bf n (A.map (Ah es))) (M:Ac) (fl:List Nat) (bs:List (Option Nat)) (cl:List (List Nat)) (e0 x:Nat)
  (hG:I8 n bg bf bc es A M fl bs cl) (he0:e0∈A) (hx:x<n) (hxa:x≠(Ah es e0).1) (hxb:x≠(Ah es e0).2) :
  Ai Tryz.prog 90 [.ptr bg 3 0 0,.int .i64 ((Ah es e0).1:Nat),.int .i64 ((Ah es e0).2:Nat),.int .i64 (x:Nat)] M (Qyp n bg bf bc es A e0 x):=by
 have hL:∀e∈A.map (Ah es),Dz n e:=fun e he=>by
  obtain⟨k,hk,rfl⟩:=List.mem_map.1 he;exact(hes k (hA k hk)).2.2
 have hok:Dz n (Ah es e0):=hL _ (List.mem_map.2 ⟨e0,he0,rfl⟩);have hT0:=Kd hL hsp (List.mem_map.2 ⟨e0,he0,rfl⟩);have hW:=Ju hL hx hok;have hins:∀X:Nat→Bool,ins X (Ah es e0)=true↔X (Ah es e0).1=true∧X (Ah es e0).2=true:=fun X=>by unfold ins;simp
 simp only[hins]at hW;generalize hw:Hj n (A.map (Ah es)) (Ah es e0) x=W at hW;obtain⟨ha,hb,hab⟩:=hok;obtain⟨a,ea⟩:∃a,(Ah es e0).1=a:=⟨_,rfl⟩;obtain⟨b,eb⟩:∃b,(Ah es e0).2=b:=⟨_,rfl⟩;rw[ea,eb]at hT0 hW;rw[ea]at ha hab hxa ⊢;rw[eb]at hb hab hxb ⊢;have hgc:=Qf n bg bf bc es A hn hes hA hsp M fl bs cl a b hG ha hb hab;refine Ad Tryz.func90 rfl rfl 43 rfl (Nat.le_of_ble_eq_true rfl) ?_;(repeat refine AW.seq_k fun K hK=>?_);refine AW.rgR [4] ?_;simp[Al];try (refine hK _ rfl ?_;clear hK K)
 (repeat refine AW.seq_k fun K hK=>?_);refine AW.rg ?_;simp;try (refine hK _ rfl ?_;clear hK K)
 refine Aa.whole (fun _ h=>h) hgc ?_;rintro _ g ⟨fl1,bs1,cl1,rfl,hG1,f1,f2⟩;have f3:Ej fl1 b=1:=by
  rcases f2 with f2|f2
  ·exact absurd hT0 (hG1.inv.four ha hb hab (by omega) _ (by simp[Fe]) (by simp[Fe]))
  ·exact f2.1
 clear f2;simp[-Int.natCast_add];try (refine hK _ rfl ?_;clear hK K)
 clear hG hgc;have q1:=hG1.mem.g;have q2:=hG1.mem.f;have q4:=hG1.mem.fll;have hone:=H0 hG1.mem hG1.only;have hxl:x<fl1.length:=by rw[q4];exact hx
 have hfx:=Fq hxl;unfold Cx at q1;have hno:∀S:Nat→Bool,S a=true→S b=true→Far n (Ah es) (Ej fl1) (Dh cl1) S x→W=false:=fun S h1 h2 h3=>by
  cases hc:W with
  |false=>rfl
  |true =>
   obtain⟨X,x1,x2,x3⟩:=hW.1 hc;rw[Qiq hG1.inv ha hb hab hx (by omega) h1 h2 h3 x1 x2.1 x2.2]at x3;cases x3
 by_cases hz:0<fl1[x]
 ·have hWf:W=false:=hno (Fe a b) (by simp[Fe]) (by simp[Fe]) (fun X hX _=>⟨x,hx,hX,by simp[Fe,hxa,hxb],by omega⟩);(repeat refine AW.seq_k fun K hK=>?_);refine AW.rg ?_;simp[-Int.natCast_add,q1,q2,hx,q4,hz];try (refine hK _ rfl ?_;clear hK K)
  refine AW.yes ?_ rfl;(repeat refine AW.seq_k fun K hK=>?_);refine AW.rg ?_;simp[-Int.natCast_add];try (refine hK _ rfl ?_;clear hK K)
  exact AW.ret (Bo rfl hone ⟨by rw[hw,hWf];rfl,fl1,bs1,cl1,hG1⟩)
 have hz0:fl1[x]=0:=by omega
 (repeat refine AW.seq_k fun K hK=>?_);refine AW.rg ?_;simp[-Int.natCast_add,q1,q2,hx,q4,hz0];try (refine hK _ rfl ?_;clear hK K)
 refine AW.no ?_ rfl;refine AW.skip ?_;try simp[-Int.natCast_add]
 try (refine hK _ rfl ?_;clear hK K)
 (repeat refine AW.seq_k fun K hK=>?_);refine AW.rg ?_;simp[-Int.natCast_add,q1,q4];try (refine hK _ rfl ?_;clear hK K)
 refine⟨by omega,Af.intro fun bx hbx=>Af.intro fun c2 h2=>?_⟩;simp only[Am]at h2;refine hK _ rfl ?_;clear hK K;have hrep:List.replicate n (AV.bool false)=bools (List.replicate n false):=by simp[bools]
 rw[hrep];have ones1:∀c y,g.set bx ⟨4,1,bools (List.replicate n false)⟩ c=some y→∀v∈y.l,v.cells.all AV.one=true:=by
  intro c y hy v hv;by_cases e:c=bx
  ·rw[e,Ac.set_same]at hy;cases hy;exact Mc _ v hv
  ·rw[Ac.set_other _ _ e]at hy;exact hone c y hy v hv
 have hc2:g.set bx ⟨4,1,bools (List.replicate n false)⟩ c2=none:=by rw[Ac.set_other _ _ h2.1.1];exact h2.2
 refine AW.turn [(1,.int .i64 (a:Nat)),(2,.int .i64 (b:Nat)),(3,.int .i64 (x:Nat)),(4,.rptr [.ptr bg 3 0 0]),(8,.bool false),(9,.rptr [.osl bx 1 0 n])] (g.set bx ⟨4,1,bools (List.replicate n false)⟩) (Ba.drop hc2 ones1)
  (by simp[-Int.natCast_add];exact .ptr c2 1 0 0 ⟨137,1,[.osl bx 1 0 n]⟩ (.osl bx 1 0 n) (Ac.set_same _ _ _) hc2 rfl rfl) ?_
 have hl0:(bools (List.replicate n false)).length=n:=by simp
 (repeat refine AW.seq_k fun K hK=>?_);refine AW.rdT [] [9] [] [] [0,1,2,3,4,5,6,7,8,9,10,11] C6 (by simp[ha,hb,hx,hl0]) (by simp[ha,hb,hx,hl0]) (by simp[ha,hb,hx,hl0]) (by simp[ha,hb,hx,hl0]) (by simp[ha,hb,hx,hl0]) ?_;simp[ha,hb,hx,hl0];try (refine hK _ rfl ?_;clear hK K)
 rw[F2,F2,F2];have hsl:((((List.replicate n false).set a true).set b true).set x true).length=n:=by simp
 have hS:Fu ((((List.replicate n false).set a true).set b true).set x true)=Fg (Fg (Fg (fun _=>false) a true) b true) x true:=by
  rw[Kr (by simp;exact hx),Kr (by simp;exact hb),Kr (by simp;exact ha)]
  congr 3
  funext v
  unfold Fu;rw[List.getD_eq_getElem?_getD,List.getElem?_replicate];split<;>rfl
 generalize(((List.replicate n false).set a true).set b true).set x true=sn at hsl hS ⊢;(repeat refine AW.seq_k fun K hK=>?_);refine AW.rg ?_;simp;try (refine hK _ rfl ?_;clear hK K)
 refine⟨rfl,by simp[AV.cells,AV.one],Af.intro fun c3 h3=>?_⟩;simp only[Am]at h3;refine hK _ rfl ?_;clear hK K;(repeat refine AW.seq_k fun K hK=>?_);refine AW.rg ?_;simp;try (refine hK _ rfl ?_;clear hK K)
 have hnx:∀k∈Bc bg bf bc bs1,k≠bx∧k≠c3:=fun k hk=>⟨fun e=>hG1.mem.dom hk (by rw[e];exact hbx),fun e=>hG1.mem.dom hk (by rw[e];exact h3.2)⟩;have hV:Vg ((g.set bx ⟨4,1,bools sn⟩).set c3 ⟨100,1,[.fn 124 [.rptr [.ptr bg 3 0 0],.rptr [.osl bx 1 0 n],.ptr c3 1 0 0]]⟩) n bg bf bc bx c3 es fl1 bs1 cl1 sn :=
  {game:=hG1.mem.congr fun k hk=>by rw[Ac.set_other _ _ (hnx k hk).2,Ac.set_other _ _ (hnx k hk).1]
   seen:=by rw[Ac.set_other _ _ h3.1.2,Ac.set_same]
   snl:=hsl
   cell:=Ac.set_same _ _ _
   off:=hnx
   xc:=h3.1.2
   only:=fun k hk=>by
    simp only[List.mem_cons];by_cases e1:k=c3
    ·exact .inr (.inl e1)
    ·by_cases e2:k=bx
     ·exact .inl e2
     ·rw[Ac.set_other _ _ e1,Ac.set_other _ _ e2]at hk;exact .inr (.inr (hG1.only k hk))}
 have hc3:=hV.cell;unfold Qrt at hc3;have ih:=Qcp n bg bf bc bx c3 es A hn hes hA fl1 bs1 cl1 hG1.inv (Ga sn) _ sn x (Nat.le_refl _) hV hx;generalize(g.set bx ⟨4,1,bools sn⟩).set c3 ⟨100,1,[.fn 124 [.rptr [.ptr bg 3 0 0],.rptr [.osl bx 1 0 n],.ptr c3 1 0 0]]⟩=M2 at hV hc3 ih ⊢;(repeat refine AW.seq_k fun K hK=>?_);refine AW.rg ?_;simp[hc3];try (refine hK _ rfl ?_;clear hK K)
 refine⟨124,_,⟨rfl,rfl⟩,?_⟩;refine Aa.whole (fun _ h=>h) ih ?_;rintro _ g' ⟨ok,rfl,sn',hV',hF,hT⟩;simp;try (refine hK _ rfl ?_;clear hK K)
 have hrec:Ba g' (g'.only (Bc bg bf bc bs1)):=Ba.sub fun b x hb=>by
  by_cases hm:b∈Bc bg bf bc bs1
  ·rw[Bx hm]at hb;exact⟨hb,hV'.ones b x hb⟩
  ·rw[Bv hm]at hb;cases hb
 have hres:(!ok)=W:=by
  cases ok with
  |true =>
   have:=hT rfl;rw[hS]at this;rw[hno _ ?_ ?_ this];rfl
   ·unfold Fg;simp[Ne.symm hxa,hab]
   ·unfold Fg;simp[Ne.symm hxb]
  |false =>
   obtain⟨hL',hsh⟩:=hF rfl;rw[hS]at hL';have:=Qgt hG1.inv hsp ha hb hab hx he0 ⟨ea,eb⟩ f1 f3 (by rw[←hfx];exact hz0) hL' hsh;exact(hW.2 ⟨_,this.1,⟨this.2.1,this.2.2.1⟩,this.2.2.2⟩).symm
 refine AW.ret ⟨[.bool (!ok)],rfl,.bool (!ok),_,hrec,.same _,by rw[hw,hres],fl1,bs1,cl1,hV'.game.congr fun k hk=>Bx hk,fun k hk=>?_,hG1.inv⟩;rcases Decidable.em (k∈Bc bg bf bc bs1)with hm | hm
 ·exact hm
 ·exact absurd (Bv hm) hk
end Go.Av
end
section
namespace Go.Av
open Go.Proofs Go.Lam
section
variable {M:Ac} {n bg bf bc:Nat} {es:List RE} {fl:List Nat} {bs:List (Option Nat)} {cl:List (List Nat)}
theorem Vq (h:Dk M n bg bf bc es fl bs cl) (ho:Fm M (Bc bg bf bc bs)) {i b':Nat} {l':List Nat} (hi:i<n) (hf:b' ∉ Bc bg bf bc bs∨bs[i]?=some (some b')) {M':Ac}
  (h3:M' bc=some ⟨25,1,(Hi bs cl).set i (.osl b' 1 0 l'.length)⟩) (h4:M' b'=some ⟨3,1,Ax l'⟩) (h5:∀k∈Bc bg bf bc bs,k≠b'→k≠bc→bs[i]?≠some (some k)→M' k=M k)
  (h6:∀k,M' k≠none→k=b'∨k∈Bc bg bf bc bs∧(bs[i]?=some (some k)→k=b')):Dk M' n bg bf bc es fl (bs.set i (some b')) (cl.set i l')∧Fm M' (Bc bg bf bc (bs.set i (some b'))):=by
 have hib:i<bs.length:=by rw[h.bsl];exact hi
 have hb':b'≠bg∧b'≠bf∧b'≠bc:=by
  rcases hf with hf|hf
  ·simp only[Bc,List.mem_cons,not_or]at hf;exact⟨hf.1,hf.2.1,hf.2.2.1⟩
  ·exact h.ndr i b' hf
 have hrow:∀j,j≠i→bs[j]?≠some (some b'):=fun j hj e=>by
  rcases hf with hf|hf
  ·exact hf (Bh.2 (.inr (.inr (.inr ⟨j,e⟩))))
  ·exact hj (h.inj j i b' e hf)
 refine⟨h.setC hi hb' hrow ?_ ?_ h3 h4 ?_,?_⟩
 ·exact h5 bg (by simp[Bc]) (Ne.symm hb'.1) h.nd.2.1 fun e=>(h.ndr i bg e).1 rfl
 ·exact h5 bf (by simp[Bc]) (Ne.symm hb'.2.1) h.nd.2.2 fun e=>(h.ndr i bf e).2.1 rfl
 ·intro j b hj hb;exact h5 b (Bh.2 (.inr (.inr (.inr ⟨j,hb⟩)))) (fun e=>hrow j hj (e ▸ hb)) (h.ndr j b hb).2.2 (fun e=>hj (h.inj j i b hb e))
 ·intro k hk;rcases h6 k hk with rfl | ⟨hk,hk2⟩
  ·exact Bh.2 (.inr (.inr (.inr ⟨i,by rw[List.getElem?_set,if_pos rfl,if_pos hib]⟩)))
  ·refine Bh.2 ?_;rcases Bh.1 hk with hk | hk | hk | ⟨j,hj⟩
   ·exact .inl hk
   ·exact .inr (.inl hk)
   ·exact .inr (.inr (.inl hk))
   ·by_cases hij:i=j
    ·subst hij;rw[hk2 hj];exact .inr (.inr (.inr ⟨i,by rw[List.getElem?_set,if_pos rfl,if_pos hib]⟩))
    ·exact .inr (.inr (.inr ⟨j,by rw[List.getElem?_set,if_neg hij];exact hj⟩))
end
def Qw7 (n bg bf bc:Nat) (es:List RE) (A:List Nat) (e:Nat) (v:AV) (M':Ac):Prop :=
 v=.bool (My n ((A++[e]).map (Ah es)))∧∃(fl':List Nat) (bs':List (Option Nat)) (cl':List (List Nat)),I8 n bg bf bc es (Jm n (Ah es) A e) M' fl' bs' cl'
theorem Qab (n bg bf bc:Nat) (es:List RE) (A:List Nat) (hn:n≤12) (hes:Ly n es) (hA:∀e∈A,e<es.length) (hsp:Bf n (A.map (Ah es))) (M:Ac) (fl:List Nat) (bs:List (Option Nat)) (cl:List (List Nat)) (e:Nat) (he:e<es.length)
  (hG:I8 n bg bf bc es A M fl bs cl) :
  Ai Tryz.prog 82 [.ptr bg 3 0 0,.int .i64 (e:Nat)] M (Qw7 n bg bf bc es A e):=by
 obtain⟨e1,e2,e3⟩:=hes e he;have hLe:∀x∈(A++[e]).map (Ah es),Dz n x:=by
  simp only[List.mem_map,List.mem_append,List.mem_singleton];rintro _ ⟨k,hk | rfl,rfl⟩
  ·exact(hes k (hA k hk)).2.2
  ·exact e3
 have hmap:(A++[e]).map (Ah es)=A.map (Ah es)++[Ah es e]:=by simp
 have q1:=hG.mem.g;unfold Cx at q1;refine Ad Tryz.func82 rfl rfl 53 rfl (Nat.le_of_ble_eq_true rfl) ?_;(repeat refine AW.seq_k fun K hK=>?_);refine AW.rg ?_;simp[Al];try (refine hK _ rfl ?_;clear hK K)
 (repeat refine AW.seq_k fun K hK=>?_);refine AW.rdL [bg] [0,1,2,3,4,5,6,7,8,9,10,11,12,13,14,15,16,17] C6 (by simp[q1]) ?_;simp[q1,he,C1,e1,e2];try (refine hK _ rfl ?_;clear hK K)
 have hgc:=Qf n bg bf bc es A hn hes hA hsp M fl bs cl (Ah es e).1 (Ah es e).2 hG e3.1 e3.2.1 e3.2.2;obtain⟨a,ha⟩:∃a,(Ah es e).1=a:=⟨_,rfl⟩;obtain⟨b,hb⟩:∃b,(Ah es e).2=b:=⟨_,rfl⟩;rw[ha,hb]at hgc;simp only[ha,hb];have hE:Ah es e=(a,b):=by rw[←ha,←hb]
 have han:a<n:=ha ▸ e3.1;have hbn:b<n:=hb ▸ e3.2.1;have hab:a≠b:=by rw[←ha,←hb];exact e3.2.2
 (repeat refine AW.seq_k fun K hK=>?_);refine AW.rg ?_;simp;try (refine hK _ rfl ?_;clear hK K)
 refine Aa.whole (fun _ h=>h) hgc ?_;rintro _ g ⟨fl',bs',cl',rfl,hG',h2,h3⟩;rcases h3 with h3 | ⟨h3,X,hX,hXa,hXb⟩
 ·have hf:My n ((A++[e]).map (Ah es))=true:=by
   rw[H3 hLe,hmap,Tg hsp];intro X hX;cases hi:ins X (Ah es e)with
   |false=>rfl
   |true =>
    rw[hE,ins,Bool.and_eq_true]at hi;exact absurd hX (hG'.inv.four han hbn hab (by omega) X hi.1 hi.2)
  have hadd:Jm n (Ah es) A e=A++[e]:=by unfold Jm;rw[if_pos hf]
  rw[h2,h3];simp;try (refine hK _ rfl ?_;clear hK K)
  refine AW.no ?_ rfl;refine AW.skip ?_;try simp
  try (refine hK _ rfl ?_;clear hK K)
  have p1:=hG'.mem.g;have p2:=hG'.mem.f;have p4:=hG'.mem.fll;have hal:a<fl'.length:=by rw[p4];exact han
  have hx:fl'[a]=2:=by rw[Fq hal];exact h2
  have w2:IntKind.i64.wrap 1=1:=rfl;unfold Cx at p1;(repeat refine AW.seq_k fun K hK=>?_);refine AW.rg ?_;simp[p1,p2,han,p4,hx,w2];try (refine hK _ rfl ?_;clear hK K)
  rw[show(AV.int IntKind.i64 1)=.int .i64 ((1:Nat):Int) from rfl,Jq];have V4:=hG'.mem.setF a 1;have o4':Fm (g.set bf ⟨3,1,Ax (fl'.set a 1)⟩) (Bc bg bf bc bs'):=hG'.only.set _ (by simp[Bc]);generalize g.set bf ⟨3,1,Ax (fl'.set a 1)⟩=M4 at V4 o4' ⊢;have hinv:∀(M:Ac) (bs'':List (Option Nat)),Dk M n bg bf bc es (fl'.set a 1) bs'' (cl'.set a (Dh cl' a++[e]))∧Fm M (Bc bg bf bc bs'')→Qw7 n bg bf bc es A e (.bool true) M:=fun M bs'' h=>⟨by rw[hf],_,bs'',_,by
   rw[hadd];refine⟨h.1,h.2,?_⟩;rw[Xs hal,Ok (by rw[hG'.mem.cll];exact han)];have:=hG'.inv.lay (a:=a) (e:=e) ha e3 (by omega);rw[h2]at this;exact this⟩
  have q5:=V4.g;have q6:=V4.c;have hhl4:=He V4;obtain⟨o4,ho4,hget4⟩:=Lf V4 han;have hjh4:a<(Hi bs' cl').length:=by rw[hhl4];exact han
  have hgel4:(Hi bs' cl')[a]=hdO o4 (Dh cl' a):=by rw[List.getElem?_eq_getElem hjh4]at hget4;exact Option.some.inj hget4
  have nd:=V4.nd;have hbcn:bc≠bg:=Ne.symm nd.2.1;unfold Cx at q5;have hl3:(Dh cl' a).length≤2:=by have:=hG'.inv.two a han;omega
  refine AW.seq_ex (ι:=Ac × List (Option Nat)) (fun _=>[]) (fun z=>z.1) (fun z=>Dk z.1 n bg bf bc es (fl'.set a 1) z.2 (cl'.set a (Dh cl' a++[e]))∧Fm z.1 (Bc bg bf bc z.2)) ?_ ?_
  ·cases o4 with
   |none =>
    have hc0:=V4.nil a ho4;simp only[hdO]at hgel4;(repeat refine AW.seq_k fun K hK=>?_);refine AW.rdLR [50] [bg,bc] [0,1,2,3,4,5,6,7,8,9,10,11,12,13,14,15,16] C6 (by simp[q5,q6]) ?_;simp[q5,q6,han,hhl4,hgel4];refine⟨by unfold maxLen;omega,fun b6 h6 _=>?_⟩;have hfresh:b6 ∉ Bc bg bf bc bs':=fun hm=>V4.dom hm h6;have e1:¬bc=b6:=fun h=>hfresh (by rw[←h];simp[Bc]);simp[e1,han,hhl4];refine⟨_,Vq V4 o4' han (.inl hfresh) (by rw[Ac.set_same,hc0];rfl) (by rw[Ac.set_other _ _ (Ne.symm e1),Ac.set_same,hc0];rfl) (fun k _ hk1 hk2 _=>by rw[Ac.set_other _ _ hk2,Ac.set_other _ _ hk1]) (fun k hk=>?_)⟩
    by_cases k1:k=b6
    ·exact .inl k1
    ·refine .inr ⟨?_,fun h=>by rw[ho4]at h;cases h⟩;by_cases k2:k=bc
     ·rw[k2];simp[Bc]
     ·rw[Ac.set_other _ _ k2,Ac.set_other _ _ k1]at hk;exact o4' k hk
   |some b4 =>
    simp only[hdO]at hgel4;have q7:=V4.row a b4 ho4;have hnd4:=V4.ndr a b4 ho4;(repeat refine AW.seq_k fun K hK=>?_);refine AW.rdLR [50] [bg,bc] [0,1,2,3,4,5,6,7,8,9,10,11,12,13,14,15,16] C6 (by simp[q5,q6]) ?_;simp[q5,q6,q7,han,hhl4,hgel4,hnd4];refine⟨by omega,by unfold maxLen;omega,fun b6 h6 _=>?_⟩;have hf6:b6 ∉ Bc bg bf bc bs'∨bs'[a]?=some (some b6):=by
     by_cases e:b6=b4
     ·exact .inr (by rw[e];exact ho4)
     ·exact .inl fun hm=>V4.dom hm (by rwa [Ac.del_other _ e]at h6)
    have e1:¬bc=b6:=by
     intro h;rcases hf6 with hf6 | hf6
     ·exact hf6 (by rw[←h];simp[Bc])
     ·exact(V4.ndr a b6 hf6).2.2 h.symm
    have e2:¬bc=b4:=Ne.symm hnd4.2.2;simp[e1,e2,han,hhl4];refine⟨_,Vq V4 o4' han hf6 (by rw[Ac.set_same];simp) (by rw[Ac.set_other _ _ (Ne.symm e1),Ac.set_same,Ek]) (fun k _ hk1 hk2 hk3=>?_) (fun k hk=>?_)⟩
    ·have:k≠b4:=fun h=>hk3 (by rw[h];exact ho4);rw[Ac.set_other _ _ hk2,Ac.set_other _ _ hk1,Ac.del_other _ this]
    ·by_cases k1:k=b6
     ·exact .inl k1
     ·by_cases k2:k=bc
      ·exact .inr ⟨by rw[k2];simp[Bc],fun h=>absurd k2 (V4.ndr a k h).2.2⟩
      ·rw[Ac.set_other _ _ k2,Ac.set_other _ _ k1]at hk;by_cases k3:k=b4
       ·rw[k3,Ac.del_same]at hk;exact absurd rfl hk
       ·rw[Ac.del_other _ k3]at hk;exact .inr ⟨o4' k hk,fun h=>by rw[ho4]at h;cases h;exact absurd rfl k3⟩
  ·rintro⟨M5,bs5⟩ h5;simp only at h5 ⊢;(repeat refine AW.seq_k fun K hK=>?_);refine AW.rg ?_;simp;try (refine hK _ rfl ?_;clear hK K)
   exact AW.ret (Bo rfl (H0 h5.1 h5.2) (hinv M5 bs5 h5))
 ·have hf:My n ((A++[e]).map (Ah es))=false:=by
   cases hc:My n ((A++[e]).map (Ah es))with
   |false=>rfl
   |true =>
    rw[H3 hLe,hmap,Tg hsp]at hc;have:=hc X hX;rw[hE,ins,hXa,hXb]at this;cases this
  have hadd:Jm n (Ah es) A e=A:=by unfold Jm;rw[hf,if_neg (by simp)]
  rw[h2,h3];simp;try (refine hK _ rfl ?_;clear hK K)
  refine AW.yes ?_ rfl;(repeat refine AW.seq_k fun K hK=>?_);refine AW.rg ?_;simp;try (refine hK _ rfl ?_;clear hK K)
  exact AW.ret (Bo rfl (H0 hG'.mem hG'.only) ⟨by rw[hf];rfl,fl',bs',cl',by rw[hadd];exact hG'⟩)
end Go.Av
end
section
namespace Go.Av
open Go.Proofs Go.Lam
structure PSt where
 M:Ac
 fl:List Nat
 bs:List (Option Nat)
 cl:List (List Nat)
 ov:AV
 ob:List Nat
structure Qet (n bg bf bc:Nat) (es:List RE) (A:List Nat) (z:PSt):Prop where
 game:Dk z.M n bg bf bc es z.fl z.bs z.cl
 inv:Inv n (Ah es) A (Ej z.fl) (Dh z.cl)
 lst:Kz z.M 3 1 z.ov z.ob (Ax A)
 off:∀b∈z.ob,b ∉ Bc bg bf bc z.bs
 only:Fm z.M (z.ob++Bc bg bf bc z.bs)
theorem Qet.ones {n bg bf bc:Nat} {es:List RE} {A:List Nat} {z:PSt} (h:Qet n bg bf bc es A z):∀c y,z.M c=some y→∀v∈y.l,v.cells.all AV.one=true:=by
 intro c y hy v hv;rcases List.mem_append.1 (h.only c (by rw[hy];simp))with hc | hc
 ·rcases h.lst with⟨_,h2,_⟩|⟨b,h2,_,h3⟩
  ·rw[h2]at hc;cases hc
  ·rw[h2,List.mem_singleton]at hc;rw[hc,h3]at hy;cases hy;exact Cu _ v hv
 ·rcases Bh.1 hc with rfl|rfl|rfl|⟨i,hi⟩
  ·rw[h.game.g]at hy;cases hy;simp only[Cx,List.mem_singleton]at hv;subst hv;rfl
  ·rw[h.game.f]at hy;cases hy;exact Cu _ v hv
  ·rw[h.game.c]at hy;cases hy;exact Jh _ _ v hv
  ·rw[h.game.row i c hi]at hy;cases hy;exact Cu _ v hv
def Qo5 (n:Nat) (es:List RE) (A:List Nat) (v:AV) (M':Ac):Prop :=
 ∃(bg bf bc:Nat) (fl:List Nat) (bs:List (Option Nat)) (cl:List (List Nat)),v=.tup [.ptr bg 3 0 0,.sl 1 (Ax A)]∧I8 n bg bf bc es A M' fl bs cl
theorem P6 (n:Nat) (es:List RE) (hn:n≤12) (hes:Ly n es) (s:List Nat) (hs:∀k∈s,k<es.length) (hsl:s.length≤100) :
  Ai Tryz.prog 44 [.int .i64 (n:Nat),A8 es,.sl 1 (Ax s)] Ac.emp (Qo5 n es (B6 n (Ah es) [] s)):=by
 have hst:=Qcl n es hn;refine Ad Tryz.func44 rfl rfl 31 rfl (Nat.le_of_ble_eq_true rfl) ?_;unfold A8 at hst ⊢;(repeat refine AW.seq_k fun K hK=>?_);refine AW.rg ?_;simp[Al];try (refine hK _ rfl ?_;clear hK K)
 (repeat refine AW.seq_k fun K hK=>?_);refine AW.rg ?_;simp;try (refine hK _ rfl ?_;clear hK K)
 refine Aa.news hst ?_;rintro _ g ⟨bg,bf,bc,rfl,hG,ho⟩ _;simp;have hg:Ac.back Ac.emp [] g=g:=by funext k;simp only[Ac.back,Aw];cases g k<;>simp
 rw[hg];try (refine hK _ rfl ?_;clear hK K)
 (repeat refine AW.seq_k fun K hK=>?_);refine AW.rg ?_;simp;try (refine hK _ rfl ?_;clear hK K)
 refine AW.seq_ex (ι:=PSt) (fun z=>[(8,.ptr bg 3 0 0),(9,z.ov)]) (fun z=>z.M) (fun z=>Qet n bg bf bc es (B6 n (Ah es) [] s) z) ?_ ?_
 ·(repeat refine AW.seq_k fun K hK=>?_);refine AW.rg ?_;simp;try (refine hK _ rfl ?_;clear hK K)
  have hI0:Inv n (Ah es) [] (Ej (List.replicate n 2)) (Dh (List.replicate n [])):=by
   have h1:=Inv.start n (Ah es);refine⟨fun v hv=>?_,?_,fun v hv e he=>?_,by simp⟩
   ·rw[R9];unfold Ej;rw[List.getD_eq_getElem?_getD,List.getElem?_replicate,if_pos hv];rfl
   ·have:Dh (List.replicate n [])=fun _=>[]:=funext fun i=>R9 n i;rw[this];exact h1.perm
   ·rw[R9]at he;cases he
  refine AW.block (AW.loopS (ι:=PSt × Nat) (fun z=>[(8,.ptr bg 3 0 0),(9,z.1.ov),(15,.sl 1 (Ax s)),(16,.int .i64 (s.length:Nat)),(17,.int .i64 (z.2:Nat))]) (fun z=>z.1.M)
   (fun z=>z.2≤s.length∧Qet n bg bf bc es (B6 n (Ah es) [] (s.take z.2)) z.1) (fun z=>s.length-z.2) (⟨g,List.replicate n 2,List.replicate n none,List.replicate n [],.nil,[]⟩,0)
   ⟨by simp,⟨hG,hI0,.inl ⟨rfl,rfl,rfl⟩,by simp,ho⟩⟩ rfl (by simp) ?_)
  rintro⟨⟨M,fl,bs,cl,ov,ob⟩,i⟩ ⟨g1,g2⟩;simp only at g1 g2;(repeat refine AW.seq_k fun K hK=>?_);refine AW.rg ?_;simp;try (refine hK _ rfl ?_;clear hK K)
  (repeat refine AW.seq ?_);refine AW.cs (fun hi=>?_) (fun hi=>?_) rfl<;>(try simp at hi)
  ·refine AW.skip ?_;try simp
   try (refine hK _ rfl ?_;clear hK K)
   have w1:=Au (i+1) (by omega);obtain⟨e,he⟩:∃e,s[i]=e:=⟨_,rfl⟩;have hel:e<es.length:=hs e (he ▸ List.getElem_mem hi);have htk:B6 n (Ah es) [] (s.take (i+1))=Jm n (Ah es) (B6 n (Ah es) [] (s.take i)) e:=by
    rw[Jj hi he,U2];rfl
   have hA:∀k∈B6 n (Ah es) [] (s.take i),k<es.length:=fun k hk=>by
    rcases N3 hk with h|h
    ·cases h
    ·exact hs k (List.mem_of_mem_take h)
   have hsp:Bf n ((B6 n (Ah es) [] (s.take i)).map (Ah es)):=G2 (by simp) (hes.at fun k hk=>hs k (List.mem_of_mem_take hk)) (Bf.nil n);have hAl:(B6 n (Ah es) [] (s.take i)).length≤100:=by
    have:=Gq (n:=n) (E:=Ah es) (s.take i) [];simp at this;omega
   generalize B6 n (Ah es) [] (s.take i)=A at *;have hon:I8 n bg bf bc es A (M.only (Bc bg bf bc bs)) fl bs cl:=⟨g2.game.congr fun k hk=>Bx hk,fun k hk=>by
    rcases Decidable.em (k∈Bc bg bf bc bs)with hm|hm
    ·exact hm
    ·exact absurd (Bv hm) hk,g2.inv⟩
   have hac:=Qab n bg bf bc es A hn hes hA hsp _ fl bs cl e hel hon;(repeat refine AW.seq ?_);refine AW.block ?_;(repeat refine AW.seq_k fun K hK=>?_);refine AW.rg ?_;simp[hi,he];try (refine hK _ rfl ?_;clear hK K)
   (repeat refine AW.seq_k fun K hK=>?_);refine AW.rg ?_;simp;try (refine hK _ rfl ?_;clear hK K)
   refine Aa.hand (Bc bg bf bc bs) (fun _ _ h=>h) hac ?_;rintro _ g' ⟨rfl,fl',bs',cl',hG'⟩ hnew;have hobM:∀b∈ob,M b≠none:=fun b hb=>by
    rcases g2.lst with⟨_,h2,_⟩|⟨b',h2,_,h3⟩
    ·simp only at h2;rw[h2]at hb;cases hb
    ·simp only at h2 h3;rw[h2,List.mem_singleton]at hb;rw[hb,h3];simp
   have hobN:∀b∈ob,b ∉ Bc bg bf bc bs':=fun b hb hm=>by
    rcases hnew b (hG'.mem.dom hm)with h|h
    ·exact g2.off b hb h
    ·exact hobM b hb h.1
   have hM2:∀k∈Bc bg bf bc bs',M.back (Bc bg bf bc bs) g' k=g' k:=fun k hk=>by
    unfold Ac.back;cases h:g' k with
    |some x=>rfl
    |none=>exact absurd h (hG'.mem.dom hk)
   have hM2o:∀b∈ob,M.back (Bc bg bf bc bs) g' b=M b:=fun b hb=>by
    have h:g' b=none:=by
     cases h:g' b with
     |none=>rfl
     |some x=>exact absurd (hG'.only b (by rw[h];simp)) (hobN b hb)
    unfold Ac.back;rw[h];exact if_neg (g2.off b hb)
   have hM2n:∀k,M.back (Bc bg bf bc bs) g' k≠none→k∈ob++Bc bg bf bc bs':=fun k hk=>by
    unfold Ac.back at hk;cases h:g' k with
    |some x=>exact List.mem_append_right _ (hG'.only k (by rw[h];simp))
    |none =>
     rw[h]at hk;simp only at hk;by_cases hm:k∈Bc bg bf bc bs
     ·rw[if_pos hm]at hk;exact absurd rfl hk
     ·rw[if_neg hm]at hk;rcases List.mem_append.1 (g2.only k hk)with h' | h'
      ·exact List.mem_append_left _ h'
      ·exact absurd h' hm
   have gm:=hG'.mem.congr hM2;have lm:=g2.lst.keep hM2o;generalize M.back (Bc bg bf bc bs) g'=M2 at gm lm hM2o hM2n ⊢;cases hf:My n ((A++[e]).map (Ah es))with
   |false =>
    have hadd:Jm n (Ah es) A e=A:=by unfold Jm;rw[hf,if_neg (by simp)]
    rw[hadd]at htk hG';simp;try (refine hK _ rfl ?_;clear hK K)
    refine AW.no ?_ rfl;refine AW.skip ?_;try simp
    try (refine hK _ rfl ?_;clear hK K)
    (repeat refine AW.seq_k fun K hK=>?_);refine AW.rg ?_;simp[-Int.natCast_add,w1];try (refine hK _ rfl ?_;clear hK K)
    exact⟨⟨M2,fl',bs',cl',ov,ob⟩,i+1,⟨by omega,by rw[htk];exact⟨gm,hG'.inv,lm,hobN,hM2n⟩⟩,by omega,rfl,rfl,rfl⟩
   |true =>
    have hadd:Jm n (Ah es) A e=A++[e]:=by unfold Jm;rw[hf,if_pos rfl]
    rw[hadd]at htk hG';simp;try (refine hK _ rfl ?_;clear hK K)
    refine AW.yes ?_ rfl;rcases lm with⟨l1,l2,l3⟩ | ⟨b0,l2,l3,l4⟩
    ·simp only at l1 l2 l3;have hA0:A=[]:=by unfold Ax at l1;exact List.map_eq_nil_iff.1 l1
     subst l2;subst l3;subst hA0;(repeat refine AW.seq_k fun K hK=>?_);refine AW.rgR [26] ?_;simp;try (refine hK _ rfl ?_;clear hK K)
     refine⟨by unfold maxLen;omega,Af.intro fun b6 h6=>?_⟩;have hb6:b6 ∉ Bc bg bf bc bs':=fun hm=>gm.dom hm h6;(repeat refine AW.seq_k fun K hK=>?_);refine AW.rg ?_;simp[-Int.natCast_add,w1];try (refine hK _ rfl ?_;clear hK K)
     refine⟨⟨M2.set b6 ⟨3,1,[.int .i64 (e:Nat)]⟩,fl',bs',cl',.osl b6 1 0 1,[b6]⟩,i+1,⟨by omega,?_⟩,by omega,rfl,rfl,rfl⟩;rw[htk];exact⟨gm.congr fun k hk=>Ac.set_other _ _ (fun h=>hb6 (h ▸ hk)),hG'.inv,.inr ⟨b6,rfl,rfl,Ac.set_same _ _ _⟩,fun b hb=>by rw[List.mem_singleton]at hb;rw[hb];exact hb6,fun k hk=>by
      by_cases h:k=b6
      ·rw[h];simp
      ·simp only at hk;rw[Ac.set_other _ _ h]at hk;have:=hM2n k hk;simp only[List.nil_append]at this;exact List.mem_append_right _ this⟩
    ·simp only at l2 l3 l4;subst l2;subst l3;(repeat refine AW.seq_k fun K hK=>?_);refine AW.rgR [26] ?_;simp[l4];try (refine hK _ rfl ?_;clear hK K)
     refine⟨by omega,by unfold maxLen;omega,Af.intro fun b6 h6=>?_⟩;have hb0:b0 ∉ Bc bg bf bc bs':=hobN b0 (by simp);have hb6:b6 ∉ Bc bg bf bc bs':=fun hm=>by
      by_cases h:b6=b0
      ·exact hb0 (h ▸ hm)
      ·rw[Ac.del_other _ h]at h6;exact gm.dom hm h6
     (repeat refine AW.seq_k fun K hK=>?_);refine AW.rg ?_;simp[-Int.natCast_add,w1];try (refine hK _ rfl ?_;clear hK K)
     refine⟨⟨(M2.del b0).set b6 ⟨3,1,Ax A++[.int .i64 (e:Nat)]⟩,fl',bs',cl',.osl b6 1 0 (A.length+1),[b6]⟩,i+1,⟨by omega,?_⟩,by omega,rfl,rfl,rfl⟩;rw[htk];refine⟨gm.congr fun k hk=>by simp only;rw[Ac.set_other _ _ (fun h=>hb6 (by rw[←h];exact hk)),Ac.del_other _ (fun h=>hb0 (by rw[←h];exact hk))],hG'.inv,.inr ⟨b6,rfl,by simp,by simp only;rw[Ac.set_same,Ek]⟩,fun b hb=>by rw[List.mem_singleton]at hb;rw[hb];exact hb6,fun k hk=>?_⟩;by_cases h:k=b6
     ·rw[h];simp
     ·simp only at hk;rw[Ac.set_other _ _ h]at hk;by_cases h':k=b0
      ·rw[h',Ac.del_same]at hk;exact absurd rfl hk
      ·rw[Ac.del_other _ h']at hk;have:=hM2n k hk;simp only[List.singleton_append,List.mem_cons]at this;exact List.mem_append_right _ (this.resolve_left h')
  ·refine AW.exit ?_;try simp
   rw[show i=s.length by omega,List.take_length]at g2;exact⟨_,g2,rfl,rfl⟩
 rintro⟨M,fl,bs,cl,ov,ob⟩ hz;simp only;(repeat refine AW.seq_k fun K hK=>?_);refine AW.rg ?_;simp;try (refine hK _ rfl ?_;clear hK K)
 have hone:=hz.ones;have hview:=hz.lst.view (M':=M.only (Bc bg bf bc bs)) (fun b hb=>Bv (hz.off b hb));refine AW.ret ⟨[.ptr bg 3 0 0,ov],rfl,.tup [.ptr bg 3 0 0,.sl 1 (Ax (B6 n (Ah es) [] s))],M.only (Bc bg bf bc bs),Ba.sub fun b x hb=>?_,Br.tupL ⟨.same _,hview,trivial⟩,bg,bf,bc,fl,bs,cl,rfl,hz.game.congr fun k hk=>Bx hk,fun k hk=>?_,hz.inv⟩
 ·by_cases hm:b∈Bc bg bf bc bs
  ·rw[Bx hm]at hb;exact⟨hb,hone b x hb⟩
  ·rw[Bv hm]at hb;cases hb
 ·rcases Decidable.em (k∈Bc bg bf bc bs)with hm|hm
  ·exact hm
  ·exact absurd (Bv hm) hk
end Go.Av
end
section
namespace Go.Av
open Go.Proofs Go.Lam
theorem Rg (n:Int) (es:List RE) (hb:LbE es):Ai Tryz.prog 13 [.int .i64 n,A8 es] Ac.emp fun v m=>v=.tup [.sl 1 (Ax (Ho n es)),Cg n es]∧m=Ac.emp:=by
 have hc:=Pp n es hb;refine Ad Tryz.func13 rfl rfl 24 rfl (Nat.le_of_ble_eq_true rfl) ?_;unfold A8 at hc ⊢;(repeat refine AW.seq_k fun K hK=>?_);refine AW.rg ?_;simp[Al];try (refine hK _ rfl ?_;clear hK K)
 (repeat refine AW.seq_k fun K hK=>?_);refine AW.rg ?_;simp;try (refine hK _ rfl ?_;clear hK K)
 refine Aa.val hc ?_;by_cases hk:Ds n es=true;rotate_left
 ·have e1:Cg n es=.int .i64 1:=by unfold Cg;rw[if_neg hk]
  have e2:Ho n es=[]:=by unfold Ho;rw[if_neg hk]
  simp[e1];try (refine hK _ rfl ?_;clear hK K)
  (repeat refine AW.seq_k fun K hK=>?_);refine AW.rg ?_;simp;try (refine hK _ rfl ?_;clear hK K)
  refine AW.yes ?_ rfl;(repeat refine AW.seq_k fun K hK=>?_);refine AW.rg ?_;simp;try (refine hK _ rfl ?_;clear hK K)
  exact AW.ret (Ae [.sl 1 (Ax []),.int .i64 1] rfl ⟨.nilsl 1,.same _,trivial⟩ ⟨by rw[e2,e1];rfl,rfl⟩)
 have e1:Cg n es=.int .i64 0:=by unfold Cg;rw[if_pos hk]
 have e2:Ho n es=B6 n.toNat (Ah es) [] (List.range es.length):=by unfold Ho;rw[if_pos hk]
 obtain⟨⟨h1,h2,h3⟩,_⟩:=El hk;have hok:=Sd hk;obtain⟨N,rfl⟩:=Int.eq_ofNat_of_zero_le (show 0≤n by omega);simp only[Int.toNat_natCast]at hok e2;have hall:=Ww es h3;have hpl:=P6 N es (by omega) hok (List.range es.length) (by simp) (by simp;omega);unfold A8 at hall hpl;simp[e1];try (refine hK _ rfl ?_;clear hK K)
 (repeat refine AW.seq_k fun K hK=>?_);refine AW.rg ?_;simp;try (refine hK _ rfl ?_;clear hK K)
 refine AW.no ?_ rfl;refine AW.skip ?_;try simp
 try (refine hK _ rfl ?_;clear hK K)
 (repeat refine AW.seq_k fun K hK=>?_);refine AW.rg ?_;simp;try (refine hK _ rfl ?_;clear hK K)
 refine Aa.val hall ?_;simp;refine Aa.news hpl ?_;rintro _ g ⟨bg,bf,bc,fl,bs,cl,rfl,hG⟩ _;simp;try (refine hK _ rfl ?_;clear hK K)
 (repeat refine AW.seq_k fun K hK=>?_);refine AW.rg ?_;simp;try (refine hK _ rfl ?_;clear hK K)
 exact AW.ret (Ae [.sl 1 (Ax (B6 N (Ah es) [] (List.range es.length))),.int .i64 0] rfl ⟨.same _,.same _,trivial⟩ ⟨by rw[e2,e1];rfl,rfl⟩)
theorem Vj (n:Int) (es:List RE) (hb:LbE es):Ai Tryz.prog 15 [.int .i64 n,A8 es] Ac.emp fun v m=>v=.tup [Ua n es,Cg n es]∧m=Ac.emp:=by
 have hc:=Rg n es hb;refine Ad Tryz.func15 rfl rfl 27 rfl (Nat.le_of_ble_eq_true rfl) ?_;unfold A8 at hc ⊢;(repeat refine AW.seq_k fun K hK=>?_);refine AW.rg ?_;simp[Al];try (refine hK _ rfl ?_;clear hK K)
 (repeat refine AW.seq_k fun K hK=>?_);refine AW.rg ?_;simp;try (refine hK _ rfl ?_;clear hK K)
 refine Aa.val hc ?_;by_cases hk:Ds n es=true;rotate_left
 ·have e1:Cg n es=.int .i64 1:=by unfold Cg;rw[if_neg hk]
  have e2:Ua n es=.int .i64 0:=by unfold Ua;rw[if_neg hk]
  simp[e1];try (refine hK _ rfl ?_;clear hK K)
  (repeat refine AW.seq_k fun K hK=>?_);refine AW.rg ?_;simp;try (refine hK _ rfl ?_;clear hK K)
  refine AW.yes ?_ rfl;(repeat refine AW.seq_k fun K hK=>?_);refine AW.rg ?_;simp;try (refine hK _ rfl ?_;clear hK K)
  exact AW.ret (Ae [.int .i64 0,.int .i64 1] rfl ⟨.same _,.same _,trivial⟩ ⟨by rw[e2,e1];rfl,rfl⟩)
 have e1:Cg n es=.int .i64 0:=by unfold Cg;rw[if_pos hk]
 have hle:=Xn hk;obtain⟨⟨h1,h2,h3⟩,_⟩:=El hk;have e2:Ua n es=.int .i64 (if n=1 then 0 else 2*n-3-((Ho n es).length:Int)):=by unfold Ua;rw[if_pos hk]
 generalize Ho n es=O at *;simp[e1];try (refine hK _ rfl ?_;clear hK K)
 by_cases hn:n=1
 ·(repeat refine AW.seq_k fun K hK=>?_);refine AW.rg ?_;simp[hn];try (refine hK _ rfl ?_;clear hK K)
  refine AW.yes ?_ rfl;(repeat refine AW.seq_k fun K hK=>?_);refine AW.rg ?_;simp;try (refine hK _ rfl ?_;clear hK K)
  exact AW.ret (Ae [.int .i64 0,.int .i64 0] rfl ⟨.same _,.same _,trivial⟩ ⟨by rw[e2,e1,if_pos hn];rfl,rfl⟩)
 rw[if_neg hn]at e2;(repeat refine AW.seq_k fun K hK=>?_);refine AW.rg ?_;simp[hn];try (refine hK _ rfl ?_;clear hK K)
 refine AW.no ?_ rfl;refine AW.skip ?_;try simp
 try (refine hK _ rfl ?_;clear hK K)
 have w1:IntKind.i64.wrap (2*n)=2*n:=Oc (by omega);have w2:IntKind.i64.wrap (2*n-3)=2*n-3:=Oc (by omega);have w3:IntKind.i64.wrap (2*n-3-(O.length:Int))=2*n-3-(O.length:Int):=Oc (by omega);(repeat refine AW.seq_k fun K hK=>?_);refine AW.rg ?_;simp[w1,w2,w3];try (refine hK _ rfl ?_;clear hK K)
 exact AW.ret (Ae [.int .i64 (2*n-3-(O.length:Int)),.int .i64 0] rfl ⟨.same _,.same _,trivial⟩ ⟨by rw[e2,e1];rfl,rfl⟩)
end Go.Av
end
section
namespace Go.Av
section
variable {P:Program}
def isZ (o:Oper):Bool:=match o.op with
 |.call c=>match c.callee with | .builtin .append=>true | _=>false
 |_=>false
def Qwz (P:Program) (o:Oper) (s:St) (k:AV→Ac→Prop):Prop:=match o.op with
 |.call c=>match c.callee with
  |.builtin .append=>∃x y t ti e te,c.args.toList=[x,y]∧c.argTypes.toList=[t,t]∧Ak P t=some ti∧ti.cls=.slice e∧Ak P e=some te∧0<te.size ∧
    (s.ev x=.nil∨s.ev x=.zc)∧Gp s.m te.size (s.ev y)=some []∧k .zc s.m
  |_=>False
 |_=>False
def Zn (P:Program) (cf:D6) (o:Oper) (K:St→Prop) (s:St):Prop:=if isZ o=true then Qwz P o s fun v m'=>K ({s with m:=m'}.put o.dst v) else E1 P cf o K s
def Qfm (P:Program) (cf:D6):List Oper→(St→Prop)→St→Prop
 |[],K,s=>K s
 |o::rest,K,s=>o.guard=none∧Zn P cf o (Qfm P cf rest K) s
@[simp] theorem Qtr (cf:D6) (K:St→Prop) (s:St):Qfm P cf [] K s=K s:=(rfl)
@[simp] theorem Qpx (cf:D6) (d:Option Tmp) (op:Op) (t:TypeId) (p:String) (a:Array Edge) (l:List Oper) (K:St→Prop) (s:St) :
  Qfm P cf ({dst:=d,op:=op,type:=t,pos:=p,after:=a,guard:=none}::l) K s↔Zn P cf {dst:=d,op:=op,type:=t,pos:=p,after:=a,guard:=none} (Qfm P cf l K) s:=by
 show(_∧_)↔_
 simp
@[simp] theorem Qto (cf:D6) (K:St→Prop) (s:St) (d:Option Tmp) (x:Operand) (ty:TypeId) (p:String) (a:Array Edge) (g:Option (Nat × Bool)):Zn P cf ⟨d,.move x,ty,p,a,g⟩ K s=E1 P cf ⟨d,.move x,ty,p,a,g⟩ K s:=(rfl)
@[simp] theorem Qoz (cf:D6) (K:St→Prop) (s:St) (d:Option Tmp) (x:Operand) (ty:TypeId) (p:String) (a:Array Edge) (g:Option (Nat × Bool)):Zn P cf ⟨d,.assign x,ty,p,a,g⟩ K s=E1 P cf ⟨d,.assign x,ty,p,a,g⟩ K s:=(rfl)
@[simp] theorem Qsc (cf:D6) (K:St→Prop) (s:St) (d:Option Tmp) (t:TypeId) (x:Operand) (lo hi mx:Option Operand) (ty:TypeId) (p:String) (a:Array Edge) (g:Option (Nat × Bool)):Zn P cf ⟨d,.slice t x lo hi mx,ty,p,a,g⟩ K s=E1 P cf ⟨d,.slice t x lo hi mx,ty,p,a,g⟩ K s:=(rfl)
@[simp] theorem Qqx (cf:D6) (K:St→Prop) (s:St) (d:Option Tmp) (o:BinOp) (t t':TypeId) (x y:Operand) (ty:TypeId) (p:String) (a:Array Edge) (g:Option (Nat × Bool)):Zn P cf ⟨d,.binOp o t x y t',ty,p,a,g⟩ K s=E1 P cf ⟨d,.binOp o t x y t',ty,p,a,g⟩ K s:=(rfl)
def emK (x:Option (List AV)) (k:Prop):Prop:=x=some []∧k
@[simp] theorem Qya (k:Prop):emK (some []) k↔k:=by simp[emK]
@[congr] theorem Qt8 {x y:Option (List AV)} {k:Prop} (h:x=y):emK x k=emK y k:=by rw[h]
def zK (x:AV) (k:Prop):Prop:=(x=.nil∨x=.zc)∧k
@[simp] theorem Qy2 (k:Prop):zK .nil k↔k:=by simp[zK]
@[simp] theorem Qz9 (k:Prop):zK .zc k↔k:=by simp[zK]
@[congr] theorem Qwn {x y:AV} {k:Prop} (h:x=y):zK x k=zK y k:=by rw[h]
@[simp] theorem Qnv (cf:D6) (K:St→Prop) (s:St) (d:Option Tmp) (x y:Operand) (t ty:TypeId) (p:String) (a:Array Edge) (g:Option (Nat × Bool)):Zn P cf ⟨d,.call ⟨.builtin .append,#[x,y],#[t,t]⟩,ty,p,a,g⟩ K s↔Us (Ak P t) fun ti=>eK (Qr ti.cls) fun e=>Us (Ak P e) fun te=>0<te.size∧zK (s.ev x) (emK (Gp s.m te.size (s.ev y)) (J0 K s d .zc s.m)):=by
 unfold Zn Qwz Us eK zK emK;simp only[isZ,if_true];constructor
 ·rintro⟨x',y',t',ti,e,te,h1,h2,q1,q2,q3,q4,q5,q6,q7⟩;simp only[List.cons.injEq,and_true]at h1 h2;obtain⟨rfl,rfl⟩:=h1;obtain⟨rfl,_⟩:=h2;exact⟨ti,q1,e,Dw.2 q2,te,q3,q4,q5,q6,q7⟩
 ·rintro⟨ti,q1,e,q2,te,q3,q4,q5,q6,q7⟩;exact⟨x,y,t,ti,e,te,rfl,rfl,q1,Dw.1 q2,q3,q4,q5,q6,q7⟩
end
end Go.Av
end
section
namespace Go.Av
open Go.Proofs Go.Lam
def Xw (o:Option Nat) (l:List Nat):AV:=match o with
 |none=>.nil
 |some b=>.osl b 1 0 l.length
def lsM (o:Option Nat) (l:List Nat) (m:Ac):Ac:=match o with
 |none=>m
 |some b=>m.set b ⟨3,1,Ax l⟩
theorem Qjg {o:Option Nat} {l:List Nat} {m:Ac} (h:∀c y,m c=some y→∀v∈y.l,v.cells.all AV.one=true):∀c y,lsM o l m c=some y→∀v∈y.l,v.cells.all AV.one=true:=by
 intro c y hy;cases o with
 |none=>exact h c y hy
 |some b =>
  unfold lsM at hy;simp only[A6]at hy;split at hy
  ·cases hy;exact Cu _
  ·exact h c y hy
theorem Qhy {b:Nat} {m:Ac} (h:m b=none):m.del b=m:=by
 funext c
 unfold Ac.del;by_cases hc:c=b
 ·rw[if_pos hc,hc,h]
 ·rw[if_neg hc]
theorem Aa.look {P:Program} {av:Nat→Prop} {f:FuncId} {args:List AV} {m:Ac} {k:AV→Ac→Prop} {v:AV} (args':List AV) (hv:D8 m Ac.emp args args') (h:Ai P f args' Ac.emp fun v' m'=>v'=v∧m'=Ac.emp) (hf:v.flat=true) (hk:k v m):Aa P av f args m k :=
 .inr ⟨args',_,Da hv,h,fun v' _ hr=>by rw[hr.1];exact⟨hf,hk⟩⟩
theorem Qki:∀c y,Ac.emp c=some y→∀v∈y.l,v.cells.all AV.one=true:=by intro c y hy;cases hy
theorem Qju {o:Option Nat} {l:List Nat} {M M':Ac} (h0:o=none→l=[]) (h1:∀b,o=some b→M b=some ⟨3,1,Ax l⟩∧M' b=none):Br M M' (Xw o l) (.sl 1 (Ax l)):=by
 cases o with
 |none=>rw[h0 rfl];exact .nilsl 1
 |some b =>
  obtain⟨h2,h3⟩:=h1 b rfl;exact Kz.view (ob:=[b]) (ty:=3) (.inr ⟨b,rfl,by unfold Xw;rw[Lj],h2⟩) (by simpa using h3)
def ltL (e:Nat) (l:List Nat):List Nat:=l.filter fun k=>decide (k<e)
def Qio (n:Int) (es:List RE) (e:Nat):List Nat:=ltL e (Ho n es)
def Wh (n:Nat) (es:List RE) (B:List Nat) (e k:Nat):Bool:=My n ((B.eraseIdx k++[e]).map (Ah es))
def Hm (n:Nat) (es:List RE) (B:List Nat) (e i:Nat):List Nat:=((List.range i).filter (Wh n es B e)).map fun k=>B.getD k 0
def Qon (n:Int) (es:List RE) (e:Nat):List Nat:=Hm n.toNat es (Qio n es e) e (Qio n es e).length++[e]
def It (n:Int) (es:List RE) (e:Int):Int:=if Ds n es=true then (if e<0∨(es.length:Int)≤e then 1 else if e.toNat∈Ho n es then 7 else 0) else 1
def Lt (n:Int) (es:List RE) (e:Int):AV:=.tup [.sl 1 (Ax (if It n es e=0 then Qon n es e.toNat else [])),.int .i64 (It n es e)]
theorem Qdg (n:Nat) (es:List RE) (B:List Nat) (e i:Nat) (hi:i<B.length):Hm n es B e (i+1)=Hm n es B e i++(if Wh n es B e i=true then [B[i]] else []):=by
 unfold Hm;rw[List.range_succ,List.filter_append,List.map_append];cases h:Wh n es B e i<;>simp[h,hi]
theorem Vx (n:Nat) (es:List RE) (B:List Nat) (e i:Nat):(Hm n es B e i).length≤i:=by
 unfold Hm;have:=List.length_filter_le (Wh n es B e) (List.range i);simp at this ⊢;omega
theorem Qe0 {n:Int} {es:List RE} {k:Nat} (h:k∈Ho n es):k<es.length:=by
 unfold Ho at h;split at h
 ·exact Qga h
 ·cases h
theorem Qf0 (O:List Nat) (e i:Nat) (hi:i<O.length):ltL e (O.take (i+1))=ltL e (O.take i)++(if O[i]<e then [O[i]] else []):=by
 unfold ltL;rw[List.take_add_one,List.filter_append,List.getElem?_eq_getElem hi];by_cases h:O[i]<e<;>simp[h]
theorem Qjb (O:List Nat) (e i:Nat):(ltL e (O.take i)).length≤O.length:=by
 unfold ltL;have h1:=List.length_filter_le (fun k=>decide (k<e)) (O.take i);have h2:(O.take i).length≤O.length:=by simp;omega
 omega
theorem Qgy {n:Int} {es:List RE} {e:Int} (h:¬Ds n es=true):It n es e=1:=by unfold It;rw[if_neg h]
theorem Qfq {n:Int} {es:List RE} {e:Int} (h:Ds n es=true) (he:e<0∨(es.length:Int)≤e):It n es e=1:=by unfold It;rw[if_pos h,if_pos he]
theorem Qjc {n:Int} {es:List RE} {e:Nat} (h:Ds n es=true) (he:e<es.length) (hi:e∈Ho n es):It n es (e:Nat)=7:=by
 unfold It;rw[if_pos h,if_neg (by omega),if_pos (by simpa using hi)]
theorem Qh8 {n:Int} {es:List RE} {e:Nat} (h:Ds n es=true) (he:e<es.length) (hi:e ∉ Ho n es):It n es (e:Nat)=0:=by
 unfold It;rw[if_pos h,if_neg (by omega),if_neg (by simpa using hi)]
theorem Qem {n:Int} {es:List RE} {e:Int} (h:It n es e=1):Lt n es e=.tup [.sl 1 (Ax []),.int .i64 1]:=by unfold Lt;rw[h,if_neg (by decide)]
theorem Qmr {n:Int} {es:List RE} {e:Int} (h:It n es e=7):Lt n es e=.tup [.sl 1 (Ax []),.int .i64 7]:=by unfold Lt;rw[h,if_neg (by decide)]
theorem Ql6 {n:Int} {es:List RE} {e:Nat} (h:It n es (e:Nat)=0):Lt n es (e:Nat)=.tup [.sl 1 (Ax (Hm n.toNat es (Qio n es e) e (Qio n es e).length++[e])),.int .i64 0]:=by unfold Lt Qon;rw[h,if_pos rfl];simp
end Go.Av
end
section
namespace Go.Av
open Go.Proofs Go.Lam
theorem Un {m:Ac} {b:Nat} {x:Ev} (h:m b=some x):m.only [b]=Ac.emp.set b x:=by
 funext c
 by_cases hc:c=b
 ·subst hc;rw[Bx (by simp),h];simp
 ·rw[Bv (by simpa using hc)];simp[Ac.set,hc,Ac.emp]
theorem Y9 {m:Ac} {b:Nat} {y:Ev}:m.back [b] (Ac.emp.set b y)=m.set b y:=by
 funext c
 unfold Ac.back;by_cases hc:c=b
 ·subst hc;simp
 ·simp[Ac.set,hc,Ac.emp]
theorem Qck (n:Int) (es:List RE) (e:Int) (hb:LbE es):Ai Tryz.prog 20 [.int .i64 n,A8 es,.int .i64 e] Ac.emp fun v m=>v=Lt n es e∧m=Ac.emp:=by
 have hc:=Rg n es hb;refine Ad Tryz.func20 rfl rfl 90 rfl (Nat.le_of_ble_eq_true rfl) ?_;unfold A8 at hc ⊢;(repeat refine AW.seq_k fun K hK=>?_);refine AW.rg ?_;simp[Al];try (refine hK _ rfl ?_;clear hK K)
 (repeat refine AW.seq_k fun K hK=>?_);refine AW.rg ?_;simp;try (refine hK _ rfl ?_;clear hK K)
 refine Aa.val hc ?_;by_cases hk:Ds n es=true;rotate_left
 ·have e1:Cg n es=.int .i64 1:=by unfold Cg;rw[if_neg hk]
  simp[e1];try (refine hK _ rfl ?_;clear hK K)
  (repeat refine AW.seq_k fun K hK=>?_);refine AW.rg ?_;simp;try (refine hK _ rfl ?_;clear hK K)
  refine AW.yes ?_ rfl;(repeat refine AW.seq_k fun K hK=>?_);refine AW.rg ?_;simp;try (refine hK _ rfl ?_;clear hK K)
  exact AW.ret (Ae [.sl 1 (Ax []),.int .i64 1] rfl ⟨.nilsl 1,.same _,trivial⟩ ⟨by rw[Qem (Qgy hk)];rfl,rfl⟩)
 have e1:Cg n es=.int .i64 0:=by unfold Cg;rw[if_pos hk]
 obtain⟨⟨h1,h2,h3⟩,_⟩:=El hk;have hok:=Sd hk;have hle:=Xn hk;have hlt:=fun k=>Qe0 (n:=n) (es:=es) (k:=k);have hCi:=fun e=>Qjc (n:=n) (es:=es) (e:=e) hk;have hCo:=fun e=>Qh8 (n:=n) (es:=es) (e:=e) hk;have hR:=fun e=>Ql6 (n:=n) (es:=es) (e:=e);unfold Qio at hR;generalize Ho n es=O at *;obtain⟨N,rfl⟩:=Int.eq_ofNat_of_zero_le (show 0≤n by omega);simp only[Int.toNat_natCast]at hok hR;simp[e1];try (refine hK _ rfl ?_;clear hK K)
 (repeat refine AW.seq_k fun K hK=>?_);refine AW.rg ?_;simp;try (refine hK _ rfl ?_;clear hK K)
 refine AW.no ?_ rfl;refine AW.skip ?_;try simp
 try (refine hK _ rfl ?_;clear hK K)
 by_cases ho:e<0∨(es.length:Int)≤e
 ·have hz:Lt (N:Nat) es e=.tup [.sl 1 (Ax []),.int .i64 1]:=Qem (Qfq hk ho);rcases ho with ho | ho
  ·(repeat refine AW.seq_k fun K hK=>?_);refine AW.rg ?_;simp[ho];try (refine hK _ rfl ?_;clear hK K)
   refine AW.yes ?_ rfl;(repeat refine AW.seq_k fun K hK=>?_);refine AW.rg ?_;simp;try (refine hK _ rfl ?_;clear hK K)
   exact AW.ret (Ae [.sl 1 (Ax []),.int .i64 1] rfl ⟨.nilsl 1,.same _,trivial⟩ ⟨by rw[hz];rfl,rfl⟩)
  ·have hn:¬e<0:=by omega
   (repeat refine AW.seq_k fun K hK=>?_);refine AW.rg ?_;simp[ho,hn];try (refine hK _ rfl ?_;clear hK K)
   refine AW.yes ?_ rfl;(repeat refine AW.seq_k fun K hK=>?_);refine AW.rg ?_;simp;try (refine hK _ rfl ?_;clear hK K)
   exact AW.ret (Ae [.sl 1 (Ax []),.int .i64 1] rfl ⟨.nilsl 1,.same _,trivial⟩ ⟨by rw[hz];rfl,rfl⟩)
 obtain⟨E,rfl⟩:=Int.eq_ofNat_of_zero_le (show 0≤e by omega);have hE:E<es.length:=by omega
 clear ho;have hn1:¬(E:Int)<0:=by omega
 have hn2:¬es.length≤E:=by omega
 (repeat refine AW.seq_k fun K hK=>?_);refine AW.rg ?_;simp[hn1,hn2];try (refine hK _ rfl ?_;clear hK K)
 refine AW.no ?_ rfl;refine AW.skip ?_;try simp
 try (refine hK _ rfl ?_;clear hK K)
 have hct:=Uf O E (by omega);(repeat refine AW.seq_k fun K hK=>?_);refine AW.rg ?_;simp;try (refine hK _ rfl ?_;clear hK K)
 refine Aa.val hct ?_;by_cases hin:E∈O
 ·have hz:Lt (N:Nat) es (E:Nat)=.tup [.sl 1 (Ax []),.int .i64 7]:=Qmr (hCi E hE hin);simp[hin];try (refine hK _ rfl ?_;clear hK K)
  refine AW.yes ?_ rfl;(repeat refine AW.seq_k fun K hK=>?_);refine AW.rg ?_;simp;try (refine hK _ rfl ?_;clear hK K)
  exact AW.ret (Ae [.sl 1 (Ax []),.int .i64 7] rfl ⟨.nilsl 1,.same _,trivial⟩ ⟨by rw[hz];rfl,rfl⟩)
 simp[hin];try (refine hK _ rfl ?_;clear hK K)
 refine AW.no ?_ rfl;refine AW.skip ?_;try simp
 try (refine hK _ rfl ?_;clear hK K)
 have hR0:=hR E (hCo E hE hin);(repeat refine AW.seq_k fun K hK=>?_);refine AW.rg ?_;simp;try (refine hK _ rfl ?_;clear hK K)
 refine AW.seq_ex (ι:=Option Nat) (fun o=>[(0,.int .i64 (N:Nat)),(1,.sl 6 (Ff es)),(2,.int .i64 (E:Nat)),(10,Xw o (ltL E O)),(11,.nil)]) (fun o=>lsM o (ltL E O) Ac.emp)
  (fun o=>o=none→ltL E O=[]) ?_ ?_
 ·(repeat refine AW.seq_k fun K hK=>?_);refine AW.rg ?_;simp;try (refine hK _ rfl ?_;clear hK K)
  refine AW.block (AW.loopS (ι:=Option Nat × Nat) (fun z=>[(0,.int .i64 (N:Nat)),(1,.sl 6 (Ff es)),(2,.int .i64 (E:Nat)),(39,.sl 1 (Ax O)),(40,.int .i64 (O.length:Nat)),(41,.int .i64 (z.2:Nat)),(10,Xw z.1 (ltL E (O.take z.2))),(11,.nil)]) (fun z=>lsM z.1 (ltL E (O.take z.2)) Ac.emp)
   (fun z=>z.2≤O.length∧(z.1=none→ltL E (O.take z.2)=[])) (fun z=>O.length-z.2) (none,0) ⟨by simp,by simp[ltL]⟩ rfl (by simp[Xw]) ?_)
  rintro⟨o,i⟩ ⟨g1,g0⟩;simp only at g1 g0;(repeat refine AW.seq_k fun K hK=>?_);refine AW.rg ?_;simp;try (refine hK _ rfl ?_;clear hK K)
  (repeat refine AW.seq ?_);refine AW.cs (fun hi=>?_) (fun hi=>?_) rfl<;>(try simp at hi)
  ·refine AW.skip ?_;try simp
   try (refine hK _ rfl ?_;clear hK K)
   have w1:=Au (i+1) (by omega);have hft:=Qf0 O E i hi;have hfl:=Qjb O E i;generalize ltL E (O.take i)=F at *;(repeat refine AW.seq ?_);refine AW.block ?_;(repeat refine AW.seq_k fun K hK=>?_);refine AW.rg ?_;simp[hi];try (refine hK _ rfl ?_;clear hK K)
   (repeat refine AW.seq_k fun K hK=>?_);refine AW.rg ?_;simp;try (refine hK _ rfl ?_;clear hK K)
   (repeat refine AW.seq ?_);refine AW.cs (fun hx=>?_) (fun hx=>?_) rfl<;>(try simp at hx)
   ·rw[if_pos hx]at hft;cases o with
    |none =>
     have hF:=g0 rfl;subst hF;simp only[Xw,lsM];(repeat refine AW.seq_k fun K hK=>?_);refine AW.rgR [50] ?_;simp[hi];try (refine hK _ rfl ?_;clear hK K)
     refine⟨by unfold maxLen;omega,Af.intro fun b24 _=>?_⟩;(repeat refine AW.seq_k fun K hK=>?_);refine AW.rg ?_;simp[-Int.natCast_add,w1];try (refine hK _ rfl ?_;clear hK K)
     exact⟨some b24,i+1,⟨by omega,by simp⟩,by omega,by rw[hft];rfl,by rw[hft];exact⟨rfl,rfl⟩⟩
    |some b0 =>
     simp only[Xw,lsM];(repeat refine AW.seq_k fun K hK=>?_);refine AW.rgR [50] ?_;simp[hi];try (refine hK _ rfl ?_;clear hK K)
     refine⟨by omega,by unfold maxLen;omega,Af.intro fun b24 _=>?_⟩;(repeat refine AW.seq_k fun K hK=>?_);refine AW.rg ?_;simp[-Int.natCast_add,w1];try (refine hK _ rfl ?_;clear hK K)
     exact⟨some b24,i+1,⟨by omega,by simp⟩,by omega,by rw[hft,←Ek],by rw[hft];simp[Xw]⟩
   ·rw[if_neg (Nat.not_lt.2 hx),List.append_nil]at hft;refine AW.skip ?_;try simp
    try (refine hK _ rfl ?_;clear hK K)
    (repeat refine AW.seq_k fun K hK=>?_);refine AW.rg ?_;simp[-Int.natCast_add,w1];try (refine hK _ rfl ?_;clear hK K)
    exact⟨o,i+1,⟨by omega,by rw[hft];exact g0⟩,by omega,by rw[hft],by rw[hft];exact⟨rfl,rfl⟩⟩
  ·refine AW.exit ?_;try simp
   rw[show i=O.length by omega,List.take_length]at g0 ⊢;exact⟨o,g0,rfl,rfl⟩
 rintro o ho;have hBl:(ltL E O).length≤40:=Nat.le_trans (List.length_filter_le _ _) hle;have hBm:∀k∈ltL E O,k<es.length:=fun k hk=>hlt k (List.mem_filter.1 hk).1;generalize ltL E O=B at *;clear hR hCi hCo hlt hle hin hc hct O;refine AW.toEmp [(0,.int .i64 (N:Nat)),(1,.sl 6 (Ff es)),(2,.int .i64 (E:Nat)),(10,.sl 1 (Ax B)),(11,.nil)] (by simp;exact Qju ho fun b h=>by rw[h];exact⟨Ac.set_same _ _ _,rfl⟩) ?_;refine AW.seq_ex (ι:=Option Nat) (fun o=>[(2,.int .i64 (E:Nat)),(11,Xw o (Hm N es B E B.length))]) (fun o=>lsM o (Hm N es B E B.length) Ac.emp) (fun o=>o=none→Hm N es B E B.length=[]) ?_ ?_
 ·(repeat refine AW.seq_k fun K hK=>?_);refine AW.rg ?_;simp;try (refine hK _ rfl ?_;clear hK K)
  refine AW.block (AW.loopS (ι:=Option Nat × Nat) (fun z=>[(0,.int .i64 (N:Nat)),(1,.sl 6 (Ff es)),(2,.int .i64 (E:Nat)),(10,.sl 1 (Ax B)),(11,Xw z.1 (Hm N es B E z.2)),(53,.sl 1 (Ax B)),(54,.int .i64 (B.length:Nat)),(55,.int .i64 (z.2:Nat))]) (fun z=>lsM z.1 (Hm N es B E z.2) Ac.emp)
   (fun z=>z.2≤B.length∧(z.1=none→Hm N es B E z.2=[])) (fun z=>B.length-z.2) (none,0) ⟨by simp,by simp[Hm]⟩ rfl (by simp[Xw]) ?_)
  rintro⟨o,i⟩ ⟨g1,g2⟩;simp only at g1 g2;(repeat refine AW.seq_k fun K hK=>?_);refine AW.rg ?_;simp;try (refine hK _ rfl ?_;clear hK K)
  (repeat refine AW.seq ?_);refine AW.cs (fun hi=>?_) (fun hi=>?_) rfl<;>(try simp at hi)
  ·refine AW.skip ?_;try simp
   try (refine hK _ rfl ?_;clear hK K)
   have w1:=Au (i+1) (by omega);have hsc:=Qdg N es B E i hi;have hcl:=Vx N es B E i;have hB0:B≠[]:=by rintro rfl;simp at hi
   have hcn:=Y3 B (by omega) hB0;have hmem:∀k∈B.eraseIdx i++[E],k<es.length:=(fun k hk=>by
    rcases List.mem_append.1 hk with h|h
    ·exact hBm k (List.mem_of_mem_eraseIdx h)
    ·simp at h;omega)
   have hel:(B.eraseIdx i).length=B.length-1:=by rw[List.length_eraseIdx,if_pos hi]
   have hpl:=P6 N es (by omega) hok (B.eraseIdx i++[E]) hmem (by simp[hel];omega);have hfull:=Y2 (n:=N) (E:=Ah es) (s:=B.eraseIdx i++[E]) (fun k hk=>hok.at hmem k hk);have hgl:(B6 N (Ah es) [] (B.eraseIdx i++[E])).length≤40:=by
    have:=Gq (n:=N) (E:=Ah es) (B.eraseIdx i++[E]) [];simp[hel]at this;omega
   have hde:=fun b=>Pc b B i hi (by omega);obtain⟨cb,hcb⟩:∃c,Wh N es B E i=c:=⟨_,rfl⟩;rw[hcb]at hsc;unfold Wh at hcb;generalize Hm N es B E i=L at *;(repeat refine AW.seq ?_);refine AW.block ?_;(repeat refine AW.seq_k fun K hK=>?_);refine AW.rg ?_;simp[hi];try (refine hK _ rfl ?_;clear hK K)
   obtain⟨M,hM⟩:∃M,lsM o L Ac.emp=M:=⟨_,rfl⟩;rw[hM];refine AW.seq_ex (ι:=Nat) (fun b=>[(0,.int .i64 (N:Nat)),(1,.sl 6 (Ff es)),(2,.int .i64 (E:Nat)),(10,.sl 1 (Ax B)),(11,Xw o L),(53,.sl 1 (Ax B)),(54,.int .i64 (B.length:Nat)),(55,.int .i64 (i:Nat)),(15,.int .i64 (B[i]:Nat)),(16,.osl b 1 0 (B.length-1))]) (fun b=>M.set b ⟨3,1,Ax (B.eraseIdx i)⟩) (fun b=>M b=none) ?_ ?_
   ·(repeat refine AW.seq_k fun K hK=>?_);refine AW.rg ?_;simp[w1];try (refine hK _ rfl ?_;clear hK K)
    refine Aa.news hcn ?_;rintro _ g ⟨b,rfl,rfl⟩ hnew;have hMb:M b=none:=(hnew b (by simp)).1;have e2:M.back [] (Ac.emp.set b ⟨3,1,Ax B⟩)=M.set b ⟨3,1,Ax B⟩:=by
     funext c
     unfold Ac.back;by_cases hc:c=b
     ·subst hc;simp
     ·simp[Ac.set,hc,Ac.emp]
    rw[e2];simp[-Int.natCast_add,w1];refine Aa.hand (R:=fun v m=>v=.osl b 1 0 (B.length-1)∧m=Ac.emp.set b ⟨3,1,Ax (B.eraseIdx i)⟩) [b] (fun _ _ h=>h) (by rw[Un (Ac.set_same _ _ _)];exact hde b) ?_;rintro _ g ⟨rfl,rfl⟩ _;rw[Y9];simp[-Int.natCast_add];exact hMb
   rintro b hMb;refine AW.seq_ex (ι:=Ac) (fun _=>[(0,.int .i64 (N:Nat)),(1,.sl 6 (Ff es)),(2,.int .i64 (E:Nat)),(10,.sl 1 (Ax B)),(11,Xw o L),(53,.sl 1 (Ax B)),(54,.int .i64 (B.length:Nat)),(55,.int .i64 (i:Nat)),(15,.int .i64 (B[i]:Nat)),(18,.sl 1 (Ax (B6 N (Ah es) [] (B.eraseIdx i++[E]))))]) (fun M3=>M3) (fun M3=>∀c y,M c=some y→M3 c=some y) ?_ ?_
   ·(repeat refine AW.seq_k fun K hK=>?_);refine AW.rgR [71] ?_;simp[hel];try (refine hK _ rfl ?_;clear hK K)
    refine⟨by omega,by unfold maxLen;omega,?_⟩;rw[Qhy hMb];refine Af.intro fun b' hb'=>?_;rw[←Ek];refine Aa.hand (R:=Qo5 N es (B6 N (Ah es) [] (B.eraseIdx i++[E]))) [b'] (fun _ _ h=>h) (by
     rw[Un (Ac.set_same _ _ _)];exact hpl.view (Da (l':=[.int .i64 (N:Nat),A8 es,.sl 1 (Ax (B.eraseIdx i++[E]))]) ⟨.same _,.same _,L8 (by simp) (by simp[hel]),trivial⟩)) ?_
    rintro _ g ⟨bg,bf,bc,fl,bs,cl,rfl,hG⟩ hnew;simp;intro c y hy;have hcb:c≠b':=by rintro rfl;rw[hb']at hy;cases hy
    have hg:g c=none:=by
     cases h:g c with
     |none=>rfl
     |some x =>
      rcases hnew c (by rw[h];simp)with h'|h'
      ·exact absurd (by simpa using h') hcb
      ·rw[Ac.set_other _ _ hcb,hy]at h';simp at h'
    unfold Ac.back;rw[hg];simp only;rw[if_neg (by simpa using hcb),Ac.set_other _ _ hcb,hy]
   rintro M3 hM3;refine AW.turn [(0,.int .i64 (N:Nat)),(1,.sl 6 (Ff es)),(2,.int .i64 (E:Nat)),(10,.sl 1 (Ax B)),(11,Xw o L),(53,.sl 1 (Ax B)),(54,.int .i64 (B.length:Nat)),(55,.int .i64 (i:Nat)),(15,.int .i64 (B[i]:Nat)),(18,.sl 1 (Ax (B6 N (Ah es) [] (B.eraseIdx i++[E]))))] M (Ba.sub fun c y hy=>⟨hM3 c y hy,(hM ▸ Qjg Qki) c y hy⟩) (by simp) ?_;generalize B6 N (Ah es) [] (B.eraseIdx i++[E])=G at *;rw[show(B.eraseIdx i++[E]).length=B.length by simp[hel];omega,hcb]at hfull;subst hM;cases cb with
   |false =>
    have hne:¬G.length=B.length:=fun h=>by have:=hfull.1 h;cases this
    simp at hsc;(repeat refine AW.seq_k fun K hK=>?_);refine AW.rg ?_;simp[hne];try (refine hK _ rfl ?_;clear hK K)
    refine AW.no ?_ rfl;refine AW.skip ?_;try simp
    try (refine hK _ rfl ?_;clear hK K)
    (repeat refine AW.seq_k fun K hK=>?_);refine AW.rg ?_;simp[-Int.natCast_add,w1];try (refine hK _ rfl ?_;clear hK K)
    exact⟨o,i+1,⟨by omega,by rw[hsc];exact g2⟩,by omega,by rw[hsc],by rw[hsc];exact⟨rfl,rfl⟩⟩
   |true =>
    have hne:=hfull.2 rfl;simp at hsc;(repeat refine AW.seq_k fun K hK=>?_);refine AW.rg ?_;simp[hne];try (refine hK _ rfl ?_;clear hK K)
    refine AW.yes ?_ rfl;cases o with
    |none =>
     have hL:=g2 rfl;subst hL;simp only[Xw,lsM];(repeat refine AW.seq_k fun K hK=>?_);refine AW.rgR [83] ?_;simp;try (refine hK _ rfl ?_;clear hK K)
     refine⟨by unfold maxLen;omega,Af.intro fun b6 _=>?_⟩;(repeat refine AW.seq_k fun K hK=>?_);refine AW.rg ?_;simp[-Int.natCast_add,w1];try (refine hK _ rfl ?_;clear hK K)
     exact⟨some b6,i+1,⟨by omega,by simp⟩,by omega,by rw[hsc];rfl,by rw[hsc];exact⟨rfl,rfl⟩⟩
    |some b0 =>
     simp only[Xw,lsM];(repeat refine AW.seq_k fun K hK=>?_);refine AW.rgR [83] ?_;simp;try (refine hK _ rfl ?_;clear hK K)
     refine⟨by omega,by unfold maxLen;omega,Af.intro fun b6 _=>?_⟩;(repeat refine AW.seq_k fun K hK=>?_);refine AW.rg ?_;simp[-Int.natCast_add,w1];try (refine hK _ rfl ?_;clear hK K)
     exact⟨some b6,i+1,⟨by omega,by simp⟩,by omega,by rw[hsc,←Ek],by rw[hsc];simp[Xw]⟩
  ·refine AW.exit ?_;try simp
   rw[show i=B.length by omega]at g2 ⊢;exact⟨o,g2,rfl,rfl⟩
 rintro o ho;have hcl:=Vx N es B E B.length;generalize Hm N es B E B.length=L at *;cases o with
 |none =>
  have hL:=ho rfl;subst hL;simp only[Xw,lsM];(repeat refine AW.seq_k fun K hK=>?_);refine AW.rgR [88] ?_;simp;try (refine hK _ rfl ?_;clear hK K)
  refine⟨by unfold maxLen;omega,Af.intro fun b6 _=>?_⟩;refine hK _ rfl ?_;clear hK K;exact AW.ret (Ae [.sl 1 (Ax ([]++[E])),.int .i64 0] rfl ⟨L8 (by simp;rfl) (by simp),.same _,trivial⟩ ⟨hR0.symm,rfl⟩)
 |some b0 =>
  simp only[Xw,lsM];(repeat refine AW.seq_k fun K hK=>?_);refine AW.rgR [88] ?_;simp;try (refine hK _ rfl ?_;clear hK K)
  refine⟨by omega,by unfold maxLen;omega,Af.intro fun b6 _=>?_⟩;rw[←Ek];refine hK _ rfl ?_;clear hK K;exact AW.ret (Ae [.sl 1 (Ax (L++[E])),.int .i64 0] rfl ⟨L8 (by simp) (by simp),.same _,trivial⟩ ⟨hR0.symm,rfl⟩)
end Go.Av
end
section
namespace Go.Av
open Go.Proofs Go.Lam
structure Mt (n bg bf bc:Nat) (es:List RE) (A l:List Nat) (z:PSt):Prop where
 game:Dk z.M n bg bf bc es z.fl z.bs z.cl
 inv:Inv n (Ah es) A (Ej z.fl) (Dh z.cl)
 lst:Kz z.M 3 1 z.ov z.ob (Ax l)
 off:∀b∈z.ob,b ∉ Bc bg bf bc z.bs
 only:Fm z.M (z.ob++Bc bg bf bc z.bs)
theorem Mt.ones {n bg bf bc:Nat} {es:List RE} {A l:List Nat} {z:PSt} (h:Mt n bg bf bc es A l z):∀c y,z.M c=some y→∀v∈y.l,v.cells.all AV.one=true:=by
 intro c y hy v hv;rcases List.mem_append.1 (h.only c (by rw[hy];simp))with hc | hc
 ·rcases h.lst with⟨_,h2,_⟩|⟨b,h2,_,h3⟩
  ·rw[h2]at hc;cases hc
  ·rw[h2,List.mem_singleton]at hc;rw[hc,h3]at hy;cases hy;exact Cu _ v hv
 ·rcases Bh.1 hc with rfl|rfl|rfl|⟨i,hi⟩
  ·rw[h.game.g]at hy;cases hy;simp only[Cx,List.mem_singleton]at hv;subst hv;rfl
  ·rw[h.game.f]at hy;cases hy;exact Cu _ v hv
  ·rw[h.game.c]at hy;cases hy;exact Jh _ _ v hv
  ·rw[h.game.row i c hi]at hy;cases hy;exact Cu _ v hv
theorem Mt.gam {n bg bf bc:Nat} {es:List RE} {A l:List Nat} {M:Ac} {fl:List Nat} {bs:List (Option Nat)} {cl:List (List Nat)} {ov:AV} {ob:List Nat} (h:Mt n bg bf bc es A l ⟨M,fl,bs,cl,ov,ob⟩):I8 n bg bf bc es A (M.only (Bc bg bf bc bs)) fl bs cl :=
 ⟨h.game.congr fun k hk=>Bx hk,fun k hk=>by
  rcases Decidable.em (k∈Bc bg bf bc bs)with hm|hm
  ·exact hm
  ·exact absurd (Bv hm) hk,h.inv⟩
theorem Mt.back {n bg bf bc:Nat} {es:List RE} {A A' l:List Nat} {M g':Ac} {fl fl':List Nat} {bs bs':List (Option Nat)} {cl cl':List (List Nat)} {ov:AV} {ob:List Nat} (g2:Mt n bg bf bc es A l ⟨M,fl,bs,cl,ov,ob⟩)
  (hG':I8 n bg bf bc es A' g' fl' bs' cl') (hnew:∀b,g' b≠none→b∈Bc bg bf bc bs∨M b=none):Mt n bg bf bc es A' l ⟨M.back (Bc bg bf bc bs) g',fl',bs',cl',ov,ob⟩:=by
 have hobM:∀b∈ob,M b≠none:=fun b hb=>by
  rcases g2.lst with⟨_,h2,_⟩|⟨b',h2,_,h3⟩
  ·simp only at h2;rw[h2]at hb;cases hb
  ·simp only at h2 h3;rw[h2,List.mem_singleton]at hb;rw[hb,h3];simp
 have hobN:∀b∈ob,b ∉ Bc bg bf bc bs':=fun b hb hm=>by
  rcases hnew b (hG'.mem.dom hm)with h|h
  ·exact g2.off b hb h
  ·exact hobM b hb h
 have hM2:∀k∈Bc bg bf bc bs',M.back (Bc bg bf bc bs) g' k=g' k:=fun k hk=>by
  unfold Ac.back;cases h:g' k with
  |some x=>rfl
  |none=>exact absurd h (hG'.mem.dom hk)
 have hM2o:∀b∈ob,M.back (Bc bg bf bc bs) g' b=M b:=fun b hb=>by
  have h:g' b=none:=by
   cases h:g' b with
   |none=>rfl
   |some x=>exact absurd (hG'.only b (by rw[h];simp)) (hobN b hb)
  unfold Ac.back;rw[h];exact if_neg (g2.off b hb)
 refine⟨hG'.mem.congr hM2,hG'.inv,g2.lst.keep hM2o,hobN,fun k hk=>?_⟩;simp only at hk;unfold Ac.back at hk;cases h:g' k with
 |some x=>exact List.mem_append_right _ (hG'.only k (by rw[h];simp))
 |none =>
  rw[h]at hk;simp only at hk;by_cases hm:k∈Bc bg bf bc bs
  ·rw[if_pos hm]at hk;exact absurd rfl hk
  ·rw[if_neg hm]at hk;rcases List.mem_append.1 (g2.only k hk)with h' | h'
   ·exact List.mem_append_left _ h'
   ·exact absurd h' hm
theorem Mt.push0 {n bg bf bc:Nat} {es:List RE} {A:List Nat} {M:Ac} {fl:List Nat} {bs:List (Option Nat)} {cl:List (List Nat)} {ov:AV} {b6 i:Nat} (h:Mt n bg bf bc es A [] ⟨M,fl,bs,cl,ov,[]⟩) (h6:M b6=none) :
  Mt n bg bf bc es A [i] ⟨M.set b6 ⟨3,1,Ax [i]⟩,fl,bs,cl,.osl b6 1 0 1,[b6]⟩:=by
 have hb6:b6 ∉ Bc bg bf bc bs:=fun hm=>h.game.dom hm h6;refine⟨h.game.congr fun k hk=>Ac.set_other _ _ (fun e=>hb6 (e ▸ hk)),h.inv,.inr ⟨b6,rfl,rfl,Ac.set_same _ _ _⟩,fun b hb=>by rw[List.mem_singleton]at hb;rw[hb];exact hb6,fun k hk=>?_⟩;by_cases e:k=b6
 ·rw[e];simp
 ·simp only at hk;rw[Ac.set_other _ _ e]at hk;have:=h.only k hk;simp only[List.nil_append]at this;exact List.mem_append_right _ this
theorem Mt.push1 {n bg bf bc:Nat} {es:List RE} {A l:List Nat} {M:Ac} {fl:List Nat} {bs:List (Option Nat)} {cl:List (List Nat)} {ov:AV} {b0 b6 i:Nat} (h:Mt n bg bf bc es A l ⟨M,fl,bs,cl,ov,[b0]⟩) (h6:M.del b0 b6=none) :
  Mt n bg bf bc es A (l++[i]) ⟨(M.del b0).set b6 ⟨3,1,Ax l++[.int .i64 (i:Nat)]⟩,fl,bs,cl,.osl b6 1 0 (l.length+1),[b6]⟩:=by
 have hb0:b0 ∉ Bc bg bf bc bs:=h.off b0 (by simp);have hb6:b6 ∉ Bc bg bf bc bs:=fun hm=>by
  by_cases e:b6=b0
  ·exact hb0 (e ▸ hm)
  ·rw[Ac.del_other _ e]at h6;exact h.game.dom hm h6
 refine⟨h.game.congr fun k hk=>by simp only;rw[Ac.set_other _ _ (fun e=>hb6 (by rw[←e];exact hk)),Ac.del_other _ (fun e=>hb0 (by rw[←e];exact hk))],h.inv,.inr ⟨b6,rfl,by simp,by simp only;rw[Ac.set_same,Ek]⟩,fun b hb=>by rw[List.mem_singleton]at hb;rw[hb];exact hb6,fun k hk=>?_⟩;by_cases e:k=b6
 ·rw[e];simp
 ·simp only at hk;rw[Ac.set_other _ _ e]at hk;by_cases e':k=b0
  ·rw[e',Ac.del_same]at hk;exact absurd rfl hk
  ·rw[Ac.del_other _ e']at hk;have:=h.only k hk;simp only[List.singleton_append,List.mem_cons]at this;exact List.mem_append_right _ (this.resolve_left e')
def Qyr (n bg bf bc:Nat) (es:List RE) (A:List Nat) (e:Nat) (v:AV) (M':Ac):Prop :=
 v=.sl 1 (Ax (Hk n (A.map (Ah es)) (Ah es e)))∧∃(fl:List Nat) (bs:List (Option Nat)) (cl:List (List Nat)),I8 n bg bf bc es A M' fl bs cl
def Zl (n:Nat) (L:List Ed) (e:Ed) (i:Nat):List Nat:=(List.range i).filter (Hj n L e)
theorem Qgz (n:Nat) (L:List Ed) (e:Ed) (i:Nat):Zl n L e (i+1)=Zl n L e i++if Hj n L e i=true then [i] else []:=by
 unfold Zl;rw[List.range_succ,List.filter_append];cases h:Hj n L e i<;>simp[h]
theorem Qkk (n:Nat) (L:List Ed) (e:Ed) (i:Nat):(Zl n L e i).length≤i:=by
 have:=List.length_filter_le (Hj n L e) (List.range i);simpa[Zl]using this
theorem Xp (n bg bf bc:Nat) (es:List RE) (A:List Nat) (hn:n≤12) (hes:Ly n es) (hA:∀e∈A,e<es.length) (hsp:Bf n (A.map (Ah es))) (M:Ac) (fl:List Nat) (bs:List (Option Nat)) (cl:List (List Nat)) (e:Nat)
  (hG:I8 n bg bf bc es A M fl bs cl) (heA:e∈A) :
  Ai Tryz.prog 53 [.ptr bg 3 0 0,.int .i64 (e:Nat)] M (Qyr n bg bf bc es A e):=by
 have he:e<es.length:=hA e heA;obtain⟨e1,e2,e3⟩:=hes e he;have hL:∀e∈A.map (Ah es),Dz n e:=fun e he=>by
  obtain⟨k,hk,rfl⟩:=List.mem_map.1 he;exact(hes k (hA k hk)).2.2
 have hT0:=Kd hL hsp (List.mem_map.2 ⟨e,heA,rfl⟩);have hwa:Hj n (A.map (Ah es)) (Ah es e) (Ah es e).1=true:=(Ju hL e3.1 e3).2 ⟨_,hT0,by simp[ins,Fe],by simp[Fe]⟩;have hwb:Hj n (A.map (Ah es)) (Ah es e) (Ah es e).2=true:=(Ju hL e3.2.1 e3).2 ⟨_,hT0,by simp[ins,Fe],by simp[Fe]⟩;have hbd:∀(M:Ac) (fl:List Nat) (bs:List (Option Nat)) (cl:List (List Nat)) (x:Nat),I8 n bg bf bc es A M fl bs cl→x<n→x≠(Ah es e).1→x≠(Ah es e).2→_:=fun M fl bs cl x h h1 h2 h3=>Qc8 n bg bf bc es A hn hes hA hsp M fl bs cl e x h heA h1 h2 h3
 obtain⟨a,ha⟩:∃a,(Ah es e).1=a:=⟨_,rfl⟩;obtain⟨b,hb⟩:∃b,(Ah es e).2=b:=⟨_,rfl⟩;have q1:=hG.mem.g;have q2:=hG.mem.f;have q4:=hG.mem.fll;unfold Cx at q1;refine Ad Tryz.func53 rfl rfl 54 rfl (Nat.le_of_ble_eq_true rfl) ?_;(repeat refine AW.seq_k fun K hK=>?_);refine AW.rg ?_;simp[Al];try (refine hK _ rfl ?_;clear hK K)
 (repeat refine AW.seq_k fun K hK=>?_);refine AW.rdL [bg] [0,1,2,3,4,5,6,7,8,9,10,11,12,13,14,15,16,17] C6 (by simp[q1]) ?_;simp[q1,he,C1,e1,e2];try (refine hK _ rfl ?_;clear hK K)
 simp only[ha,hb]at hbd hwa hwb ⊢;have han:a<n:=ha ▸ e3.1;have hbn:b<n:=hb ▸ e3.2.1;(repeat refine AW.seq_k fun K hK=>?_);refine AW.rg ?_;simp;try (refine hK _ rfl ?_;clear hK K)
 refine AW.seq_ex (ι:=PSt) (fun z=>[(7,z.ov)]) (fun z=>z.M) (fun z=>Mt n bg bf bc es A (Zl n (A.map (Ah es)) (Ah es e) n) z) ?_ ?_
 ·(repeat refine AW.seq_k fun K hK=>?_);refine AW.rg ?_;simp[q1,q4];try (refine hK _ rfl ?_;clear hK K)
  refine AW.block (AW.loopS (ι:=PSt × Nat) (fun z=>[(0,.ptr bg 3 0 0),(5,.int .i64 (a:Nat)),(6,.int .i64 (b:Nat)),(7,z.1.ov),(29,.int .i64 (n:Nat)),(30,.int .i64 (z.2:Nat))]) (fun z=>z.1.M)
   (fun z=>z.2≤n∧Mt n bg bf bc es A (Zl n (A.map (Ah es)) (Ah es e) z.2) z.1) (fun z=>n-z.2) (⟨M,fl,bs,cl,.nil,[]⟩,0)
   ⟨by simp,⟨hG.mem,hG.inv,.inl ⟨rfl,rfl,rfl⟩,by simp,hG.only⟩⟩ rfl (by simp) ?_)
  rintro⟨⟨M,fl,bs,cl,ov,ob⟩,i⟩ ⟨g1,g2⟩;simp only at g1 g2;(repeat refine AW.seq_k fun K hK=>?_);refine AW.rg ?_;simp;try (refine hK _ rfl ?_;clear hK K)
  (repeat refine AW.seq ?_);refine AW.cs (fun hi=>?_) (fun hi=>?_) rfl<;>(try simp at hi)
  ·refine AW.skip ?_;try simp
   try (refine hK _ rfl ?_;clear hK K)
   have w1:=Au (i+1) (by omega);have hsc:=Qgz n (A.map (Ah es)) (Ah es e) i;have hcl:=Qkk n (A.map (Ah es)) (Ah es e) i;generalize Zl n (A.map (Ah es)) (Ah es e) i=l at *;(repeat refine AW.seq ?_);refine AW.block ?_;(repeat refine AW.seq_k fun K hK=>?_);refine AW.rg ?_;simp;try (refine hK _ rfl ?_;clear hK K)
   refine AW.seq_ex (ι:=PSt) (fun z=>[(0,.ptr bg 3 0 0),(5,.int .i64 (a:Nat)),(6,.int .i64 (b:Nat)),(7,z.ov),(8,.int .i64 (i:Nat)),(29,.int .i64 (n:Nat)),(30,.int .i64 (i:Nat)),(47,.bool (Hj n (A.map (Ah es)) (Ah es e) i))]) (fun z=>z.M) (fun z=>Mt n bg bf bc es A l z) ?_ ?_
   ·by_cases hia:i=a
    ·rw[hia,hwa];(repeat refine AW.seq_k fun K hK=>?_);refine AW.rg ?_;simp;try (refine hK _ rfl ?_;clear hK K)
     exact⟨_,g2,rfl,rfl⟩
    by_cases hib:i=b
    ·rw[hib,hwb];(repeat refine AW.seq_k fun K hK=>?_);refine AW.rg ?_;simp[hib ▸ hia];try (refine hK _ rfl ?_;clear hK K)
     exact⟨_,g2,rfl,rfl⟩
    (repeat refine AW.seq_k fun K hK=>?_);refine AW.rg ?_;simp[hia,hib];try (refine hK _ rfl ?_;clear hK K)
    refine Aa.hand (Bc bg bf bc bs) (fun _ _ h=>h) (hbd _ fl bs cl i g2.gam hi hia hib) ?_;rintro _ g' ⟨rfl,fl',bs',cl',hG'⟩ hnew;simp;exact⟨_,g2.back hG' (fun b h=>(hnew b h).imp id (·.1)),rfl,rfl⟩
   rintro⟨M,fl,bs,cl,ov,ob⟩ hz;simp only;cases hwi:Hj n (A.map (Ah es)) (Ah es e) i with
   |false =>
    rw[hwi]at hsc;simp at hsc;refine AW.no ?_ rfl;refine AW.skip ?_;try simp
    try (refine hK _ rfl ?_;clear hK K)
    (repeat refine AW.seq_k fun K hK=>?_);refine AW.rg ?_;simp[-Int.natCast_add,w1];try (refine hK _ rfl ?_;clear hK K)
    exact⟨_,i+1,⟨by omega,by rw[hsc];exact hz⟩,by omega,rfl,rfl,rfl⟩
   |true =>
    rw[hwi]at hsc;simp at hsc;refine AW.yes ?_ rfl;rcases hz.lst with⟨l1,l2,l3⟩ | ⟨b0,l2,l3,l4⟩
    ·simp only at l1 l2 l3;have hl0:l=[]:=by unfold Ax at l1;exact List.map_eq_nil_iff.1 l1
     subst l2;subst l3;subst hl0;(repeat refine AW.seq_k fun K hK=>?_);refine AW.rgR [50] ?_;simp;try (refine hK _ rfl ?_;clear hK K)
     refine⟨by unfold maxLen;omega,Af.intro fun b6 h6=>?_⟩;(repeat refine AW.seq_k fun K hK=>?_);refine AW.rg ?_;simp[-Int.natCast_add,w1];try (refine hK _ rfl ?_;clear hK K)
     exact⟨_,i+1,⟨by omega,by rw[hsc];exact hz.push0 h6⟩,by omega,rfl,rfl,rfl⟩
    ·simp only at l2 l3 l4;subst l2;subst l3;(repeat refine AW.seq_k fun K hK=>?_);refine AW.rgR [50] ?_;simp[l4];try (refine hK _ rfl ?_;clear hK K)
     refine⟨by omega,by unfold maxLen;omega,Af.intro fun b6 h6=>?_⟩;(repeat refine AW.seq_k fun K hK=>?_);refine AW.rg ?_;simp[-Int.natCast_add,w1];try (refine hK _ rfl ?_;clear hK K)
     have:=hz.push1 (i:=i) h6;exact⟨_,i+1,⟨by omega,by rw[hsc];exact this⟩,by omega,rfl,rfl,rfl⟩
  ·refine AW.exit ?_;try simp
   rw[show i=n by omega]at g2;exact⟨_,g2,rfl,rfl⟩
 rintro⟨M,fl,bs,cl,ov,ob⟩ hz;simp only;(repeat refine AW.seq_k fun K hK=>?_);refine AW.rg ?_;simp;try (refine hK _ rfl ?_;clear hK K)
 have hone:=hz.ones;have hview:=hz.lst.view (M':=M.only (Bc bg bf bc bs)) (fun b hb=>Bv (hz.off b hb));refine AW.ret ⟨[ov],rfl,.sl 1 (Ax (Hk n (A.map (Ah es)) (Ah es e))),M.only (Bc bg bf bc bs),Ba.sub fun b x hb=>?_,hview,rfl,fl,bs,cl,hz.game.congr fun k hk=>Bx hk,fun k hk=>?_,hz.inv⟩
 ·by_cases hm:b∈Bc bg bf bc bs
  ·rw[Bx hm]at hb;exact⟨hb,hone b x hb⟩
  ·rw[Bv hm]at hb;cases hb
 ·rcases Decidable.em (k∈Bc bg bf bc bs)with hm|hm
  ·exact hm
  ·exact absurd (Bv hm) hk
end Go.Av
end
section
namespace Go.Av
open Go.Proofs Go.Lam
def Gk (W:List (List Nat)):List AV:=W.map fun l=>.sl 1 (Ax l)
@[simp] theorem Sn (W:List (List Nat)):(Gk W).length=W.length:=by simp[Gk]
@[simp] theorem Qfd {W:List (List Nat)} {i:Nat} (h:i<(Gk W).length):(Gk W)[i]=.sl 1 (Ax (W[i]'(by simpa using h))):=by simp[Gk]
theorem R8 (W:List (List Nat)):∀v∈Gk W,v.cells.all AV.one=true:=by
 intro v hv;obtain⟨x,_,rfl⟩:=List.mem_map.1 hv;rfl
def U8 (a b:Nat):Int:=if a<b then -1 else if b<a then 1 else 0
def L4:List Nat→List Nat→Int
 |[],[]=>0
 |[],_::_=>-1
 |_::_,[]=>1
 |a::l,b::m=>if a=b then L4 l m else if a<b then -1 else 1
theorem Qff:∀(x y:List Nat),L4 x y<0↔Bw x y=true
 |[],[]=>by simp[L4,Bw]
 |[],_::_=>by simp[L4,Bw]
 |_::_,[]=>by simp[L4,Bw]
 |a::l,b::m=>by
  unfold L4 Bw;by_cases h:a=b
  ·rw[if_pos h,if_pos h];exact Qff l m
  ·rw[if_neg h,if_neg h];by_cases h2:a<b<;>simp[h2]
theorem S0 (a:Nat):Ai Tryz.prog 136 [.int .i64 (a:Nat)] Ac.emp fun v m=>v=.bool false∧m=Ac.emp:=by
 refine Ad Tryz.func136 rfl rfl 6 rfl (Nat.le_of_ble_eq_true rfl) ?_;(repeat refine AW.seq_k fun K hK=>?_);refine AW.rg ?_;simp[Al];try (refine hK _ rfl ?_;clear hK K)
 (repeat refine AW.seq_k fun K hK=>?_);refine AW.rg ?_;simp;try (refine hK _ rfl ?_;clear hK K)
 exact AW.ret (Ag rfl _ (.same _) ⟨rfl,rfl⟩)
theorem Qgv (a b:Nat):Ai Tryz.prog 94 [.int .i64 (a:Nat),.int .i64 (b:Nat)] Ac.emp fun v m=>v=.int .i64 (U8 a b)∧m=Ac.emp:=by
 refine Ad Tryz.func94 rfl rfl 20 rfl (Nat.le_of_ble_eq_true rfl) ?_;(repeat refine AW.seq_k fun K hK=>?_);refine AW.rg ?_;simp[Al];try (refine hK _ rfl ?_;clear hK K)
 (repeat refine AW.seq_k fun K hK=>?_);refine AW.rg ?_;simp;try (refine hK _ rfl ?_;clear hK K)
 refine Aa.val (S0 a) ?_;simp;try (refine hK _ rfl ?_;clear hK K)
 (repeat refine AW.seq_k fun K hK=>?_);refine AW.rg ?_;simp;try (refine hK _ rfl ?_;clear hK K)
 refine Aa.val (S0 b) ?_;simp;try (refine hK _ rfl ?_;clear hK K)
 (repeat refine AW.seq_k fun K hK=>?_);refine AW.rg ?_;simp;try (refine hK _ rfl ?_;clear hK K)
 refine AW.no ?_ rfl;refine AW.skip ?_;try simp
 try (refine hK _ rfl ?_;clear hK K)
 (repeat refine AW.seq_k fun K hK=>?_);refine AW.rg ?_;simp;try (refine hK _ rfl ?_;clear hK K)
 refine AW.no ?_ rfl;refine AW.skip ?_;try simp
 try (refine hK _ rfl ?_;clear hK K)
 by_cases h1:a<b
 ·(repeat refine AW.seq_k fun K hK=>?_);refine AW.rg ?_;simp[h1];try (refine hK _ rfl ?_;clear hK K)
  refine AW.yes ?_ rfl;(repeat refine AW.seq_k fun K hK=>?_);refine AW.rg ?_;simp;try (refine hK _ rfl ?_;clear hK K)
  exact AW.ret (Ag rfl _ (.same _) ⟨by unfold U8;rw[if_pos h1];rfl,rfl⟩)
 have h1':b≤a:=by omega
 (repeat refine AW.seq_k fun K hK=>?_);refine AW.rg ?_;simp[h1];try (refine hK _ rfl ?_;clear hK K)
 refine AW.no ?_ rfl;refine AW.skip ?_;try simp
 try (refine hK _ rfl ?_;clear hK K)
 by_cases h2:b<a
 ·(repeat refine AW.seq_k fun K hK=>?_);refine AW.rg ?_;simp[h2];try (refine hK _ rfl ?_;clear hK K)
  refine AW.yes ?_ rfl;(repeat refine AW.seq_k fun K hK=>?_);refine AW.rg ?_;simp;try (refine hK _ rfl ?_;clear hK K)
  exact AW.ret (Ag rfl _ (.same _) ⟨by unfold U8;rw[if_neg h1,if_pos h2];rfl,rfl⟩)
 (repeat refine AW.seq_k fun K hK=>?_);refine AW.rg ?_;simp[h2];try (refine hK _ rfl ?_;clear hK K)
 refine AW.no ?_ rfl;refine AW.skip ?_;try simp
 try (refine hK _ rfl ?_;clear hK K)
 (repeat refine AW.seq_k fun K hK=>?_);refine AW.rg ?_;simp;try (refine hK _ rfl ?_;clear hK K)
 exact AW.ret (Ag rfl _ (.same _) ⟨by unfold U8;rw[if_neg h1,if_neg h2];rfl,rfl⟩)
theorem Vi (x y:List Nat) (hx:x.length<2^40) (hy:y.length<2^40):Ai Tryz.prog 58 [.sl 1 (Ax x),.sl 1 (Ax y)] Ac.emp fun v m=>v=.int .i64 (L4 x y)∧m=Ac.emp:=by
 refine Ad Tryz.func58 rfl rfl 36 rfl (Nat.le_of_ble_eq_true rfl) ?_;(repeat refine AW.seq_k fun K hK=>?_);refine AW.rg ?_;simp[Al];try (refine hK _ rfl ?_;clear hK K)
 refine AW.seq_ex (ι:=Unit) (fun _=>[(0,.sl 1 (Ax x)),(1,.sl 1 (Ax y))]) (fun _=>Ac.emp) (fun _=>x.length≤y.length∧L4 x y=L4 [] (y.drop x.length)) ?_ ?_
 ·(repeat refine AW.seq_k fun K hK=>?_);refine AW.rg ?_;simp;try (refine hK _ rfl ?_;clear hK K)
  refine AW.block (AW.loopS (ι:=Nat) (fun i=>[(0,.sl 1 (Ax x)),(1,.sl 1 (Ax y)),(9,.sl 1 (Ax x)),(10,.int .i64 (x.length:Nat)),(11,.int .i64 (i:Nat))]) (fun i=>Ac.emp)
   (fun i=>i≤x.length∧i≤y.length∧L4 x y=L4 (x.drop i) (y.drop i)) (fun i=>x.length-i) 0 ⟨by simp,by simp,by simp⟩ rfl (by simp) ?_)
  rintro i ⟨g1,g2,g3⟩;(repeat refine AW.seq_k fun K hK=>?_);refine AW.rg ?_;simp;try (refine hK _ rfl ?_;clear hK K)
  (repeat refine AW.seq ?_);refine AW.cs (fun hi=>?_) (fun hi=>?_) rfl<;>(try simp at hi)
  ·refine AW.skip ?_;try simp
   try (refine hK _ rfl ?_;clear hK K)
   have w1:=Au (i+1) (by omega);have hdx:x.drop i=x[i]::x.drop (i+1):=List.drop_eq_getElem_cons hi;rw[hdx]at g3;(repeat refine AW.seq ?_);refine AW.block ?_;(repeat refine AW.seq_k fun K hK=>?_);refine AW.rg ?_;simp[hi];try (refine hK _ rfl ?_;clear hK K)
   (repeat refine AW.seq_k fun K hK=>?_);refine AW.rg ?_;simp;try (refine hK _ rfl ?_;clear hK K)
   (repeat refine AW.seq ?_);refine AW.cs (fun hy2=>?_) (fun hy2=>?_) rfl<;>(try simp at hy2)
   ·rw[List.drop_of_length_le hy2]at g3;(repeat refine AW.seq_k fun K hK=>?_);refine AW.rg ?_;simp;try (refine hK _ rfl ?_;clear hK K)
    exact AW.ret (Ag rfl _ (.same _) ⟨by rw[g3];rfl,rfl⟩)
   ·refine AW.skip ?_;try simp
    try (refine hK _ rfl ?_;clear hK K)
    have hdy:y.drop i=y[i]::y.drop (i+1):=List.drop_eq_getElem_cons hy2;rw[hdy]at g3;have hcm:=Qgv x[i] y[i];obtain⟨a,ha⟩:∃a,x[i]=a:=⟨_,rfl⟩;obtain⟨b,hb⟩:∃b,y[i]=b:=⟨_,rfl⟩;rw[ha,hb]at g3 hcm;simp only[ha];(repeat refine AW.seq_k fun K hK=>?_);refine AW.rg ?_;simp[hy2,hb];try (refine hK _ rfl ?_;clear hK K)
    (repeat refine AW.seq_k fun K hK=>?_);refine AW.rg ?_;simp;try (refine hK _ rfl ?_;clear hK K)
    refine Aa.val hcm ?_;simp;try (refine hK _ rfl ?_;clear hK K)
    by_cases hab:a=b
    ·have hc0:U8 a b=0:=by unfold U8;rw[if_neg (by omega),if_neg (by omega)]
     have g3':L4 x y=L4 (x.drop (i+1)) (y.drop (i+1)):=by rw[g3,L4,if_pos hab]
     (repeat refine AW.seq_k fun K hK=>?_);refine AW.rg ?_;simp[hc0];try (refine hK _ rfl ?_;clear hK K)
     refine AW.no ?_ rfl;refine AW.skip ?_;try simp
     try (refine hK _ rfl ?_;clear hK K)
     (repeat refine AW.seq_k fun K hK=>?_);refine AW.rg ?_;simp[-Int.natCast_add,w1];try (refine hK _ rfl ?_;clear hK K)
     exact⟨⟨by omega,by omega,g3'⟩,by omega⟩
    ·have hcv:U8 a b=L4 x y:=by
      rw[g3,L4,if_neg hab];unfold U8;by_cases h1:a<b
      ·rw[if_pos h1,if_pos h1]
      ·rw[if_neg h1,if_neg h1,if_pos (by omega)]
     have hc0:¬U8 a b=0:=by
      unfold U8;by_cases h1:a<b
      ·rw[if_pos h1];decide
      ·rw[if_neg h1,if_pos (by omega)];decide
     (repeat refine AW.seq_k fun K hK=>?_);refine AW.rg ?_;simp[hc0];try (refine hK _ rfl ?_;clear hK K)
     refine AW.yes ?_ rfl;(repeat refine AW.seq_k fun K hK=>?_);refine AW.rg ?_;simp;try (refine hK _ rfl ?_;clear hK K)
     exact AW.ret (Ag rfl _ (.same _) ⟨by rw[←hcv];rfl,rfl⟩)
  ·refine AW.exit ?_;try simp
   have:i=x.length:=by omega
   subst this;rw[List.drop_length]at g3;exact⟨g2,g3⟩
 ·rintro _ ⟨h1,h2⟩;(repeat refine AW.seq_k fun K hK=>?_);refine AW.rg ?_;simp;try (refine hK _ rfl ?_;clear hK K)
  (repeat refine AW.seq ?_);refine AW.cs (fun h3=>?_) (fun h3=>?_) rfl<;>(try simp at h3)
  ·(repeat refine AW.seq_k fun K hK=>?_);refine AW.rg ?_;simp;try (refine hK _ rfl ?_;clear hK K)
   have hd:∃c t,y.drop x.length=c::t:=⟨_,_,List.drop_eq_getElem_cons h3⟩;obtain⟨c,t,hd⟩:=hd;rw[hd]at h2;exact AW.ret (Ag rfl _ (.same _) ⟨by rw[h2];rfl,rfl⟩)
  ·refine AW.skip ?_;try simp
   try (refine hK _ rfl ?_;clear hK K)
   (repeat refine AW.seq_k fun K hK=>?_);refine AW.rg ?_;simp;try (refine hK _ rfl ?_;clear hK K)
   rw[List.drop_of_length_le h3]at h2;exact AW.ret (Ag rfl _ (.same _) ⟨by rw[h2];rfl,rfl⟩)
def Gd (W:List (List Nat)):Prop:=W.Pairwise fun x y=>Bw y x=false
theorem Rx {a b c:List Nat} (h1:Bw b a=false) (h2:Bw c b=false):Bw c a=false:=by
 cases h:Bw c a with
 |false=>rfl
 |true =>
  rcases Hw a b with e|e|e
  ·subst e;rw[h]at h2;cases h2
  ·rw[Gh h e]at h2;cases h2
  ·rw[e]at h1;cases h1
theorem Xm {a b:List Nat} (h:Bw a b=true):Bw b a=false:=by
 cases h':Bw b a with
 |false=>rfl
 |true=>have:=Gh h h';rw[Ic]at this;cases this
theorem Qci {p1 p2:List (List Nat)} {x:List Nat} (hs:Gd (p1++p2)) (h1:∀y∈p1.getLast?,Bw x y=false) (h2:∀y∈p2,Bw x y=true):Gd (p1++x::p2):=by
 unfold Gd at *;rw[List.pairwise_append]at hs ⊢;obtain⟨s1,s2,s3⟩:=hs;refine⟨s1,List.pairwise_cons.2 ⟨fun y hy=>Xm (h2 y hy),s2⟩,fun y hy z hz=>?_⟩;rcases List.mem_cons.1 hz with rfl | hz
 ·rcases List.eq_nil_or_concat p1 with rfl|⟨p,l,rfl⟩
  ·cases hy
  ·have hl:=h1 l (by simp);rw[List.concat_eq_append]at s1 hy;rcases List.mem_append.1 hy with hy | hy
   ·have:=(List.pairwise_append.1 s1).2.2 y hy l (by simp);exact Rx this hl
   ·simp at hy;subst hy;exact hl
 ·exact s3 y hy z hz
theorem Qj5 (p1:List (List Nat)) (y x:List Nat) (r:List (List Nat)):((Gk (p1++y::x::r)).set (p1.length+1) (.sl 1 (Ax y))).set p1.length (.sl 1 (Ax x))=Gk (p1++x::y::r):=by
 unfold Gk;simp[List.set_append]
theorem Qd6 (b:Nat) (W:List (List Nat)) (hl:W.length≤12) (hw:∀x∈W,x.length<2^40):Ai Tryz.prog 126 [.osl b 1 0 W.length,.int .i64 0,.int .i64 (W.length:Nat),.fn 58 []] (Ac.emp.set b ⟨25,1,Gk W⟩) fun v m=>∃W',W'.Perm W∧Gd W'∧v=.tup []∧m=Ac.emp.set b ⟨25,1,Gk W'⟩:=by
 have hone:∀(W:List (List Nat)) c y,Ac.emp.set b ⟨25,1,Gk W⟩ c=some y→∀v∈y.l,v.cells.all AV.one=true:=by
  intro W c y hy v hv;simp only[A6,Aw]at hy;split at hy
  ·cases hy;exact R8 _ v hv
  ·cases hy
 refine Ad Tryz.func126 rfl rfl 53 rfl (Nat.le_of_ble_eq_true rfl) ?_;have w0:IntKind.i64.wrap 1=1:=rfl;(repeat refine AW.seq_k fun K hK=>?_);refine AW.rg ?_;simp[Al,w0];try (refine hK _ rfl ?_;clear hK K)
 cases W with
 |nil =>
  refine AW.block (AW.loopS (ι:=Unit) (fun _=>[(2,.int .i64 0),(8,.int .i64 1)]) (fun _=>Ac.emp.set b ⟨25,1,Gk []⟩) (fun _=>True) (fun _=>0) () trivial rfl (by simp) ?_);intro _ _;(repeat refine AW.seq_k fun K hK=>?_);refine AW.rg ?_;simp;try (refine hK _ rfl ?_;clear hK K)
  (repeat refine AW.seq ?_);refine AW.no ?_ rfl;refine AW.exit ?_;try simp
  refine T3 rfl (hone []) ?_;simp[Gd,oneOrTup]
 |cons x0 t0 =>
  obtain⟨W,hW⟩:∃W,x0::t0=W:=⟨_,rfl⟩;rw[hW]at hl hw ⊢;refine AW.block (AW.loopS (ι:=List (List Nat) × List (List Nat)) (fun z=>[(0,.osl b 1 0 W.length),(1,.int .i64 0),(2,.int .i64 (W.length:Nat)),(3,.fn 58 []),(8,.int .i64 (z.1.length:Nat))]) (fun z=>Ac.emp.set b ⟨25,1,Gk (z.1++z.2)⟩)
   (fun z=>z.1≠[]∧(z.1++z.2).Perm W∧Gd z.1) (fun z=>z.2.length) ([x0],t0) ⟨by simp,by rw[←hW];exact .refl _,by simp[Gd]⟩ (by rw[←hW];rfl) (by simp) ?_)
  rintro⟨pre,post⟩ ⟨g1,g2,g3⟩;simp only at g1 g2 g3;have hlen:=g2.length_eq;rw[List.length_append]at hlen;(repeat refine AW.seq_k fun K hK=>?_);refine AW.rg ?_;simp;try (refine hK _ rfl ?_;clear hK K)
  (repeat refine AW.seq ?_);refine AW.cs (fun hi=>?_) (fun hi=>?_) rfl<;>(try simp at hi)
  ·refine AW.skip ?_;try simp
   try (refine hK _ rfl ?_;clear hK K)
   cases post with
   |nil=>simp at hlen;omega
   |cons x post =>
   simp only[List.length_cons]at hlen;have hxw:x.length<2^40:=hw x (g2.mem_iff.1 (by simp));(repeat refine AW.seq ?_);refine AW.block ?_;(repeat refine AW.seq_k fun K hK=>?_);refine AW.rg ?_;simp;try (refine hK _ rfl ?_;clear hK K)
   have w1:=Au (pre.length+1) (by omega);refine AW.block (AW.loopS (ι:=List (List Nat) × List (List Nat)) (fun z=>[(0,.osl b 1 0 W.length),(1,.int .i64 0),(2,.int .i64 (W.length:Nat)),(3,.fn 58 []),(8,.int .i64 (pre.length:Nat)),(9,.int .i64 (z.1.length:Nat))]) (fun z=>Ac.emp.set b ⟨25,1,Gk (z.1++x::z.2++post)⟩)
    (fun z=>z.1++z.2=pre∧∀y∈z.2,Bw x y=true) (fun z=>z.1.length) (pre,[]) ⟨by simp,by simp⟩ (by simp) (by simp) ?_)
   rintro⟨p1,p2⟩ ⟨k1,k2⟩;simp only at k1 k2;have hL:(p1++x::p2++post).length=W.length:=by rw[←k1]at hlen;simp at hlen ⊢;omega
   have hfin:(∀y∈p1.getLast?,Bw x y=false)→((p1++x::p2)≠[]∧((p1++x::p2)++post).Perm W∧Gd (p1++x::p2))∧(p1++x::p2).length=pre.length+1:=fun h=>by
    refine⟨⟨by simp,?_,Qci (by rw[k1];exact g3) h k2⟩,by rw[←k1];simp;omega⟩;refine List.Perm.trans ?_ g2;rw[←k1];simp only[List.append_assoc,List.cons_append];exact List.Perm.append_left _ (List.perm_middle (l₁:=p2) (l₂:=post)).symm
   rcases List.eq_nil_or_concat p1 with rfl|⟨p,y,rfl⟩
   ·obtain⟨f1,f2⟩:=hfin (by simp);simp only[List.nil_append]at f1 f2 ⊢;generalize hLv:Gk (x::p2++post)=Lv;(repeat refine AW.seq_k fun K hK=>?_);refine AW.rdL [b] [0,1,2,3,4,5,6,7,8,9,10,11,12,13,14,15,16] C6 (by simp) ?_;simp;try (refine hK _ rfl ?_;clear hK K)
    refine AW.no ?_ rfl;refine AW.exit ?_;try simp
    (repeat refine AW.seq_k fun K hK=>?_);refine AW.rg ?_;simp[-Int.natCast_add,w1];try (refine hK _ rfl ?_;clear hK K)
    refine⟨x::p2,post,f1,by simp,by rw[←hLv],by rw[f2]⟩
   ·rw[List.concat_eq_append]at *;have hyw:y.length<2^40:=hw y (g2.mem_iff.1 (by rw[←k1];simp));have hcm:=Vi x y hxw hyw;have hcl:=Qff x y;have e1:(p++[y])++x::p2++post=p++y::x::(p2++post):=by simp
    have hpl:(p++[y]).length=p.length+1:=by simp
    simp only[hpl]at hL ⊢;rw[e1]at hL ⊢;have hsw:=Qj5 p y x (p2++post);have hx1:∀h:p.length+1<(Gk (p++y::x::(p2++post))).length,(Gk (p++y::x::(p2++post)))[p.length+1]=.sl 1 (Ax x):=fun h=>by
     rw[Qfd];congr 2;simp[List.getElem_append]
    have hx2:∀h:p.length<(Gk (p++y::x::(p2++post))).length,(Gk (p++y::x::(p2++post)))[p.length]=.sl 1 (Ax y):=fun h=>by
     rw[Qfd];congr 2;simp[List.getElem_append]
    have hLl:(Gk (p++y::x::(p2++post))).length=W.length:=by rw[Sn,hL]
    have hpW:p.length+1<W.length:=by rw[←hL];simp
    have hpW2:p.length<W.length:=by omega
    have w2:IntKind.i64.wrap (((p.length+1:Nat):Int)-1)=(p.length:Int):=by rw[Oc (by omega)];omega
    generalize hLv:Gk (p++y::x::(p2++post))=Lv at hx1 hx2 hLl hsw ⊢;(repeat refine AW.seq_k fun K hK=>?_);refine AW.rdL [b] [0,1,2,3,4,5,6,7,8,9,10,11,12,13,14,15,16] C6 (by simp[-Int.natCast_add]) ?_;simp[-Int.natCast_add,w2,hpW,hpW2,hLl,hx1,hx2];refine⟨58,_,⟨rfl,rfl⟩,?_⟩;refine Aa.val hcm ?_;simp[-Int.natCast_add];try (refine hK _ rfl ?_;clear hK K)
    cases hbf:Bw x y with
    |false =>
     have hlt:¬L4 x y<0:=fun h=>by rw[hcl.1 h]at hbf;cases hbf
     obtain⟨f1,f2⟩:=hfin (by simp[hbf]);(repeat refine AW.seq ?_);refine AW.no ?_ (by simp[-Int.natCast_add];omega);refine AW.exit ?_;try simp[-Int.natCast_add]
     (repeat refine AW.seq_k fun K hK=>?_);refine AW.rg ?_;simp[-Int.natCast_add,w1];try (refine hK _ rfl ?_;clear hK K)
     refine⟨_,post,f1,by simp,?_,by rw[f2]⟩;rw[←hLv];simp
    |true =>
     have hlt:=hcl.2 hbf;have hk:∀z∈y::p2,Bw x z=true:=fun z hz=>by
      rcases List.mem_cons.1 hz with rfl|hz
      ·exact hbf
      ·exact k2 z hz
     refine AW.yes ?_ (by simp[-Int.natCast_add];omega);refine AW.skip ?_;try simp[-Int.natCast_add]
     try (refine hK _ rfl ?_;clear hK K)
     (repeat refine AW.seq ?_);refine AW.block ?_;(repeat refine AW.seq_k fun K hK=>?_);refine AW.rdL [b] [0,1,2,3,4,5,6,7,8,9,10,11,12,13,14,15,16,17] C6 (by simp[-Int.natCast_add]) ?_;simp[-Int.natCast_add,w2,hpW,hpW2,hLl,hx1,hx2];rw[hsw];(repeat refine AW.seq_k fun K hK=>?_);refine AW.rg ?_;simp[-Int.natCast_add,w2];try (refine hK _ rfl ?_;clear hK K)
     refine⟨p,y::p2,⟨by rw[←k1];simp,fun z hz=>?_⟩,by omega,by simp,rfl⟩;exact hk z hz
  ·refine AW.exit ?_;try simp
   have:post=[]:=List.eq_nil_of_length_eq_zero (by omega);subst this;rw[List.append_nil]at g2 ⊢;exact T3 rfl (hone pre) ⟨pre,g2,g3,rfl,rfl⟩
set_option maxRecDepth 100000 in
theorem Qc6 (x:Nat) (hx:x<256):Ai Tryz.prog 135 [.int .u64 x] Ac.emp fun v m=>(∃y:Int,v=.int .i64 y)∧m=Ac.emp:=by
 refine Ad Tryz.func135 rfl rfl 25 rfl (Nat.le_of_ble_eq_true rfl) ?_;have h1:¬((4294967296:Int)≤(x:Int)):=by omega
 have h2:¬((65536:Int)≤(x:Int)):=by omega
 have h3:¬((256:Int)≤(x:Int)):=by omega
 (repeat refine AW.seq_k fun K hK=>?_);refine AW.rg ?_;simp[Al];try (refine hK _ rfl ?_;clear hK K)
 (repeat refine AW.seq_k fun K hK=>?_);refine AW.rg ?_;simp[h1];try (refine hK _ rfl ?_;clear hK K)
 refine AW.no ?_ rfl;refine AW.skip ?_;try simp
 try (refine hK _ rfl ?_;clear hK K)
 (repeat refine AW.seq_k fun K hK=>?_);refine AW.rg ?_;simp[h2];try (refine hK _ rfl ?_;clear hK K)
 refine AW.no ?_ rfl;refine AW.skip ?_;try simp
 try (refine hK _ rfl ?_;clear hK K)
 (repeat refine AW.seq_k fun K hK=>?_);refine AW.rg ?_;simp[h3];try (refine hK _ rfl ?_;clear hK K)
 refine AW.no ?_ rfl;refine AW.skip ?_;try simp
 try (refine hK _ rfl ?_;clear hK K)
 have hm:x % 256=x:=Nat.mod_eq_of_lt hx;(repeat refine AW.seq_k fun K hK=>?_);refine AW.rg ?_;simp[hm];try (refine hK _ rfl ?_;clear hK K)
 refine Vt (by kernel_rfl) hx fun t t1 t2=>?_;simp;try (refine hK _ rfl ?_;clear hK K)
 exact AW.ret (Ag rfl _ (.same _) ⟨⟨_,rfl⟩,rfl⟩)
theorem Qhd (x:Nat) (hx:x<256):Ai Tryz.prog 93 [.int .u64 x] Ac.emp fun v m=>(∃y:Int,v=.int .i64 y)∧m=Ac.emp:=by
 refine Ad Tryz.func93 rfl rfl 8 rfl (Nat.le_of_ble_eq_true rfl) ?_;(repeat refine AW.seq_k fun K hK=>?_);refine AW.rg ?_;simp[Al];try (refine hK _ rfl ?_;clear hK K)
 (repeat refine AW.seq_k fun K hK=>?_);refine AW.no ?_ rfl;refine AW.skip ?_;try simp
 try (refine hK _ rfl ?_;clear hK K)
 (repeat refine AW.seq_k fun K hK=>?_);refine AW.rg ?_;simp;try (refine hK _ rfl ?_;clear hK K)
 refine Aa.pure (Qc6 x hx) ?_;rintro _ ⟨y,rfl⟩;simp;try (refine hK _ rfl ?_;clear hK K)
 exact AW.ret (Ag rfl _ (.same _) ⟨⟨y,rfl⟩,rfl⟩)
theorem Qij (b:Nat) (W:List (List Nat)) (hl:W.length≤12) (hw:∀x∈W,x.length<2^40) (y:Int):Ai Tryz.prog 92 [.osl b 1 0 W.length,.int .i64 0,.int .i64 (W.length:Nat),.int .i64 y,.fn 58 []] (Ac.emp.set b ⟨25,1,Gk W⟩) fun v m=>∃W',W'.Perm W∧Gd W'∧v=.tup []∧m=Ac.emp.set b ⟨25,1,Gk W'⟩:=by
 have hc:=Qd6 b W hl hw;have hone:∀(W:List (List Nat)) c y,Ac.emp.set b ⟨25,1,Gk W⟩ c=some y→∀v∈y.l,v.cells.all AV.one=true:=by
  intro W c y hy v hv;simp only[A6,Aw]at hy;split at hy
  ·cases hy;exact R8 _ v hv
  ·cases hy
 refine Ad Tryz.func92 rfl rfl 148 rfl (Nat.le_of_ble_eq_true rfl) ?_;have w0:IntKind.i64.wrap (W.length:Int)=(W.length:Int):=wi (by omega);have w1:(W.length:Int)≤12:=by omega
 (repeat refine AW.seq_k fun K hK=>?_);refine AW.rg ?_;simp[Al];try (refine hK _ rfl ?_;clear hK K)
 (repeat refine AW.seq_k fun K hK=>?_);refine AW.rg ?_;simp;try (refine hK _ rfl ?_;clear hK K)
 refine AW.block (AW.loopS (ι:=Unit) (fun _=>[(0,.osl b 1 0 W.length),(1,.int .i64 0),(2,.int .i64 (W.length:Nat)),(3,.int .i64 y),(4,.fn 58 [])]) (fun _=>Ac.emp.set b ⟨25,1,Gk W⟩) (fun _=>True) (fun _=>0) () trivial rfl (by simp) ?_);intro _ _;(repeat refine AW.seq ?_);refine AW.block ?_;(repeat refine AW.seq_k fun K hK=>?_);refine AW.rg ?_;simp[w0];try (refine hK _ rfl ?_;clear hK K)
 (repeat refine AW.seq_k fun K hK=>?_);refine AW.rg ?_;simp[w1];try (refine hK _ rfl ?_;clear hK K)
 refine AW.yes ?_ rfl;(repeat refine AW.seq_k fun K hK=>?_);refine AW.rg ?_;simp;try (refine hK _ rfl ?_;clear hK K)
 refine Aa.whole (fun _ h=>h) hc ?_;rintro _ g ⟨W',p1,p2,rfl,rfl⟩;simp;try (refine hK _ rfl ?_;clear hK K)
 exact AW.ret (Bo rfl (hone W') ⟨W',p1,p2,rfl,rfl⟩)
theorem Qfz (b:Nat) (W:List (List Nat)) (hl:W.length≤12) (hw:∀x∈W,x.length<2^40):Ai Tryz.prog 57 [.osl b 1 0 W.length,.fn 58 []] (Ac.emp.set b ⟨25,1,Gk W⟩) fun v m=>∃W',W'.Perm W∧Gd W'∧v=.tup []∧m=Ac.emp.set b ⟨25,1,Gk W'⟩:=by
 have hc:=Qij b W hl hw;have hone:∀(W:List (List Nat)) c y,Ac.emp.set b ⟨25,1,Gk W⟩ c=some y→∀v∈y.l,v.cells.all AV.one=true:=by
  intro W c y hy v hv;simp only[A6,Aw]at hy;split at hy
  ·cases hy;exact R8 _ v hv
  ·cases hy
 have hsl:=Qhd W.length (by omega);have hmod:W.length % 18446744073709551616=W.length:=Nat.mod_eq_of_lt (by omega);refine Ad Tryz.func57 rfl rfl 14 rfl (Nat.le_of_ble_eq_true rfl) ?_;(repeat refine AW.seq_k fun K hK=>?_);refine AW.rg ?_;simp[Al];try (refine hK _ rfl ?_;clear hK K)
 (repeat refine AW.seq_k fun K hK=>?_);refine AW.rg ?_;simp[hmod];try (refine hK _ rfl ?_;clear hK K)
 refine Aa.pure hsl ?_;rintro _ ⟨y,rfl⟩;simp;refine Aa.whole (fun _ h=>h) (hc y) ?_;rintro _ g ⟨W',p1,p2,rfl,rfl⟩;simp;exact T3 rfl (hone W') ⟨W',p1,p2,rfl,rfl⟩
theorem Qai (x y:List Nat) (hx:x.length<2^40) (hy:y.length<2^40):Ai Tryz.prog 56 [.sl 1 (Ax x),.sl 1 (Ax y)] Ac.emp fun v m=>v=.bool (decide (x=y))∧m=Ac.emp:=by
 refine Ad Tryz.func56 rfl rfl 26 rfl (Nat.le_of_ble_eq_true rfl) ?_;(repeat refine AW.seq_k fun K hK=>?_);refine AW.rg ?_;simp[Al];try (refine hK _ rfl ?_;clear hK K)
 by_cases hl:x.length=y.length;rotate_left
 ·have hne:¬x=y:=fun h=>hl (by rw[h]);(repeat refine AW.seq_k fun K hK=>?_);refine AW.rg ?_;simp[hl];try (refine hK _ rfl ?_;clear hK K)
  refine AW.yes ?_ rfl;(repeat refine AW.seq_k fun K hK=>?_);refine AW.rg ?_;simp;try (refine hK _ rfl ?_;clear hK K)
  exact AW.ret (Ag rfl _ (.same _) ⟨by simp[hne,oneOrTup],rfl⟩)
 (repeat refine AW.seq_k fun K hK=>?_);refine AW.rg ?_;simp[hl];try (refine hK _ rfl ?_;clear hK K)
 refine AW.no ?_ rfl;refine AW.skip ?_;try simp
 try (refine hK _ rfl ?_;clear hK K)
 refine AW.seq_ex (ι:=Unit) (fun _=>[]) (fun _=>Ac.emp) (fun _=>x=y) ?_ ?_
 ·(repeat refine AW.seq_k fun K hK=>?_);refine AW.rg ?_;simp;try (refine hK _ rfl ?_;clear hK K)
  refine AW.block (AW.loopS (ι:=Nat) (fun i=>[(0,.sl 1 (Ax x)),(1,.sl 1 (Ax y)),(12,.int .i64 (x.length:Nat)),(13,.int .i64 (i:Nat))]) (fun i=>Ac.emp)
   (fun i=>i≤x.length∧x.take i=y.take i) (fun i=>x.length-i) 0 ⟨by simp,by simp⟩ rfl (by simp) ?_)
  rintro i ⟨g1,g2⟩;(repeat refine AW.seq_k fun K hK=>?_);refine AW.rg ?_;simp;try (refine hK _ rfl ?_;clear hK K)
  (repeat refine AW.seq ?_);refine AW.cs (fun hi=>?_) (fun hi=>?_) rfl<;>(try simp at hi)
  ·refine AW.skip ?_;try simp
   try (refine hK _ rfl ?_;clear hK K)
   have w1:=Au (i+1) (by omega);have hi2:i<y.length:=by omega
   (repeat refine AW.seq ?_);refine AW.block ?_;(repeat refine AW.seq_k fun K hK=>?_);refine AW.rg ?_;simp;try (refine hK _ rfl ?_;clear hK K)
   (repeat refine AW.seq_k fun K hK=>?_);refine AW.rd [0,1,2,3,4,5,6,7,8] C6 ?_;simp[hi,hi2];try (refine hK _ rfl ?_;clear hK K)
   by_cases he:x[i]=y[i]
   ·refine AW.no ?_ (by simp[he]);refine AW.skip ?_;try simp
    try (refine hK _ rfl ?_;clear hK K)
    (repeat refine AW.seq_k fun K hK=>?_);refine AW.rg ?_;simp[-Int.natCast_add,w1];try (refine hK _ rfl ?_;clear hK K)
    refine⟨⟨by omega,?_⟩,by omega⟩;rw[Jj hi he,Jj hi2 rfl,g2]
   ·refine AW.yes ?_ (by simp[he]);(repeat refine AW.seq_k fun K hK=>?_);refine AW.rg ?_;simp;try (refine hK _ rfl ?_;clear hK K)
    have hne:¬x=y:=fun h=>he (by simp[h]);exact AW.ret (Ag rfl _ (.same _) ⟨by simp[hne,oneOrTup],rfl⟩)
  ·refine AW.exit ?_;try simp
   have:i=x.length:=by omega
   subst this;rw[List.take_length,hl,List.take_length]at g2;exact g2
 ·rintro _ h;(repeat refine AW.seq_k fun K hK=>?_);refine AW.rg ?_;simp;try (refine hK _ rfl ?_;clear hK K)
  exact AW.ret (Ag rfl _ (.same _) ⟨by simp[h,oneOrTup],rfl⟩)
theorem Qia (x y:List Nat) (hx:x.length<2^40) (hy:y.length<2^40):Ai Tryz.prog 55 [.sl 1 (Ax x),.rptr [.sl 1 (Ax y)]] Ac.emp fun v m=>v=.bool (decide (x=y))∧m=Ac.emp:=by
 have hc:=Qai x y hx hy;refine Ad Tryz.func55 rfl rfl 7 rfl (Nat.le_of_ble_eq_true rfl) ?_;(repeat refine AW.seq_k fun K hK=>?_);refine AW.rg ?_;simp[Al];try (refine hK _ rfl ?_;clear hK K)
 (repeat refine AW.seq_k fun K hK=>?_);refine AW.rg ?_;simp;try (refine hK _ rfl ?_;clear hK K)
 refine Aa.val hc ?_;simp;try (refine hK _ rfl ?_;clear hK K)
 exact AW.ret (Ag rfl _ (.same _) ⟨rfl,rfl⟩)
theorem Xr (W:List (List Nat)) (y:List Nat) (hl:W.length<2^40) (hw:∀x∈W,x.length<2^40) (hy:y.length<2^40):Ai Tryz.prog 91 [.sl 1 (Gk W),.fn 55 [.rptr [.sl 1 (Ax y)]]] Ac.emp fun v m=>(∃t:Int,v=.int .i64 t∧(0≤t↔y∈W))∧m=Ac.emp:=by
 refine Ad Tryz.func91 rfl rfl 19 rfl (Nat.le_of_ble_eq_true rfl) ?_;(repeat refine AW.seq_k fun K hK=>?_);refine AW.rg ?_;simp[Al];try (refine hK _ rfl ?_;clear hK K)
 refine AW.seq_ex (ι:=Unit) (fun _=>[]) (fun _=>Ac.emp) (fun _=>y ∉ W) ?_ ?_
 ·(repeat refine AW.seq_k fun K hK=>?_);refine AW.rg ?_;simp;try (refine hK _ rfl ?_;clear hK K)
  refine AW.block (AW.loopS (ι:=Nat) (fun i=>[(0,.sl 1 (Gk W)),(1,.fn 55 [.rptr [.sl 1 (Ax y)]]),(7,.int .i64 (W.length:Nat)),(8,.int .i64 (i:Nat))]) (fun i=>Ac.emp)
   (fun i=>i≤W.length∧∀k,(h:k<W.length)→k<i→W[k]≠y) (fun i=>W.length-i) 0 ⟨by simp,by omega⟩ rfl (by simp) ?_)
  rintro i ⟨g1,g2⟩;(repeat refine AW.seq_k fun K hK=>?_);refine AW.rg ?_;simp;try (refine hK _ rfl ?_;clear hK K)
  (repeat refine AW.seq ?_);refine AW.cs (fun hi=>?_) (fun hi=>?_) rfl<;>(try simp at hi)
  ·refine AW.skip ?_;try simp
   try (refine hK _ rfl ?_;clear hK K)
   have w1:=Au (i+1) (by omega);have hc:=Qia W[i] y (hw _ (List.getElem_mem hi)) hy;(repeat refine AW.seq ?_);refine AW.block ?_;(repeat refine AW.seq_k fun K hK=>?_);refine AW.rg ?_;simp;try (refine hK _ rfl ?_;clear hK K)
   (repeat refine AW.seq_k fun K hK=>?_);refine AW.rg ?_;simp[hi];try (refine hK _ rfl ?_;clear hK K)
   refine⟨55,_,⟨rfl,rfl⟩,?_⟩;refine Aa.val hc ?_;simp;try (refine hK _ rfl ?_;clear hK K)
   (repeat refine AW.seq ?_);refine AW.cs (fun he=>?_) (fun he=>?_) rfl<;>(try simp at he)
   ·(repeat refine AW.seq_k fun K hK=>?_);refine AW.rg ?_;simp;try (refine hK _ rfl ?_;clear hK K)
    exact AW.ret (Ag rfl _ (.same _) ⟨⟨i,rfl,⟨fun _=>(by rw[←he];exact List.getElem_mem hi),fun _=>(by omega)⟩⟩,rfl⟩)
   ·refine AW.skip ?_;try simp
    try (refine hK _ rfl ?_;clear hK K)
    (repeat refine AW.seq_k fun K hK=>?_);refine AW.rg ?_;simp[-Int.natCast_add,w1];try (refine hK _ rfl ?_;clear hK K)
    refine⟨⟨by omega,fun k h hk=>?_⟩,by omega⟩;rcases Nat.lt_or_ge k i with h1 | h1
    ·exact g2 k h h1
    ·have:k=i:=by omega
     subst this;exact he
  ·refine AW.exit ?_;try simp
   intro hm;obtain⟨k,hk,rfl⟩:=List.mem_iff_getElem.1 hm;exact g2 k hk (by omega) rfl
 ·rintro _ h;(repeat refine AW.seq_k fun K hK=>?_);refine AW.rg ?_;simp;try (refine hK _ rfl ?_;clear hK K)
  exact AW.ret (Ag rfl _ (.same _) ⟨⟨-1,rfl,⟨fun h=>(by omega),fun h'=>absurd h' h⟩⟩,rfl⟩)
theorem Rr (W:List (List Nat)) (y:List Nat) (hl:W.length<2^40) (hw:∀x∈W,x.length<2^40) (hy:y.length<2^40):Ai Tryz.prog 54 [.sl 1 (Gk W),.fn 55 [.rptr [.sl 1 (Ax y)]]] Ac.emp fun v m=>v=.bool (decide (y∈W))∧m=Ac.emp:=by
 have hc:=Xr W y hl hw hy;refine Ad Tryz.func54 rfl rfl 9 rfl (Nat.le_of_ble_eq_true rfl) ?_;(repeat refine AW.seq_k fun K hK=>?_);refine AW.rg ?_;simp[Al];try (refine hK _ rfl ?_;clear hK K)
 (repeat refine AW.seq_k fun K hK=>?_);refine AW.rg ?_;simp;try (refine hK _ rfl ?_;clear hK K)
 refine Aa.pure hc ?_;rintro _ ⟨t,rfl,ht⟩;simp;try (refine hK _ rfl ?_;clear hK K)
 exact AW.ret (Ag rfl _ (.same _) ⟨by show AV.bool (decide (0≤t))=_;rw[decide_eq_decide.2 ht],rfl⟩)
end Go.Av
end
section
namespace Go.Av
open Go.Proofs Go.Lam
structure Ii (n bg bf bc:Nat) (es:List RE) (A:List Nat) (X:Ac) (z:GSt):Prop where
 game:Dk z.M n bg bf bc es z.fl z.bs z.cl
 inv:Inv n (Ah es) A (Ej z.fl) (Dh z.cl)
 ext:∀k x,X k=some x→z.M k=some x
 off:∀k,X k≠none→k ∉ Bc bg bf bc z.bs
 only:∀k,z.M k≠none→X k≠none∨k∈Bc bg bf bc z.bs
section
variable {n bg bf bc:Nat} {es:List RE} {A:List Nat} {X M g':Ac} {fl fl':List Nat} {bs bs':List (Option Nat)} {cl cl':List (List Nat)}
theorem Ii.of (h:I8 n bg bf bc es A M fl bs cl):Ii n bg bf bc es A Ac.emp ⟨M,fl,bs,cl⟩ :=
 ⟨h.mem,h.inv,fun k x hx=>(by cases hx),fun k hk=>absurd rfl hk,fun k hk=>.inr (h.only k hk)⟩
theorem Ii.gam (h:Ii n bg bf bc es A X ⟨M,fl,bs,cl⟩):I8 n bg bf bc es A (M.only (Bc bg bf bc bs)) fl bs cl :=
 ⟨h.game.congr fun k hk=>Bx hk,fun k hk=>by
  rcases Decidable.em (k∈Bc bg bf bc bs)with hm|hm
  ·exact hm
  ·exact absurd (Bv hm) hk,h.inv⟩
theorem Ii.back (h:Ii n bg bf bc es A X ⟨M,fl,bs,cl⟩) (hG':I8 n bg bf bc es A g' fl' bs' cl') (hnew:∀b,g' b≠none→b∈Bc bg bf bc bs∨M b=none):Ii n bg bf bc es A X ⟨M.back (Bc bg bf bc bs) g',fl',bs',cl'⟩:=by
 have hN:∀k,X k≠none→k ∉ Bc bg bf bc bs':=fun k hk hm=>by
  rcases hnew k (hG'.mem.dom hm)with h'|h'
  ·exact h.off k hk h'
  ·cases hx:X k with
   |none=>exact hk hx
   |some x=>have:=h.ext k x hx;simp only at this;rw[h']at this;cases this
 refine⟨hG'.mem.congr fun k hk=>?_,hG'.inv,fun k x hx=>?_,hN,fun k hk=>?_⟩
 ·simp only[Ac.back];cases h:g' k with
  |some x=>rfl
  |none=>exact absurd h (hG'.mem.dom hk)
 ·have h1:g' k=none:=by
   cases h':g' k with
   |none=>rfl
   |some y=>exact absurd (hG'.only k (by rw[h'];simp)) (hN k (by rw[hx];simp))
  simp only[Ac.back];rw[h1];simp only;rw[if_neg (h.off k (by rw[hx];simp))];exact h.ext k x hx
 ·simp only[Ac.back]at hk;cases h':g' k with
  |some x=>exact .inr (hG'.only k (by rw[h'];simp))
  |none =>
   rw[h']at hk;simp only at hk;by_cases hm:k∈Bc bg bf bc bs
   ·rw[if_pos hm]at hk;exact absurd rfl hk
   ·rw[if_neg hm]at hk;exact .inl ((h.only k hk).resolve_right hm)
theorem Ii.set (h:Ii n bg bf bc es A X ⟨M,fl,bs,cl⟩) {b:Nat} (y:Ev) (hb:X b≠none∨M b=none):Ii n bg bf bc es A (X.set b y) ⟨M.set b y,fl,bs,cl⟩:=by
 have hbg:b ∉ Bc bg bf bc bs:=fun hm=>by
  rcases hb with hb|hb
  ·exact h.off b hb hm
  ·exact h.game.dom hm hb
 refine⟨h.game.congr fun k hk=>Ac.set_other _ _ (fun e=>hbg (e ▸ hk)),h.inv,fun k x hx=>?_,fun k hk=>?_,fun k hk=>?_⟩
 ·by_cases e:k=b
  ·subst e;simp only;rw[Ac.set_same]at hx ⊢;exact hx
  ·simp only;rw[Ac.set_other _ _ e]at hx ⊢;exact h.ext k x hx
 ·by_cases e:k=b
  ·rw[e];exact hbg
  ·rw[Ac.set_other _ _ e]at hk;exact h.off k hk
 ·by_cases e:k=b
  ·rw[e,Ac.set_same];simp
  ·simp only at hk;rw[Ac.set_other _ _ e]at hk ⊢;exact h.only k hk
theorem Ii.del (h:Ii n bg bf bc es A X ⟨M,fl,bs,cl⟩) {b:Nat} (hb:X b≠none):Ii n bg bf bc es A (X.del b) ⟨M.del b,fl,bs,cl⟩:=by
 have hbg:b ∉ Bc bg bf bc bs:=h.off b hb;refine⟨h.game.congr fun k hk=>Ac.del_other _ (fun e=>hbg (e ▸ hk)),h.inv,fun k x hx=>?_,fun k hk=>?_,fun k hk=>?_⟩
 ·by_cases e:k=b
  ·subst e;rw[Ac.del_same]at hx;cases hx
  ·simp only;rw[Ac.del_other _ e]at hx ⊢;exact h.ext k x hx
 ·by_cases e:k=b
  ·rw[e];exact hbg
  ·rw[Ac.del_other _ e]at hk;exact h.off k hk
 ·by_cases e:k=b
  ·rw[e]at hk;simp only at hk;rw[Ac.del_same]at hk;exact absurd rfl hk
  ·simp only at hk;rw[Ac.del_other _ e]at hk ⊢;exact h.only k hk
theorem Ii.ones (h:Ii n bg bf bc es A X ⟨M,fl,bs,cl⟩) (hX:∀c y,X c=some y→∀v∈y.l,v.cells.all AV.one=true):∀c y,M c=some y→∀v∈y.l,v.cells.all AV.one=true:=by
 intro c y hy v hv;rcases h.only c (by simp only;rw[hy];simp)with hc | hc
 ·cases hx:X c with
  |none=>exact absurd hx hc
  |some x =>
   have:=h.ext c x hx;simp only at this;rw[hy]at this;cases this;exact hX c y hx v hv
 ·rcases Bh.1 hc with rfl|rfl|rfl|⟨i,hi⟩
  ·have:=h.game.g;simp only at this;rw[this]at hy;cases hy;simp only[Cx,List.mem_singleton]at hv;subst hv;rfl
  ·have:=h.game.f;simp only at this;rw[this]at hy;cases hy;exact Cu _ v hv
  ·have:=h.game.c;simp only at this;rw[this]at hy;cases hy;exact Jh _ _ v hv
  ·have:=h.game.row i c hi;simp only at this;rw[this]at hy;cases hy;exact Cu _ v hv
end
def llR (o:Option Nat) (W:List (List Nat)):AV:=match o with
 |none=>.nil
 |some b=>.osl b 1 0 W.length
def Rw (b0:Nat) (al:List Bool) (o:Option Nat) (W:List (List Nat)):Ac:=match o with
 |none=>Ac.emp.set b0 ⟨72,12,[.agg (bools al)]⟩
 |some b=>(Ac.emp.set b0 ⟨72,12,[.agg (bools al)]⟩).set b ⟨25,1,Gk W⟩
theorem Qj8 {b0:Nat} {al:List Bool} {o:Option Nat} {W:List (List Nat)}:∀c y,Rw b0 al o W c=some y→∀v∈y.l,v.cells.all AV.one=true:=by
 have h1:∀c y,(Ac.emp.set b0 ⟨72,12,[.agg (bools al)]⟩) c=some y→∀v∈y.l,v.cells.all AV.one=true:=by
  intro c y hy v hv;simp only[A6,Aw]at hy;split at hy
  ·cases hy;simp only[List.mem_singleton]at hv;subst hv;unfold bools AV.cells;simp only[List.all_map,List.all_eq_true];intro x _;rfl
  ·cases hy
 intro c y hy;cases o with
 |none=>exact h1 c y hy
 |some b =>
  unfold Rw at hy;simp only[A6 (m:=Ac.set _ _ _)]at hy;by_cases e:c=b
  ·rw[if_pos e]at hy;cases hy;exact R8 _
  ·rw[if_neg e]at hy;exact h1 c y hy
def Dp (n:Nat) (L:List Ed):List Bool:=(List.range 12).map fun j=>decide (j<n)&&B2 L j
@[simp] theorem Va (n:Nat) (L:List Ed):(Dp n L).length=12:=by simp[Dp]
theorem Nt (n:Nat) (L:List Ed) {j:Nat} (h:j<(Dp n L).length):(Dp n L)[j]=(decide (j<n)&&B2 L j):=by simp[Dp]
theorem Z2 (n:Nat) (L:List Ed) (a b:Nat):((Dp n L).set a false).set b false=Dp n (L++[(a,b)]):=by
 refine List.ext_getElem (by simp) fun j h1 h2=>?_;rw[List.getElem_set,List.getElem_set,Nt,Nt];have:B2 (L++[(a,b)]) j=(B2 L j&&!(a==j || b==j)):=by simp[B2]
 rw[this];by_cases e1:b=j
 ·simp[e1]
 ·by_cases e2:a=j
  ·simp[e2]
  ·have f1:(a==j)=false:=by simpa using e2
   have f2:(b==j)=false:=by simpa using e1
   rw[if_neg e1,if_neg e2,f1,f2];simp
def Iy (j:Nat):List Bool:=(List.range 12).map fun k=>decide (k<j)
theorem Ie {l:List Bool} {j:Nat} (v:Bool) (h:j<12) (hl:l.length=12):C5 12 1 (.agg (bools l)) (.bool v) j=.agg (bools (l.set j v)):=by
 unfold C5;rw[if_neg (by omega)];show AV.agg ((bools l).take j++[.bool v]++(bools l).drop (j+1))=_
 rw[←F2,List.set_eq_take_append_cons_drop,if_pos (by simp[hl];exact h)];simp
@[simp] theorem Qmn (j:Nat):(Iy j).length=12:=by simp[Iy]
theorem Qgh {j:Nat} (h:j<12):(Iy j).set j true=Iy (j+1):=by
 refine List.ext_getElem (by simp) fun k h1 h2=>?_;rw[List.getElem_set];have g1:∀(i:Nat) (h:k<(Iy i).length),(Iy i)[k]=decide (k<i):=fun i h=>by simp[Iy]
 rw[g1,g1];by_cases e:j=k
 ·simp[e]
 ·rw[if_neg e];refine decide_eq_decide.2 ⟨fun h=>by omega,fun h=>?_⟩;rcases Nat.lt_or_ge k j with h' | h'
  ·exact h'
  ·exact absurd (by omega) e
theorem Qf7 (n:Nat):Iy n=Dp n []:=by unfold Iy Dp B2;simp
def Td (n:Int) (es:List RE):List (List Nat):=if Ds n es=true then Qs n.toNat ((Ho n es).map (Ah es)) else []
def fC (n:Nat) (L:List Ed) (i:Nat):List (List Nat):=(L.take i).foldl (fun o e=>Nr o (Hk n L e)) []
theorem Qhj (n:Nat) (L:List Ed) (e:Ed):(Hk n L e).length≤n:=by
 have:=List.length_filter_le (Hj n L e) (List.range n);simpa[Hk]using this
theorem Qjd (n:Nat) (L:List Ed) (i:Nat):∀x∈fC n L i,x.length≤n:=fun x hx=>by
 rcases((Ks (Hk n L) (L.take i) [] (by simp)).2 x).1 hx with h|h
 ·cases h
 ·obtain⟨e,_,rfl⟩:=List.mem_map.1 h;exact Qhj n L e
theorem Qak (f:Ed→List Nat):∀(s:List Ed) (o:List (List Nat)),(s.foldl (fun o e=>Nr o (f e)) o).length≤o.length+s.length
 |[],o=>by simp
 |a::s,o=>by
  have h1:=Qak f s (Nr o (f a));have h2:(Nr o (f a)).length≤o.length+1:=by unfold Nr;split<;>simp
  simp only[List.foldl_cons,List.length_cons];omega
theorem Qiw (n:Nat) (L:List Ed) (i:Nat):(fC n L i).length≤i:=by
 have h1:=Qak (Hk n L) (L.take i) [];unfold fC;simp at h1;omega
theorem Qek {b0:Nat} {al al':List Bool} {o:Option Nat} {W:List (List Nat)} (h:∀b,o=some b→b≠b0):(Rw b0 al o W).set b0 ⟨72,12,[.agg (bools al')]⟩=Rw b0 al' o W:=by
 cases o with
 |none=>funext c;simp only[Rw,A6];split<;>rfl
 |some b =>
  have:=h b rfl
  funext c
  simp only[Rw,A6];by_cases e:c=b0
  ·rw[if_pos e,if_neg (fun e'=>this (e'.symm.trans e)),if_pos e]
  ·rw[if_neg e,if_neg e,if_neg e]
theorem Vv {b0 b:Nat} {al:List Bool} {W:List (List Nat)}:(Rw b0 al none []).set b ⟨25,1,Gk W⟩=Rw b0 al (some b) W:=rfl
theorem W7 {b0 b b':Nat} {al:List Bool} {W W':List (List Nat)} (h:b≠b0):((Rw b0 al (some b) W).del b).set b' ⟨25,1,Gk W'⟩=Rw b0 al (some b') W':=by
 funext c
 simp only[Rw,A6,Ac.del];by_cases e:c=b'
 ·rw[if_pos e,if_pos e]
 ·rw[if_neg e,if_neg e];by_cases e2:c=b
  ·rw[if_pos e2,if_neg (fun e'=>h (e2.symm.trans e'))];rfl
  ·rw[if_neg e2,if_neg e2]
theorem J1 {b0 b:Nat} {al:List Bool} {W:List (List Nat)}:Rw b0 al (some b) W b=some ⟨25,1,Gk W⟩:=by simp[Rw]
theorem Qa3 {b0:Nat} {al:List Bool} {o:Option Nat} {W:List (List Nat)} (h:∀b,o=some b→b≠b0):Rw b0 al o W b0=some ⟨72,12,[.agg (bools al)]⟩:=by
 cases o with
 |none=>simp[Rw]
 |some b=>have:=h b rfl;simp[Rw,Ne.symm this]
theorem Zy (W:List (List Nat)) (x:List Nat):Gk W++[.sl 1 (Ax x)]=Gk (W++[x]):=by simp[Gk]
theorem Z6 {o:Option Nat} {W:List (List Nat)} {M M':Ac} (h0:o=none→W=[]) (h1:∀b,o=some b→M b=some ⟨25,1,Gk W⟩∧M' b=none):Br M M' (llR o W) (.sl 1 (Gk W)):=by
 cases o with
 |none=>rw[h0 rfl];exact .nilsl 1
 |some b =>
  obtain⟨h2,h3⟩:=h1 b rfl;exact Kz.view (ob:=[b]) (ty:=25) (.inr ⟨b,rfl,by unfold llR;rw[Sn],h2⟩) (by simpa using h3)
def rC (n:Nat) (L:List Ed) (k i:Nat):List (List Nat):=fC n L k++((List.range i).filter (B2 L)).map Fc
theorem Qld (n:Nat) (L:List Ed) (k i:Nat):rC n L k (i+1)=rC n L k i++if B2 L i=true then [[i]] else []:=by
 unfold rC;rw[List.range_succ,List.filter_append,List.map_append,List.append_assoc];cases h:B2 L i<;>simp[h,Fc]
theorem Qqz (n:Nat) (L:List Ed) (k i:Nat):(rC n L k i).length≤k+i:=by
 have h1:=Qiw n L k;have h2:=List.length_filter_le (B2 L) (List.range i);unfold rC;simp at h2 ⊢;omega
theorem Qle {n:Nat} {L:List Ed} (hn:1≤n):Jd n L≠[]:=by
 unfold Jd;intro h;obtain⟨h1,h2⟩:=List.append_eq_nil_iff.1 h;cases L with
 |nil =>
  have:0∈(List.range n).filter (B2 []):=by simp[B2];omega
  rw[List.map_eq_nil_iff.1 h2]at this;cases this
 |cons e L =>
  have:=((Ks (Hk n (e::L)) (e::L) [] (by simp)).2 (Hk n (e::L) e)).2 (.inr (by simp));rw[h1]at this;cases this
theorem Qea (n:Int) (es:List RE) (hb:LbE es) (h8:Ds n es=true→n≤8):Ai Tryz.prog 22 [.int .i64 n,A8 es] Ac.emp fun v m=>v=.tup [.sl 1 (Gk (Td n es)),Cg n es]∧m=Ac.emp:=by
 have hc:=Pp n es hb;refine Ad Tryz.func22 rfl rfl 83 rfl (Nat.le_of_ble_eq_true rfl) ?_;unfold A8 at hc ⊢;(repeat refine AW.seq_k fun K hK=>?_);refine AW.rg ?_;simp[Al];try (refine hK _ rfl ?_;clear hK K)
 (repeat refine AW.seq_k fun K hK=>?_);refine AW.rg ?_;simp;try (refine hK _ rfl ?_;clear hK K)
 refine Aa.val hc ?_;by_cases hk:Ds n es=true;rotate_left
 ·have e1:Cg n es=.int .i64 1:=by unfold Cg;rw[if_neg hk]
  have e2:Td n es=[]:=by unfold Td;rw[if_neg hk]
  simp[e1];try (refine hK _ rfl ?_;clear hK K)
  (repeat refine AW.seq_k fun K hK=>?_);refine AW.rg ?_;simp;try (refine hK _ rfl ?_;clear hK K)
  refine AW.yes ?_ rfl;(repeat refine AW.seq_k fun K hK=>?_);refine AW.rg ?_;simp;try (refine hK _ rfl ?_;clear hK K)
  exact AW.ret (Ae [.sl 1 (Gk []),.int .i64 1] rfl ⟨.nilsl 1,.same _,trivial⟩ ⟨by rw[e2,e1];rfl,rfl⟩)
 have e1:Cg n es=.int .i64 0:=by unfold Cg;rw[if_pos hk]
 have h8':=h8 hk;have eA:Ho n es=B6 n.toNat (Ah es) [] (List.range es.length):=by unfold Ho;rw[if_pos hk]
 have e2:Td n es=Qs n.toNat ((Ho n es).map (Ah es)):=by unfold Td;rw[if_pos hk]
 obtain⟨⟨h1,h2,h3⟩,_⟩:=El hk;have hok:=Sd hk;have hle:=Xn hk;have hlt:=fun k=>Qe0 (n:=n) (es:=es) (k:=k);obtain⟨N,rfl⟩:=Int.eq_ofNat_of_zero_le (show 0≤n by omega);simp only[Int.toNat_natCast]at hok eA e2;have hsp:Bf N ((Ho (N:Nat) es).map (Ah es)):=by rw[eA];exact G2 (by simp) (hok.at fun k hk=>by simpa using hk) (Bf.nil N)
 have hall:=Ww es h3;have hpl:=P6 N es (by omega) hok (List.range es.length) (by simp) (by simp;omega);rw[←eA]at hpl;clear eA;generalize Ho (N:Nat) es=A at *;have hL:∀e∈A.map (Ah es),Dz N e:=fun e he=>by
  obtain⟨k,hk,rfl⟩:=List.mem_map.1 he;exact(hok k (hlt k hk)).2.2
 unfold A8 at hall hpl;simp[e1];try (refine hK _ rfl ?_;clear hK K)
 (repeat refine AW.seq_k fun K hK=>?_);refine AW.rg ?_;simp;try (refine hK _ rfl ?_;clear hK K)
 refine AW.no ?_ rfl;refine AW.skip ?_;try simp
 try (refine hK _ rfl ?_;clear hK K)
 (repeat refine AW.seq_k fun K hK=>?_);refine AW.rg ?_;simp;try (refine hK _ rfl ?_;clear hK K)
 refine Aa.val hall ?_;simp;refine Aa.news hpl ?_;rintro _ g ⟨bg,bf,bc,fl,bs,cl,rfl,hG⟩ _;have hg:Ac.back Ac.emp [] g=g:=by funext k;simp only[Ac.back,Aw];cases g k<;>simp
 rw[hg];simp;try (refine hK _ rfl ?_;clear hK K)
 (repeat refine AW.seq_k fun K hK=>?_);refine AW.rg ?_;simp;try (refine hK _ rfl ?_;clear hK K)
 (repeat refine AW.seq_k fun K hK=>?_);refine AW.rg ?_;simp;try (refine hK _ rfl ?_;clear hK K)
 refine Af.intro fun b0 hb0=>?_;refine hK _ rfl ?_;clear hK K;have X1:Ii N bg bf bc es A (Rw b0 (Iy 0) none []) ⟨g.set b0 ⟨72,12,[.agg (bools (Iy 0))]⟩,fl,bs,cl⟩:=(Ii.of hG).set _ (.inr hb0);refine AW.seq_ex (ι:=Ac) (fun M=>[(0,.int .i64 (N:Nat)),(1,.sl 6 (Ff es)),(7,.ptr bg 3 0 0),(8,.sl 1 (Ax A)),(10,.ptr b0 12 0 0),(9,.nil)]) (fun M=>M) (fun M=>Ii N bg bf bc es A (Rw b0 (Dp N []) none []) ⟨M,fl,bs,cl⟩) ?_ ?_
 ·(repeat refine AW.seq_k fun K hK=>?_);refine AW.rg ?_;simp;try (refine hK _ rfl ?_;clear hK K)
  refine AW.block (AW.loopS (ι:=Ac × Nat) (fun z=>[(0,.int .i64 (N:Nat)),(1,.sl 6 (Ff es)),(7,.ptr bg 3 0 0),(8,.sl 1 (Ax A)),(10,.ptr b0 12 0 0),(9,.nil),(30,.int .i64 (N:Nat)),(31,.int .i64 (z.2:Nat))]) (fun z=>z.1)
   (fun z=>z.2≤N∧Ii N bg bf bc es A (Rw b0 (Iy z.2) none []) ⟨z.1,fl,bs,cl⟩) (fun z=>N-z.2) (_,0) ⟨by simp,X1⟩ rfl (by simp) ?_)
  rintro⟨M,i⟩ ⟨g1,g2⟩;simp only at g1 g2;have p0:M b0=some ⟨72,12,[.agg (bools (Iy i))]⟩:=g2.ext b0 _ (by simp[Rw]);have hi12:i<8→i<12:=fun h=>by omega
  (repeat refine AW.seq_k fun K hK=>?_);refine AW.rg ?_;simp;try (refine hK _ rfl ?_;clear hK K)
  (repeat refine AW.seq ?_);refine AW.cs (fun hi=>?_) (fun hi=>?_) rfl<;>(try simp at hi)
  ·refine AW.skip ?_;try simp
   try (refine hK _ rfl ?_;clear hK K)
   have w1:=Au (i+1) (by omega);have hi12:i<12:=by omega
   (repeat refine AW.seq ?_);refine AW.block ?_;(repeat refine AW.seq_k fun K hK=>?_);refine AW.rg ?_;simp;try (refine hK _ rfl ?_;clear hK K)
   have hi11:i≤11:=by omega
   have hi12':(i:Int)<12:=by omega
   (repeat refine AW.seq_k fun K hK=>?_);refine AW.rg ?_;simp[p0,hi12,hi11,hi12'];try (refine hK _ rfl ?_;clear hK K)
   rw[Ie _ hi12 (by simp),Qgh hi12];(repeat refine AW.seq_k fun K hK=>?_);refine AW.rg ?_;simp[-Int.natCast_add,w1];try (refine hK _ rfl ?_;clear hK K)
   have g3:=g2.set (b:=b0) ⟨72,12,[.agg (bools (Iy (i+1)))]⟩ (.inl (by simp[Rw]));rw[Qek (by simp)]at g3;exact⟨_,i+1,⟨by omega,g3⟩,by omega,rfl,rfl⟩
  ·refine AW.exit ?_;try simp
   have:i=N:=by omega
   subst this;rw[Qf7]at g2;exact g2
 rintro M hM;have hcl:∀(M:Ac) (fl:List Nat) (bs:List (Option Nat)) (cl:List (List Nat)) (e:Nat),I8 N bg bf bc es A M fl bs cl→e∈A→_:=fun M fl bs cl e h1 h2=>Xp N bg bf bc es A (by omega) hok hlt hsp M fl bs cl e h1 h2;refine AW.seq_ex (ι:=GSt × Option Nat) (fun z=>[(0,.int .i64 (N:Nat)),(1,.sl 6 (Ff es)),(7,.ptr bg 3 0 0),(8,.sl 1 (Ax A)),(10,.ptr b0 12 0 0),(9,llR z.2 (fC N (A.map (Ah es)) A.length))]) (fun z=>z.1.M)
  (fun z=>Ii N bg bf bc es A (Rw b0 (Dp N (A.map (Ah es))) z.2 (fC N (A.map (Ah es)) A.length)) z.1∧(∀b,z.2=some b→b≠b0)∧(z.2=none→fC N (A.map (Ah es)) A.length=[])) ?_ ?_
 ·(repeat refine AW.seq_k fun K hK=>?_);refine AW.rg ?_;simp;try (refine hK _ rfl ?_;clear hK K)
  refine AW.block (AW.loopS (ι:=GSt × Option Nat × Nat) (fun z=>[(0,.int .i64 (N:Nat)),(1,.sl 6 (Ff es)),(7,.ptr bg 3 0 0),(8,.sl 1 (Ax A)),(10,.ptr b0 12 0 0),(9,llR z.2.1 (fC N (A.map (Ah es)) z.2.2)),(37,.sl 1 (Ax A)),(38,.int .i64 (A.length:Nat)),(39,.int .i64 (z.2.2:Nat))]) (fun z=>z.1.M)
   (fun z=>z.2.2≤A.length∧Ii N bg bf bc es A (Rw b0 (Dp N ((A.map (Ah es)).take z.2.2)) z.2.1 (fC N (A.map (Ah es)) z.2.2)) z.1∧(∀b,z.2.1=some b→b≠b0)∧(z.2.1=none→fC N (A.map (Ah es)) z.2.2=[]))
   (fun z=>A.length-z.2.2) (⟨M,fl,bs,cl⟩,none,0) ⟨by simp,hM,by simp,by simp[fC]⟩ rfl (by simp[llR]) ?_)
  clear hM X1 hG hb0;rintro⟨⟨M,fl,bs,cl⟩,o,i⟩ ⟨g1,g2,g3,g4⟩;simp only at g1 g2 g3 g4;(repeat refine AW.seq_k fun K hK=>?_);refine AW.rg ?_;simp;try (refine hK _ rfl ?_;clear hK K)
  (repeat refine AW.seq ?_);refine AW.cs (fun hi=>?_) (fun hi=>?_) rfl<;>(try simp at hi)
  ·refine AW.skip ?_;try simp
   try (refine hK _ rfl ?_;clear hK K)
   have w1:=Au (i+1) (by omega);obtain⟨e,he⟩:∃e,A[i]=e:=⟨_,rfl⟩;have heA:e∈A:=he ▸ List.getElem_mem hi;have hel:e<es.length:=hlt e heA;obtain⟨q1,q2,q3⟩:=hok e hel;have htk:(A.map (Ah es)).take (i+1)=(A.map (Ah es)).take i++[Ah es e]:=by
    rw[List.take_add_one,List.getElem?_map,List.getElem?_eq_getElem hi,he];rfl
   have hfo:fC N (A.map (Ah es)) (i+1)=Nr (fC N (A.map (Ah es)) i) (Hk N (A.map (Ah es)) (Ah es e)):=by unfold fC;rw[htk,List.foldl_append];rfl
   have hcle:=fun M fl bs cl h=>hcl M fl bs cl e h heA;have hcll:(Hk N (A.map (Ah es)) (Ah es e)).length≤8:=by
    have:=List.length_filter_le (Hj N (A.map (Ah es)) (Ah es e)) (List.range N);unfold Hk;simp at this;omega
   have hWm:=Qjd N (A.map (Ah es)) i;have hWl:=Qiw N (A.map (Ah es)) i;generalize hW:fC N (A.map (Ah es)) i=W at *;have halp:=Z2 N ((A.map (Ah es)).take i) (Ah es e).1 (Ah es e).2;rw[show((Ah es e).1,(Ah es e).2)=Ah es e from rfl,←htk]at halp;have p0:M b0=some ⟨72,12,[.agg (bools (Dp N ((A.map (Ah es)).take i)))]⟩:=g2.ext b0 _ (Qa3 g3);have hall:=Va N ((A.map (Ah es)).take i);generalize Dp N ((A.map (Ah es)).take i)=al at *;obtain⟨a,ha⟩:∃a,(Ah es e).1=a:=⟨_,rfl⟩;obtain⟨b,hb⟩:∃b,(Ah es e).2=b:=⟨_,rfl⟩
   rw[ha]at q1 halp;rw[hb]at q2 halp;have ha8:a<12:=by have:=q3.1;omega
   have hb8:b<12:=by have:=q3.2.1;omega
   have ha8':(a:Int)<12:=by omega
   have hb8':(b:Int)<12:=by omega
   have ha8'':a≤11:=by omega
   have hb8'':b≤11:=by omega
   (repeat refine AW.seq ?_);refine AW.block ?_;(repeat refine AW.seq_k fun K hK=>?_);refine AW.rg ?_;simp[hi,he];try (refine hK _ rfl ?_;clear hK K)
   refine AW.seq_ex (ι:=Unit) (fun _=>[(0,.int .i64 (N:Nat)),(1,.sl 6 (Ff es)),(7,.ptr bg 3 0 0),(8,.sl 1 (Ax A)),(10,.ptr b0 12 0 0),(9,llR o W),(37,.sl 1 (Ax A)),(38,.int .i64 (A.length:Nat)),(39,.int .i64 (i:Nat)),(13,.int .i64 (e:Nat))]) (fun _=>M.set b0 ⟨72,12,[.agg (bools (Dp N ((A.map (Ah es)).take (i+1))))]⟩) (fun _=>True) ?_ ?_
   ·refine AW.rd2 9 11 [0,1,2,3,4,5,6,7,8,9,10,11,12,13] [0,1,2,3,4,5,6,7,8,10,11,9,12,13] C6 ?_ ?_
    ·simp[hel,C1,q1,q2,p0,ha8,hb8,ha8',hb8',ha8'',hb8''];rw[Ie _ ha8 hall,Ie _ hb8 (by simp[hall]),halp]
    ·simp[hel,C1,q1,q2,p0,ha8,hb8,ha8',hb8',ha8'',hb8''];rw[Ie _ ha8 hall,Ie _ hb8 (by simp[hall]),halp]
   rintro _ _;have g5:=g2.set (b:=b0) ⟨72,12,[.agg (bools (Dp N ((A.map (Ah es)).take (i+1))))]⟩ (.inl (by rw[Qa3 g3];simp));rw[Qek g3]at g5;generalize hal2:Dp N ((A.map (Ah es)).take (i+1))=al2 at *;generalize M.set b0 ⟨72,12,[.agg (bools al2)]⟩=M2 at g5 ⊢;(repeat refine AW.seq_k fun K hK=>?_);refine AW.rg ?_;simp;try (refine hK _ rfl ?_;clear hK K)
   refine Aa.hand (Bc bg bf bc bs) (fun _ _ h=>h) (hcle _ fl bs cl g5.gam) ?_;rintro _ g' ⟨rfl,fl',bs',cl',hG'⟩ hnew;have g6:=g5.back hG' (fun b h=>(hnew b h).imp id (·.1));generalize M2.back (Bc bg bf bc bs) g'=M3 at g6 ⊢;generalize Hk N (A.map (Ah es)) (Ah es e)=c at *;simp;refine Af.intro fun b4 hb4=>?_;refine hK _ rfl ?_;clear hK K;refine AW.turn [(0,.int .i64 (N:Nat)),(1,.sl 6 (Ff es)),(7,.ptr bg 3 0 0),(8,.sl 1 (Ax A)),(10,.ptr b0 12 0 0),(9,llR o W),(37,.sl 1 (Ax A)),(38,.int .i64 (A.length:Nat)),(39,.int .i64 (i:Nat)),(14,.rptr [.sl 1 (Ax c)])] M3 (Ba.drop hb4 (g6.ones Qj8))
    (by simp;exact .ptr b4 1 0 0 ⟨25,1,[.sl 1 (Ax c)]⟩ (.sl 1 (Ax c)) (Ac.set_same _ _ _) hb4 rfl rfl) ?_
   (repeat refine AW.seq_k fun K hK=>?_);refine AW.rg ?_;simp;try (refine hK _ rfl ?_;clear hK K)
   refine Aa.look [.sl 1 (Gk W),.fn 55 [.rptr [.sl 1 (Ax c)]]] ⟨Z6 g4 fun b hb=>⟨g6.ext b _ (by rw[hb];exact J1),rfl⟩,.same _,trivial⟩ (Rr W c (by omega) (fun x hx=>by have:=hWm x hx;omega) (by omega)) rfl ?_;simp;try (refine hK _ rfl ?_;clear hK K)
   unfold Nr at hfo;by_cases hcW:c∈W
   ·rw[if_pos hcW]at hfo;refine AW.no ?_ (by simp[hcW]);refine AW.skip ?_;try simp
    try (refine hK _ rfl ?_;clear hK K)
    (repeat refine AW.seq_k fun K hK=>?_);refine AW.rg ?_;simp[-Int.natCast_add,w1];try (refine hK _ rfl ?_;clear hK K)
    exact⟨⟨M3,fl',bs',cl'⟩,o,i+1,⟨by omega,by rw[hfo,hal2];exact g6,g3,by rw[hfo];exact g4⟩,by omega,rfl,by rw[hfo];exact⟨rfl,rfl⟩⟩
   ·rw[if_neg hcW]at hfo;refine AW.yes ?_ (by simp[hcW]);cases o with
    |none =>
     have hW0:=g4 rfl;subst hW0;simp only[llR];(repeat refine AW.seq_k fun K hK=>?_);refine AW.rgR [64] ?_;simp;try (refine hK _ rfl ?_;clear hK K)
     refine⟨by unfold maxLen;omega,Af.intro fun b6 h6=>?_⟩;have hb60:b6≠b0:=fun e=>by
      have:=g6.ext b0 _ (Qa3 g3);rw[←e]at this;simp only at this;rw[h6]at this;cases this
     have g7:=g6.set (b:=b6) ⟨25,1,Gk [c]⟩ (.inr h6);rw[Vv]at g7;(repeat refine AW.seq_k fun K hK=>?_);refine AW.rg ?_;simp[-Int.natCast_add,w1];try (refine hK _ rfl ?_;clear hK K)
     exact⟨⟨_,fl',bs',cl'⟩,some b6,i+1,⟨by omega,by rw[hfo,hal2];exact g7,fun b hb=>by cases hb;exact hb60,by simp⟩,by omega,rfl,by rw[hfo];exact⟨rfl,rfl⟩⟩
    |some b1 =>
     have hb1:=g3 b1 rfl;have p1:M3 b1=some ⟨25,1,Gk W⟩:=g6.ext b1 _ J1;simp only[llR];(repeat refine AW.seq_k fun K hK=>?_);refine AW.rgR [64] ?_;simp[p1];try (refine hK _ rfl ?_;clear hK K)
     refine⟨by omega,by unfold maxLen;omega,Af.intro fun b6 h6=>?_⟩;have hb60:b6≠b0:=fun e=>by
      have:=g6.ext b0 _ (Qa3 g3);rw[←e]at this;simp only at this;rw[Ac.del_other _ (by rw[e];exact Ne.symm hb1),this]at h6;cases h6
     have g7:=(g6.del (b:=b1) (by rw[J1];simp)).set (b:=b6) ⟨25,1,Gk (W++[c])⟩ (.inr h6);rw[W7 hb1]at g7;rw[Zy];(repeat refine AW.seq_k fun K hK=>?_);refine AW.rg ?_;simp[-Int.natCast_add,w1];try (refine hK _ rfl ?_;clear hK K)
     exact⟨⟨_,fl',bs',cl'⟩,some b6,i+1,⟨by omega,by rw[hfo,hal2];exact g7,fun b hb=>by cases hb;exact hb60,by simp⟩,by omega,rfl,by rw[hfo];exact⟨by simp[llR],rfl⟩⟩
  ·refine AW.exit ?_;try simp
   have:i=A.length:=by omega
   subst this;rw[List.take_of_length_le (by simp)]at g2;exact⟨_,o,⟨g2,g3,g4⟩,rfl,rfl⟩
 clear hM X1 hG hb0;rintro⟨⟨M,fl,bs,cl⟩,o⟩ ⟨g2,g3,g4⟩;simp only at g2 g3 g4 ⊢;have hr0:rC N (A.map (Ah es)) A.length 0=fC N (A.map (Ah es)) A.length:=by simp[rC]
 have hrN:rC N (A.map (Ah es)) A.length N=Jd N (A.map (Ah es)):=by unfold rC fC Jd;rw[List.take_of_length_le (by simp)]
 rw[←hr0]at g2 g4 ⊢;refine AW.seq_ex (ι:=Ac × Option Nat) (fun z=>[(9,llR z.2 (Jd N (A.map (Ah es))))]) (fun z=>z.1)
  (fun z=>Ii N bg bf bc es A (Rw b0 (Dp N (A.map (Ah es))) z.2 (Jd N (A.map (Ah es)))) ⟨z.1,fl,bs,cl⟩∧(z.2=none→Jd N (A.map (Ah es))=[])) ?_ ?_
 ·(repeat refine AW.seq_k fun K hK=>?_);refine AW.rg ?_;simp;try (refine hK _ rfl ?_;clear hK K)
  refine AW.block (AW.loopS (ι:=Ac × Option Nat × Nat) (fun z=>[(0,.int .i64 (N:Nat)),(1,.sl 6 (Ff es)),(7,.ptr bg 3 0 0),(8,.sl 1 (Ax A)),(10,.ptr b0 12 0 0),(9,llR z.2.1 (rC N (A.map (Ah es)) A.length z.2.2)),(67,.int .i64 (N:Nat)),(68,.int .i64 (z.2.2:Nat))]) (fun z=>z.1)
   (fun z=>z.2.2≤N∧Ii N bg bf bc es A (Rw b0 (Dp N (A.map (Ah es))) z.2.1 (rC N (A.map (Ah es)) A.length z.2.2)) ⟨z.1,fl,bs,cl⟩∧(∀b,z.2.1=some b→b≠b0)∧(z.2.1=none→rC N (A.map (Ah es)) A.length z.2.2=[]))
   (fun z=>N-z.2.2) (M,o,0) ⟨by simp,g2,g3,g4⟩ rfl (by simp) ?_)
  clear g2 g3 g4;rintro⟨M,o,i⟩ ⟨g1,g2,g3,g4⟩;simp only at g1 g2 g3 g4;(repeat refine AW.seq_k fun K hK=>?_);refine AW.rg ?_;simp;try (refine hK _ rfl ?_;clear hK K)
  (repeat refine AW.seq ?_);refine AW.cs (fun hi=>?_) (fun hi=>?_) rfl<;>(try simp at hi)
  ·refine AW.skip ?_;try simp
   try (refine hK _ rfl ?_;clear hK K)
   have w1:=Au (i+1) (by omega);have hfo:=Qld N (A.map (Ah es)) A.length i;have hWl:=Qqz N (A.map (Ah es)) A.length i;generalize rC N (A.map (Ah es)) A.length i=W at *;have p0:M b0=some ⟨72,12,[.agg (bools (Dp N (A.map (Ah es))))]⟩:=g2.ext b0 _ (Qa3 g3);have hi12:i<12:=by omega
   have hi11:i≤11:=by omega
   have hi12':(i:Int)<12:=by omega
   have hal:∀h:i<(Dp N (A.map (Ah es))).length,(Dp N (A.map (Ah es)))[i]=B2 (A.map (Ah es)) i:=fun h=>by rw[Nt];simp[hi]
   (repeat refine AW.seq ?_);refine AW.block ?_;(repeat refine AW.seq_k fun K hK=>?_);refine AW.rg ?_;simp;try (refine hK _ rfl ?_;clear hK K)
   (repeat refine AW.seq_k fun K hK=>?_);refine AW.rg ?_;simp[p0,hi12,hi11,hi12',hal];try (refine hK _ rfl ?_;clear hK K)
   cases hab:B2 (A.map (Ah es)) i with
   |false =>
    rw[hab]at hfo;simp at hfo;refine AW.no ?_ rfl;refine AW.skip ?_;try simp
    try (refine hK _ rfl ?_;clear hK K)
    (repeat refine AW.seq_k fun K hK=>?_);refine AW.rg ?_;simp[-Int.natCast_add,w1];try (refine hK _ rfl ?_;clear hK K)
    exact⟨M,o,i+1,⟨by omega,by rw[hfo];exact g2,g3,by rw[hfo];exact g4⟩,by omega,rfl,by rw[hfo];exact⟨rfl,rfl⟩⟩
   |true =>
    rw[hab]at hfo;simp at hfo;refine AW.yes ?_ rfl;have e77:[AV.sl 1 [AV.int .i64 (i:Nat)]]=Gk [[i]]:=rfl;cases o with
    |none =>
     have hW0:=g4 rfl;subst hW0;simp only[llR];(repeat refine AW.seq_k fun K hK=>?_);refine AW.rgR [76,77] ?_;simp;refine⟨by unfold maxLen;omega,Af.intro fun b6 h6=>?_⟩;have hb60:b6≠b0:=fun e=>by rw[e,p0]at h6;cases h6
     have g7:=g2.set (b:=b6) ⟨25,1,Gk [[i]]⟩ (.inr h6);rw[Vv]at g7;(repeat refine AW.seq_k fun K hK=>?_);refine AW.rg ?_;simp[-Int.natCast_add,w1];try (refine hK _ rfl ?_;clear hK K)
     exact⟨_,some b6,i+1,⟨by omega,by rw[hfo];exact g7,fun b hb=>by cases hb;exact hb60,by simp⟩,by omega,rfl,by rw[hfo];exact⟨rfl,rfl⟩⟩
    |some b1 =>
     have hb1:=g3 b1 rfl;have p1:M b1=some ⟨25,1,Gk W⟩:=g2.ext b1 _ J1;simp only[llR];(repeat refine AW.seq_k fun K hK=>?_);refine AW.rgR [76,77] ?_;simp[p1];refine⟨by omega,by unfold maxLen;omega,Af.intro fun b6 h6=>?_⟩;have hb60:b6≠b0:=fun e=>by rw[e,Ac.del_other _ (Ne.symm hb1),p0]at h6;cases h6
     have g7:=(g2.del (b:=b1) (by rw[J1];simp)).set (b:=b6) ⟨25,1,Gk (W++[[i]])⟩ (.inr h6);rw[W7 hb1]at g7;rw[show AV.sl 1 [AV.int .i64 (i:Nat)]=.sl 1 (Ax [i]) from rfl,Zy];(repeat refine AW.seq_k fun K hK=>?_);refine AW.rg ?_;simp[-Int.natCast_add,w1];try (refine hK _ rfl ?_;clear hK K)
     exact⟨_,some b6,i+1,⟨by omega,by rw[hfo];exact g7,fun b hb=>by cases hb;exact hb60,by simp⟩,by omega,rfl,by rw[hfo];exact⟨by simp[llR],rfl⟩⟩
  ·refine AW.exit ?_;try simp
   have:i=N:=by omega
   subst this;rw[hrN]at g2 g4 ⊢;exact⟨M,o,⟨g2,g4⟩,rfl,rfl⟩
 clear g2 g3 g4;rintro⟨M,o⟩ ⟨g2,g4⟩;simp only at g2 g4 ⊢;have hrc:=Qjl hL hsp (by omega);have hrl:∀x∈Jd N (A.map (Ah es)),x.length<2^40:=fun x hx=>by
  unfold Jd at hx;rcases List.mem_append.1 hx with hx | hx
  ·have:=Qjd N (A.map (Ah es)) (A.map (Ah es)).length x (by unfold fC;rw[List.take_length];exact hx);omega
  ·obtain⟨j,_,rfl⟩:=List.mem_map.1 hx;simp[Fc]
 have hfin:=fun W' h1 h2=>Zf (W:=W') hL hsp h1 h2;have hne:=Qle (n:=N) (L:=A.map (Ah es)) (by omega);cases o with
 |none=>exact absurd (g4 rfl) hne
 |some b =>
  have p1:M b=some ⟨25,1,Gk (Jd N (A.map (Ah es)))⟩:=g2.ext b _ J1;have hst:=Qfz b (Jd N (A.map (Ah es))) hrc hrl;simp only[llR];generalize Jd N (A.map (Ah es))=W at *;(repeat refine AW.seq_k fun K hK=>?_);refine AW.rg ?_;simp;try (refine hK _ rfl ?_;clear hK K)
  refine Aa.hand (R:=fun v m=>∃W',W'.Perm W∧Gd W'∧v=.tup []∧m=Ac.emp.set b ⟨25,1,Gk W'⟩) [b] (fun _ _ h=>h) (by rw[Un p1];exact hst) ?_;rintro _ g ⟨W',p1,p2,rfl,rfl⟩ _;rw[Y9];have hW':=hfin W' p1 p2;simp;try (refine hK _ rfl ?_;clear hK K)
  (repeat refine AW.seq_k fun K hK=>?_);refine AW.rg ?_;simp;try (refine hK _ rfl ?_;clear hK K)
  have hl2:W'.length=W.length:=p1.length_eq;have hv:Br (M.set b ⟨25,1,Gk W'⟩) Ac.emp (.osl b 1 0 W.length) (.sl 1 (Gk W')):=by
   rw[←hl2];exact Z6 (o:=some b) (W:=W') (by simp) (fun b' h=>by cases h;exact⟨Ac.set_same _ _ _,rfl⟩)
  exact AW.ret (Ae [.sl 1 (Gk W'),.int .i64 0] rfl ⟨hv,.same _,trivial⟩ ⟨by rw[e2,e1,←hW'];rfl,rfl⟩)
end Go.Av
end
section
namespace Go.Av
open Go.Proofs Go.Lam
theorem Zg (x:List Nat):∀W:List (List Nat),(Nm W x).length=W.length+1
 |[]=>rfl
 |y::W=>by
  unfold Nm;split
  ·simp
  ·simp[Zg x W]
def Few (W:List (List Nat)) (k:Nat):Prop:=W.length≤k∧∀x∈W,x.length≤12
theorem Few.ins {W:List (List Nat)} {k:Nat} (h:Few W k) {x:List Nat} (hx:x.length≤12):Few (Nm W x) (k+1):=⟨by rw[Zg];have:=h.1;omega,fun y hy=>by
 rcases Lw.1 hy with rfl|hy
 ·exact hx
 ·exact h.2 y hy⟩
end Go.Av
end
section
namespace Go.Av
open Go.Proofs
def G8 (by_:List Rat) (f:Rat) (j:Nat) (t:Nat):List Rat→Option (List Rat):=Gf (fun q k=>I0 q f (Cd by_ k)) (j+t)
end Go.Av
end
section
namespace Go.Av
open Go.Proofs
def Qg6 (e:Int) (r:RR) (Z:Option Rat):Prop :=
 match Z with
 |some q=>e=0∧r=Aq q∧Bu q
 |none=>e=2
theorem Qg6.step {e:Int} {a:RR} {Z:Option Rat} (h:Qg6 e a Z) {op:Rat→Option Rat} (hop:∀q z,op q=some z→Bu z):Qg6 (Dg e a (op a.q)).1 (Dg e a (op a.q)).2 (Z.bind op):=by
 cases Z with
 |none =>
  have:e=2:=h;rw[Mi (by omega)];exact h
 |some q =>
  obtain⟨h1,rfl,h3⟩:e=0∧a=Aq q∧Bu q:=h;rw[Hn];show Qg6 _ _ (op q)
  cases ho:op q with
  |none=>rw[P4 h1];rfl
  |some z=>rw[Ml h1];exact⟨rfl,rfl,hop q z ho⟩
theorem Qg6.ok {e:Int} {a:RR} {Z:Option Rat} (h:Qg6 e a Z) (he:e=0):a.ok=true:=by
 cases Z with
 |none=>have:e=2:=h;omega
 |some q=>obtain⟨_,rfl,h3⟩:e=0∧a=Aq q∧Bu q:=h;exact Dq h3
theorem Qrj {n c t b:Nat} {L:List (Nat × AV)} {m:Ac} {R:AV→Ac→Prop} {e:AV} (q:RR) (hc:look L c=.ptr b 4 0 0) (he:look L t=e) (hm:m b=some ⟨44,4,[q.av]⟩) (hn:(Nat.blt c n&&Nat.blt t n)=true) (hR:R (.tup [q.av,e]) Ac.emp):Ms Tryz.prog [.cell c 44,.tmp t] R .ret (S n L m) :=
 B3 (b:=b) (.bool q.n1) (Ao q.l1) (.bool q.n2) (Ao q.l2) hc he hm hn (by simp) hR
set_option maxHeartbeats 1000000
end Go.Av
end
section
namespace Go.Av
open Go.Proofs
theorem T6 (z:Int):Ai Tryz.prog 86 [Az z] Ac.emp fun v m=>v=.bool (decide (z=0))∧m=Ac.emp:=by
 have h:=Jx (decide (z<0)) (Ar z.natAbs);have e:decide ((Ar z.natAbs).length=0)=decide (z=0):=by
  have h1:Ar z.natAbs=[]↔z.natAbs=0:=Cj;have h2:(Ar z.natAbs).length=0↔z=0:=by rw[List.length_eq_zero_iff,h1];omega
  simp[h2]
 rw[e]at h;exact h
theorem Qgs {x y:Int}:Jc x y=0↔x=y:=by unfold Jc;split<;>(try split)<;>omega
theorem Qb7 (x y:Int):Jc x y=-1∨Jc x y=0∨Jc x y=1:=by unfold Jc;split<;>(try split)<;>simp
theorem Qp6 {x y u v:Int} (hy:0<y) (hv:0<v) (h:x.fdiv y≠u.fdiv v):x*v≠u*y:=by
 intro e;apply h;rw[Int.fdiv_eq_ediv_of_nonneg _ (by omega),Int.fdiv_eq_ediv_of_nonneg _ (by omega)];have h1:(x*v) / (y*v)=x / y:=Int.mul_ediv_mul_of_pos_left _ _ hv;have h2:(u*y) / (v*y)=u / v:=Int.mul_ediv_mul_of_pos_left _ _ hy;rw[←h1,←h2,e,Int.mul_comm v y]
theorem Qp8 {x y u v:Int} (h:x.fdiv y=u.fdiv v):x*v=u*y↔x.fmod y*v=u.fmod v*y:=by
 have h1:x=y*x.fdiv y+x.fmod y:=by rw[Int.mul_fdiv_add_fmod]
 have h2:u=v*u.fdiv v+u.fmod v:=by rw[Int.mul_fdiv_add_fmod]
 generalize x.fmod y=r1 at *;generalize u.fmod v=r2 at *;rw[←h]at h2;generalize x.fdiv y=q at *;subst h1 h2;rw[Int.add_mul,Int.add_mul,show v*q*y=y*q*v by rw[Int.mul_comm v q,Int.mul_assoc,Int.mul_comm v y,←Int.mul_assoc,Int.mul_comm q y]];omega
theorem T4 {x y:Int} (hy:0<y):0≤x.fmod y∧x.fmod y<y:=⟨Int.fmod_nonneg_of_pos _ hy,Int.fmod_lt_of_pos _ hy⟩
def Cp (z:Int):Ev:=⟨42,2,[.agg [.bool (decide (z<0)),Ao (Ar z.natAbs)]]⟩
structure Qm7 where
 x:Int
 y:Int
 u:Int
 v:Int
 s:Int
def Qwo (a b:Rat) (t:Qm7):Prop:=0<t.y∧0<t.v∧t.x.natAbs<Bk∧t.y.natAbs<Bk∧t.u.natAbs<Bk∧t.v.natAbs<Bk∧(a=b↔t.x*t.v=t.u*t.y)∧(t.s=1∨t.s=-1)
theorem Qgd (n:Nat):Cp (n:Nat)=⟨42,2,[.agg [.bool false,Ao (Ar n)]]⟩:=by
 unfold Cp;have:decide ((n:Int)<0)=false:=by simp
 rw[this];rfl
def Jv (b5 b6 b7 b8:Nat) (t:Qm7):Ac:=(((Ac.emp.set b5 (Cp t.x)).set b6 (Cp t.y)).set b7 (Cp t.u)).set b8 (Cp t.v)
theorem Qev {r:Int} (h:0≤r) (h0:r≠0):0<r:=by omega
theorem Qk9 {r y:Int} (h:0≤r) (h0:r<y):r.natAbs<y.natAbs:=by omega
theorem Qqp {s c:Int} (h:s=1∨s=-1) (hc:¬c=0):¬s*c=0:=by
 rcases h with h|h<;>subst h<;>omega
theorem Qhu {s c:Int} (h:s=1∨s=-1) (hc:c=-1∨c=0∨c=1):s*c=-1∨s*c=0∨s*c=1:=by
 rcases h with h|h<;>subst h<;>omega
theorem Qir {s c:Int} (h:s=1∨s=-1) (hc:c=-1∨c=0∨c=1):IntKind.i64.wrap (s*c)=s*c:=by
 rcases h with h|h<;>rcases hc with h'|h'|h'<;>subst h h'<;>rfl
theorem Qms {s:Int} (h:s=1∨s=-1):IntKind.i64.wrap (-s)=-s∧(-s=1∨-s=-1)∧¬-s=0∧¬s=0:=by
 rcases h with h|h<;>subst h<;>exact⟨rfl,by decide,by decide,by decide⟩
def Qrz (a b:Rat) (v:AV):Prop:=∃c:Int,v=.int .i64 c∧(c=0↔a=b)∧(c=-1∨c=0∨c=1)
set_option maxHeartbeats 1000000
theorem U3 (a b:Rat) (ha:Bu a) (hb:Bu b):Ai Tryz.prog 188 [Gl a,Gl b] Ac.emp fun v m=>Qrz a b v∧m=Ac.emp:=by
 have key:∀t:Qm7,Qwo a b t→∃q1 r1 q2 r2,q1=t.x.fdiv t.y∧r1=t.x.fmod t.y∧q2=t.u.fdiv t.v∧r2=t.u.fmod t.v:=fun t _=>⟨_,_,_,_,rfl,rfl,rfl,rfl⟩;have hab:a=b↔a.num*b.den=b.num*a.den:=Rat.eq_iff_mul_eq_mul;have d1:0<(a.den:Int):=by have:=a.den_pos;omega
 have d2:0<(b.den:Int):=by have:=b.den_pos;omega
 unfold Gl;refine Ad Tryz.func188 rfl rfl 73 rfl (Nat.le_of_ble_eq_true rfl) ?_;(repeat refine AW.seq_k fun K hK=>?_);refine AW.rgR [2,3] ?_;simp[Al];try (refine hK _ rfl ?_;clear hK K)
 (repeat refine AW.seq_k fun K hK=>?_);refine AW.rdT [] [2,3,18,20,22,24] [] [] [0,1,2,3,4,5,6,7,8,9,10,11,12,13,14,15] C6 (by simp) (by simp) (by simp) (by simp) (by simp) ?_;simp;try (refine hK _ rfl ?_;clear hK K)
 refine Af.intro fun b5 hb5=>?_;simp only[Am,Aw,and_true]at hb5;refine Af.intro fun b6 hb6=>?_;simp only[Am,Aw,and_true]at hb6;refine Af.intro fun b7 hb7=>?_;simp only[Am,Aw,and_true]at hb7;refine Af.intro fun b8 hb8=>?_;simp only[Am,Aw,and_true]at hb8;simp[hb5,hb6,hb7,hb8];refine hK _ rfl ?_;clear hK K;(repeat refine AW.seq_k fun K hK=>?_);refine AW.rg ?_;simp;try (refine hK _ rfl ?_;clear hK K)
 refine AW.block (AW.loopS (ι:=Qm7) (fun t=>[(5,.ptr b5 2 0 0),(6,.ptr b6 2 0 0),(7,.ptr b7 2 0 0),(8,.ptr b8 2 0 0),(9,.int .i64 t.s)]) (fun t=>Jv b5 b6 b7 b8 t) (fun t=>Qwo a b t) (fun t=>t.y.natAbs) ⟨a.num,(a.den:Nat),b.num,(b.den:Nat),1⟩ ⟨d1,d2,ha.1,Eo ha,hb.1,Eo hb,hab,.inl rfl⟩ ?_ (by simp) ?_)
 ·unfold Jv;simp only[Qgd];unfold Cp
  funext c
  simp only[A6,Aw]
  (repeat' split)<;>simp_all
 rintro⟨x,y,u,v,s⟩ ⟨i1,i2,i3,i4,i5,i6,i7,i8⟩;simp only at i1 i2 i3 i4 i5 i6 i7 i8;have c1:=Hr x y i3 i4 (by omega);have c2:=Hr u v i5 i6 (by omega);have e1:=R6 (y:=y) i3 (by omega);have e2:=R6 (y:=v) i5 (by omega);have e3:=Sa (x:=x) i4 (by omega);have e4:=Sa (x:=u) i6 (by omega);have c3:=Qfx (x.fdiv y) (u.fdiv v) e1 e2;have c4:=T6 (x.fmod y);have c5:=T6 (u.fmod v);have f1:=T4 (x:=x) i1;have f2:=T4 (x:=u) i2;have p1:=Qp6 (x:=x) (u:=u) i1 i2;have p2:=Qp8 (x:=x) (y:=y) (u:=u) (v:=v)
 generalize x.fdiv y=q1 at *;generalize u.fdiv v=q2 at *;generalize x.fmod y=r1 at *;generalize u.fmod v=r2 at *;unfold Jv Cp;unfold Az at *;simp only;(repeat refine AW.seq ?_);refine AW.block ?_;(repeat refine AW.seq_k fun K hK=>?_);refine AW.rg ?_;simp[hb5,hb6,hb7,hb8];try (refine hK _ rfl ?_;clear hK K)
 refine Aa.val c1 ?_;simp[hb5,hb6,hb7,hb8];refine Af.intro fun b10 hb10=>?_;simp only[Am,Aw,and_true]at hb10;refine Af.intro fun b11 hb11=>?_;simp only[Am,Aw,and_true]at hb11;simp[hb5,hb6,hb7,hb8,hb10,hb11,Sp hb11.1.2];refine hK _ rfl ?_;clear hK K;(repeat refine AW.seq_k fun K hK=>?_);refine AW.rg ?_;simp[hb5,hb6,hb7,hb8,hb10,hb11];try (refine hK _ rfl ?_;clear hK K)
 refine Aa.val c2 ?_;simp[hb5,hb6,hb7,hb8,hb10,hb11];refine Af.intro fun b13 hb13=>?_;simp only[Am,Aw,and_true]at hb13;refine Af.intro fun b14 hb14=>?_;simp only[Am,Aw,and_true]at hb14;simp[hb5,hb6,hb7,hb8,hb10,hb11,hb13,hb14,Sp hb14.1.2];refine hK _ rfl ?_;clear hK K;refine AW.seq_ex (ι:=Unit) (fun _=>[(5,.ptr b5 2 0 0),(6,.ptr b6 2 0 0),(7,.ptr b7 2 0 0),(8,.ptr b8 2 0 0),(9,.int .i64 s),(11,.ptr b11 2 0 0),(14,.ptr b14 2 0 0)]) (fun _=>((((Jv b5 b6 b7 b8 ⟨x,y,u,v,s⟩).set b10 (Cp q1)).set b11 (Cp r1)).set b13 (Cp q2)).set b14 (Cp r2)) (fun _=>q1=q2) ?_ ?_
 ·(repeat refine AW.seq_k fun K hK=>?_);refine AW.rg ?_;simp[hb5,hb6,hb7,hb8,hb10,hb11,hb13,hb14];try (refine hK _ rfl ?_;clear hK K)
  refine Aa.val c3 ?_;simp[hb5,hb6,hb7,hb8,hb10,hb11,hb13,hb14];refine hK _ rfl ?_;clear hK K;have hc1:Jc q1 q2=0↔q1=q2:=Qgs;have hc2:=Qb7 q1 q2;generalize Jc q1 q2=cc at *;(repeat refine AW.seq_k fun K hK=>?_);refine AW.rg ?_;simp;try (refine hK _ rfl ?_;clear hK K)
  (repeat refine AW.seq ?_);refine AW.cs (fun hc=>?_) (fun hc=>?_) rfl<;>(try simp at hc)
  ·(repeat refine AW.seq_k fun K hK=>?_);refine AW.rg ?_;simp;try (refine hK _ rfl ?_;clear hK K)
   have hw:IntKind.i64.wrap (s*cc)=s*cc:=Qir i8 hc2;refine AW.ret (Ae (vs:=[.int .i64 (s*cc)]) [.int .i64 (s*cc)] (by simp[hw]) (by simp) ⟨⟨s*cc,rfl,?_,?_⟩,rfl⟩)
   ·have:a≠b:=fun h=>(p1 (fun h2=>hc (hc1.2 h2))) (i7.1 h);exact⟨fun h0=>absurd h0 (Qqp i8 hc),fun h=>absurd h this⟩
   ·exact Qhu i8 hc2
  ·refine AW.skip ?_;try simp
   refine⟨hc1.1 hc,?_⟩;rfl
 rintro _ hq;subst hq;have p2:=p2 rfl;obtain⟨t1,ht1⟩:∃t,t=decide (r1=0):=⟨_,rfl⟩;obtain⟨t2,ht2⟩:∃t,t=decide (r2=0):=⟨_,rfl⟩;rw[←ht1]at c4;rw[←ht2]at c5;have hne:(t1=true∨t2=true)→(a=b↔t1=true∧t2=true):=by
  intro h;rw[i7,p2,ht1,ht2]at *;simp only[decide_eq_true_eq]at h ⊢;constructor
  ·intro e;rcases h with h | h
   ·rw[h,Int.zero_mul]at e;refine⟨h,?_⟩;rcases Int.mul_eq_zero.1 e.symm with h' | h'
    ·exact h'
    ·omega
   ·rw[h,Int.zero_mul]at e;refine⟨?_,h⟩;rcases Int.mul_eq_zero.1 e with h' | h'
    ·exact h'
    ·omega
  ·rintro⟨h1,h2⟩;rw[h1,h2];simp
 have hsn:=Qms i8;refine AW.seq_ex (ι:=Unit) (fun _=>[(5,.ptr b5 2 0 0),(6,.ptr b6 2 0 0),(7,.ptr b7 2 0 0),(8,.ptr b8 2 0 0),(9,.int .i64 s),(11,.ptr b11 2 0 0),(14,.ptr b14 2 0 0)]) (fun _=>((((Jv b5 b6 b7 b8 ⟨x,y,u,v,s⟩).set b10 (Cp q1)).set b11 (Cp r1)).set b13 (Cp q1)).set b14 (Cp r2)) (fun _=>t1=false∧t2=false) ?_ ?_
 ·(repeat refine AW.seq ?_);refine AW.block ?_;refine AW.seq_ex (ι:=Unit) (fun _=>[(5,.ptr b5 2 0 0),(6,.ptr b6 2 0 0),(7,.ptr b7 2 0 0),(8,.ptr b8 2 0 0),(9,.int .i64 s),(11,.ptr b11 2 0 0),(14,.ptr b14 2 0 0),(53,.bool (t1&&t2))]) (fun _=>((((Jv b5 b6 b7 b8 ⟨x,y,u,v,s⟩).set b10 (Cp q1)).set b11 (Cp r1)).set b13 (Cp q1)).set b14 (Cp r2)) (fun _=>True) ?_ ?_
  ·cases t1
   ·(repeat refine AW.seq_k fun K hK=>?_);refine AW.rg ?_;simp[Cp,Jv,hb5,hb6,hb7,hb8,hb10,hb11,hb13,hb14];try (refine hK _ rfl ?_;clear hK K)
    refine Aa.val c4 ?_;simp[hb5,hb6,hb7,hb8,hb10,hb11,hb13,hb14]
   ·(repeat refine AW.seq_k fun K hK=>?_);refine AW.rg ?_;simp[Cp,Jv,hb5,hb6,hb7,hb8,hb10,hb11,hb13,hb14];try (refine hK _ rfl ?_;clear hK K)
    refine Aa.val c4 ?_;simp[hb5,hb6,hb7,hb8,hb10,hb11,hb13,hb14];refine Aa.val c5 ?_;simp[hb5,hb6,hb7,hb8,hb10,hb11,hb13,hb14]
  rintro _ -;cases h12:(t1&&t2)
  ·refine AW.no ?_ rfl;refine AW.seq_ex (ι:=Unit) (fun _=>[(5,.ptr b5 2 0 0),(6,.ptr b6 2 0 0),(7,.ptr b7 2 0 0),(8,.ptr b8 2 0 0),(9,.int .i64 s),(11,.ptr b11 2 0 0),(14,.ptr b14 2 0 0),(60,.bool t1)]) (fun _=>((((Jv b5 b6 b7 b8 ⟨x,y,u,v,s⟩).set b10 (Cp q1)).set b11 (Cp r1)).set b13 (Cp q1)).set b14 (Cp r2)) (fun _=>True) ?_ ?_
   ·(repeat refine AW.seq_k fun K hK=>?_);refine AW.rg ?_;simp[Cp,Jv,hb5,hb6,hb7,hb8,hb10,hb11,hb13,hb14];try (refine hK _ rfl ?_;clear hK K)
    refine Aa.val c4 ?_;simp[hb5,hb6,hb7,hb8,hb10,hb11,hb13,hb14]
   rintro _ -;cases t1
   ·refine AW.no ?_ rfl;refine AW.seq_ex (ι:=Unit) (fun _=>[(5,.ptr b5 2 0 0),(6,.ptr b6 2 0 0),(7,.ptr b7 2 0 0),(8,.ptr b8 2 0 0),(9,.int .i64 s),(11,.ptr b11 2 0 0),(14,.ptr b14 2 0 0),(65,.bool t2)]) (fun _=>((((Jv b5 b6 b7 b8 ⟨x,y,u,v,s⟩).set b10 (Cp q1)).set b11 (Cp r1)).set b13 (Cp q1)).set b14 (Cp r2)) (fun _=>True) ?_ ?_
    ·(repeat refine AW.seq_k fun K hK=>?_);refine AW.rg ?_;simp[Cp,Jv,hb5,hb6,hb7,hb8,hb10,hb11,hb13,hb14];try (refine hK _ rfl ?_;clear hK K)
     refine Aa.val c5 ?_;simp[hb5,hb6,hb7,hb8,hb10,hb11,hb13,hb14]
    rintro _ -;cases t2
    ·refine AW.no ?_ rfl;refine AW.skip ?_;try simp
    ·refine AW.yes ?_ rfl;(repeat refine AW.seq_k fun K hK=>?_);refine AW.rg ?_;simp;try (refine hK _ rfl ?_;clear hK K)
     refine AW.ret (Ae (vs:=[.int .i64 s]) [.int .i64 s] (by simp) (by simp) ⟨⟨s,rfl,⟨fun h=>absurd h hsn.2.2.2,fun h=>?_⟩,?_⟩,rfl⟩)
     ·have:=(hne (.inr rfl)).1 h;simp at this
     ·rcases i8 with h|h<;>simp[h]
   ·refine AW.yes ?_ rfl;(repeat refine AW.seq_k fun K hK=>?_);refine AW.rg ?_;simp[hsn.1];try (refine hK _ rfl ?_;clear hK K)
    refine AW.ret (Ae (vs:=[.int .i64 (-s)]) [.int .i64 (-s)] (by simp) (by simp) ⟨⟨-s,rfl,⟨fun h=>absurd h hsn.2.2.1,fun h=>?_⟩,?_⟩,rfl⟩)
    ·have:=(hne (.inl rfl)).1 h;rw[this.2]at h12;simp at h12
    ·rcases hsn.2.1 with h|h<;>simp[h]
  ·refine AW.yes ?_ rfl;(repeat refine AW.seq_k fun K hK=>?_);refine AW.rg ?_;simp;try (refine hK _ rfl ?_;clear hK K)
   have hb:t1=true∧t2=true:=by simpa using h12
   refine AW.ret (Ae (vs:=[.int .i64 0]) [.int .i64 0] (by simp) (by simp) ⟨⟨0,rfl,⟨fun _=>(hne (.inl hb.1)).2 hb,fun _=>rfl⟩,.inr (.inl rfl)⟩,rfl⟩)
 rintro _ ⟨z1,z2⟩;rw[ht1]at z1;rw[ht2]at z2;have z1:r1≠0:=by simpa using z1
 have z2:r2≠0:=by simpa using z2
 clear ht1 ht2 hne c1 c2 c3 c4 c5;(repeat refine AW.seq_k fun K hK=>?_);refine AW.rdT [(6,b6),(11,b11),(8,b8),(14,b14),(5,b5),(7,b7)] [] [] [b6,b11,b8,b14] [0,1,2,3,4,5,6,7] C6 (by simp[Cp,Jv,hb5,hb6,hb7,hb8,hb10,hb11,hb13,hb14]) (by simp[Cp,Jv,hb5,hb6,hb7,hb8,hb10,hb11,hb13,hb14]) (by simp[Cp,Jv,hb5,hb6,hb7,hb8,hb10,hb11,hb13,hb14]) (by simp[Cp,Jv,hb5,hb6,hb7,hb8,hb10,hb11,hb13,hb14]) (by simp[Cp,Jv,hb5,hb6,hb7,hb8,hb10,hb11,hb13,hb14]) ?_;simp[Cp,Jv,hb5,hb6,hb7,hb8,hb10,hb11,hb13,hb14]
 try (refine hK _ rfl ?_;clear hK K)
 refine AW.turn [(5,.ptr b5 2 0 0),(6,.ptr b6 2 0 0),(7,.ptr b7 2 0 0),(8,.ptr b8 2 0 0),(9,.int .i64 s)] (Jv b5 b6 b7 b8 ⟨y,r1,v,r2,s⟩) (Ba.sub fun k z hz=>?_) (by simp) ?_
 ·unfold Jv Cp at hz;simp only[A6,Aw]at hz;by_cases k8:k=b8
  ·subst k8;rw[if_pos rfl]at hz;cases hz;exact⟨by simp[hb5,hb6,hb7,hb8,hb10,hb11,hb13,hb14],by simp⟩
  rw[if_neg k8]at hz;by_cases k7:k=b7
  ·subst k7;rw[if_pos rfl]at hz;cases hz;exact⟨by simp[hb5,hb6,hb7,hb8,hb10,hb11,hb13,hb14],by simp⟩
  rw[if_neg k7]at hz;by_cases k6:k=b6
  ·subst k6;rw[if_pos rfl]at hz;cases hz;exact⟨by simp[hb5,hb6,hb7,hb8,hb10,hb11,hb13,hb14],by simp⟩
  rw[if_neg k6]at hz;by_cases k5:k=b5
  ·subst k5;rw[if_pos rfl]at hz;cases hz;exact⟨by simp[hb5,hb6,hb7,hb8,hb10,hb11,hb13,hb14],by simp⟩
  rw[if_neg k5]at hz;cases hz
 (repeat refine AW.seq_k fun K hK=>?_);refine AW.rg ?_;simp[hsn.1];try (refine hK _ rfl ?_;clear hK K)
 refine⟨⟨y,r1,v,r2,-s⟩,⟨Qev f1.1 z1,Qev f2.1 z2,i4,e3,i6,e4,?_,hsn.2.1⟩,Qk9 f1.1 f1.2,rfl,rfl⟩;rw[i7,p2];simp only;rw[Int.mul_comm y r2,Int.mul_comm v r1];exact eq_comm
theorem Qge (a b:RR) (ha:a.Lb) (hb:b.Lb) (oa:a.ok=true) (ob:b.ok=true):Ai Tryz.prog 151 [a.av,b.av] Ac.emp fun v m=>(∃c:Int,v=.tup [.int .i64 c,.int .i64 0]∧(c=0↔a.q=b.q))∧m=Ac.emp:=by
 have hal:=Tp a b ha hb;rw[oa,ob]at hal;have hc:=U3 a.q b.q (Ez ha oa).1 (Ez hb ob).1;rw[←Rh ha oa,←Rh hb ob]at hc;unfold RR.av at *;refine Ad Tryz.func151 rfl rfl 14 rfl (Nat.le_of_ble_eq_true rfl) ?_;(repeat refine AW.seq_k fun K hK=>?_);refine AW.rgR [2,3] ?_;simp[Al];try (refine hK _ rfl ?_;clear hK K)
 (repeat refine AW.seq_k fun K hK=>?_);refine AW.rgR [8] ?_;simp;try (refine hK _ rfl ?_;clear hK K)
 refine Aa.val hal ?_;simp;refine hK _ rfl ?_;clear hK K;refine AW.no ?_ rfl;refine AW.skip ?_;try simp
 refine hK _ rfl ?_;clear hK K;(repeat refine AW.seq_k fun K hK=>?_);refine AW.rg ?_;simp;try (refine hK _ rfl ?_;clear hK K)
 refine Aa.pure hc ?_;rintro _ ⟨c,rfl,h1,h2⟩;simp;refine hK _ rfl ?_;clear hK K;exact AW.ret (Ae (vs:=[.int .i64 c,.int .i64 0]) [.int .i64 c,.int .i64 0] (by simp) (by simp) ⟨⟨c,rfl,h1⟩,rfl⟩)
def symm (M:List (List Rat)) (n:Nat):Prop:=∀i,i<n→∀k,k<i→B4 M i k=B4 M k i
end Go.Av
end
section
namespace Go.Av
open Go.Proofs
def Zk (e:Int) (v:List RR) (Z:Option (List Rat)):Prop :=
 match Z with
 |some q=>e=0∧v=q.map Aq∧C8 q
 |none=>e=2
theorem Zk.to {e:Int} {v:List RR} {Z Z':Option (List Rat)} (h:Zk e v Z) (hZ:Z'=Z):Zk e v Z':=hZ ▸ h
theorem Zk.ok {e:Int} {v:List RR} {Z:Option (List Rat)} (h:Zk e v Z) (he:e=0) {k:Nat} (hk:k<v.length):(rr v k).ok=true:=by
 cases Z with
 |none=>have:e=2:=h;omega
 |some q =>
  obtain⟨_,rfl,m3⟩:e=0∧v=q.map Aq∧C8 q:=h;have hkq:k<q.length:=by simpa using hk
  rw[Ew hkq];refine Dq (m3 _ ?_);unfold Cd;rw[List.getD_eq_getElem?_getD,List.getElem?_eq_getElem hkq];exact List.getElem_mem hkq
theorem C8.at {r:List Rat} (h:C8 r) {k:Nat} (hk:k<r.length):Bu (Cd r k):=by
 unfold Cd;rw[List.getD_eq_getElem?_getD,List.getElem?_eq_getElem hk];exact h _ (List.getElem_mem hk)
end Go.Av
end
section
namespace Go.Av
open Go.Proofs
structure F1 (M:Ac) (c B:Nat) (bs:List Nat) (rows:List (List RR)) (x:AV) (by_:Nat) (fs:List AV) (ov:AV) (ob:List Nat) (ws:List AV):Prop where
 red:D3 (M.only (c::B::bs)) c B bs rows x .nil [] []
 by':M by_=some ⟨51,1,fs⟩
 lst:Kz M 44 4 ov ob ws
 nby:by_ ∉ c::B::bs
 nob:∀b∈ob,b ∉ c::B::bs∧b≠by_
section
variable {M:Ac} {c B:Nat} {bs:List Nat} {rows:List (List RR)} {x:AV} {by_:Nat} {fs:List AV} {ov:AV} {ob:List Nat} {ws:List AV}
theorem F1.cell (h:F1 M c B bs rows x by_ fs ov ob ws):M c=some ⟨118,1,[x]⟩:=by
 have:=h.red.cell;rwa [Bx (by simp)]at this
theorem F1.top (h:F1 M c B bs rows x by_ fs ov ob ws):M B=some ⟨51,1,Gi bs rows⟩:=by
 have:=h.red.mat.top;rwa [Bx (by simp)]at this
theorem F1.row (h:F1 M c B bs rows x by_ fs ov ob ws) {i:Nat} (hi:i<rows.length):M (nb bs i)=some ⟨44,4,Bg (Aj rows i)⟩:=by
 have:=h.red.mat.row i hi
 rwa [Bx (by simp[Ex (show i<bs.length by rw[h.red.mat.len];exact hi)])]at this
theorem F1.back (h:F1 M c B bs rows x by_ fs ov ob ws) {g:Ac} {rows':List (List RR)} {x':AV} (hg:D3 g c B bs rows' x' .nil [] []):F1 (M.back (c::B::bs) g) c B bs rows' x' by_ fs ov ob ws:=by
 have ho:∀b,b ∉ c::B::bs→g b=none:=fun b hb=>by
  cases hx:g b with
  |none=>rfl
  |some y=>have:=hg.only b (by rw[hx];simp);exact absurd (by simpa using this) hb
 have e:(M.back (c::B::bs) g).only (c::B::bs)=g:=by
  funext b
  by_cases hb:b∈c::B::bs
  ·rw[Bx hb,Qfi hb]
  ·rw[Bv hb,ho b hb]
 exact⟨by rw[e];exact hg,by rw[Ge (ho _ h.nby) h.nby];exact h.by',h.lst.keep fun b hb=>Ge (ho b (h.nob b hb).1) (h.nob b hb).1,h.nby,h.nob⟩
theorem Ka {m:Ac} {l:List Nat} {b:Nat} (hb:b ∉ l) (y:Ev):(m.set b y).only l=m.only l:=by
 funext k
 by_cases hk:k∈l
 ·rw[Bx hk,Bx hk];simp only[A6];rw[if_neg (by rintro rfl;exact hb hk)]
 ·rw[Bv hk,Bv hk]
theorem F1.push0 (h:F1 M c B bs rows x by_ fs .nil [] []) {b:Nat} (hb:M b=none) (v:AV):F1 (M.set b ⟨44,4,[v]⟩) c B bs rows x by_ fs (.osl b 4 0 1) [b] [v]:=by
 have h1:b ∉ c::B::bs:=by
  intro hm;have:(M.only (c::B::bs)) b=none:=by rw[Bx hm];exact hb
  obtain⟨f1,f2,f3,_⟩:=h.red.fresh this;simp[f1,f2,f3]at hm
 have h2:b≠by_:=by rintro rfl;rw[h.by']at hb;cases hb
 exact⟨by rw[Ka h1];exact h.red,by simp only[A6];rw[if_neg (Ne.symm h2)];exact h.by',.inr ⟨b,rfl,rfl,by simp⟩,h.nby,fun a ha=>by simp at ha;subst ha;exact⟨h1,h2⟩⟩
theorem F1.push1 {b0:Nat} (h:F1 M c B bs rows x by_ fs (.osl b0 4 0 ws.length) [b0] ws) {b:Nat} (hb:(M.del b0) b=none) (v:AV):F1 ((M.del b0).set b ⟨44,4,ws++[v]⟩) c B bs rows x by_ fs (.osl b 4 0 (ws.length+1)) [b] (ws++[v]):=by
 obtain⟨k1,k2⟩:=h.nob b0 (by simp);have hh:F1 (M.del b0) c B bs rows x by_ fs .nil [] []:=by
  have hdel:∀a,a≠b0→(M.del b0) a=M a:=fun a ha=>if_neg ha;have e:(M.del b0).only (c::B::bs)=M.only (c::B::bs):=by
   funext a
   by_cases ha:a∈c::B::bs
   ·rw[Bx ha,Bx ha,hdel a (by rintro rfl;exact k1 ha)]
   ·rw[Bv ha,Bv ha]
  exact⟨by rw[e];exact h.red,by rw[hdel by_ (Ne.symm k2)];exact h.by',.inl ⟨rfl,rfl,rfl⟩,h.nby,by simp⟩
 have h1:b ∉ c::B::bs:=by
  intro hm;have:((M.del b0).only (c::B::bs)) b=none:=by rw[Bx hm];exact hb
  obtain⟨f1,f2,f3,_⟩:=hh.red.fresh this;simp[f1,f2,f3]at hm
 have h2:b≠by_:=by rintro rfl;rw[hh.by']at hb;cases hb
 exact⟨by rw[Ka h1];exact hh.red,by simp only[A6];rw[if_neg (Ne.symm h2)];exact hh.by',.inr ⟨b,rfl,by simp,by simp⟩,h.nby,fun a ha=>by simp at ha;subst ha;exact⟨h1,h2⟩⟩
theorem D3.as_only {M:Ac} {c B:Nat} {bs:List Nat} {rows:List (List RR)} {x:AV} (h:D3 M c B bs rows x .nil [] []):D3 (M.only (c::B::bs)) c B bs rows x .nil [] []:=by
 rw[Qfs (h.only.sub fun b hb=>by simpa using hb)];exact h
theorem F1.start {x:AV} {by_:Nat} {fs:List AV} (h:D3 M c B bs rows x .nil [] []) (hb:M by_=none):F1 (M.set by_ ⟨51,1,fs⟩) c B bs rows x by_ fs .nil [] []:=by
 obtain⟨f1,f2,f3,_⟩:=h.fresh hb;have hn:by_ ∉ c::B::bs:=by simp[f1,f2,f3]
 exact⟨by rw[Ka hn];exact h.as_only,by simp,.inl ⟨rfl,rfl,rfl⟩,hn,by simp⟩
theorem F1.store (h:F1 M c B bs rows x by_ fs ov ob ws) {e:Int} (hx:G4 x e) {bv n j:Nat} {form:List RR} (hb:M bv=none) (hl:form.length=n) (h1:∀v∈fs,v.cells.all AV.one=true) (h2:∀b y,M b=some y→∀v∈y.l,v.cells.all AV.one=true) (hj:j<fs.length) :
  Ba ((M.set bv ⟨44,4,Bg form⟩).set by_ ⟨51,1,fs.set j (.osl bv 4 0 n)⟩) (M.set by_ ⟨51,1,fs.set j (An form)⟩):=by
 have hne:by_≠bv:=by rintro rfl;rw[h.by']at hb;cases hb
 refine⟨fun b y hy=>?_⟩;simp only[A6]at hy;by_cases hby:b=by_
 ·rw[if_pos hby]at hy;cases hy;refine⟨⟨51,1,fs.set j (.osl bv 4 0 n)⟩,by simp[hby],rfl,rfl,by simp,fun k v v' q1 q2=>?_⟩;simp only[List.getElem?_set]at q1 q2;by_cases hk:j=k
  ·subst hk;rw[if_pos rfl,if_pos hj]at q1 q2;cases q1;cases q2;refine⟨Tf (e:=44) (r:=form) (by simp[Ne.symm hne]) ?_ hl,rfl⟩;simp only[A6];rw[if_neg (Ne.symm hne)];exact hb
  ·rw[if_neg hk]at q1 q2;rw[q1]at q2;cases q2;exact⟨.same _,h1 v (List.mem_of_getElem? q1)⟩
 ·rw[if_neg hby]at hy;have hbv:b≠bv:=by rintro rfl;rw[hb]at hy;cases hy
  refine⟨y,?_,rfl,rfl,rfl,fun k v v' q1 q2=>?_⟩
  ·simp only[A6];rw[if_neg hby,if_neg hbv];exact hy
  ·rw[q1]at q2;cases q2;exact⟨.same _,h2 b y hy v (List.mem_of_getElem? q1)⟩
end
end Go.Av
end
section
namespace Go.Av
open Go.Proofs
def Du (M:Ac):Prop:=∀b y,M b=some y→∀v∈y.l,v.cells.all AV.one=true
theorem Du.set {M:Ac} (h:Du M) (b:Nat) {y:Ev} (hy:∀v∈y.l,v.cells.all AV.one=true):Du (M.set b y):=by
 intro c z hz;simp only[A6]at hz;split at hz
 ·cases hz;exact hy
 ·exact h c z hz
theorem Du.del {M:Ac} (h:Du M) (b:Nat):Du (M.del b):=by
 intro c z hz;unfold Ac.del at hz;split at hz
 ·cases hz
 ·exact h c z hz
theorem Up {q:Rat} (h:Bu q):(Aq q).l1.length<2^40∧(Aq q).l2.length<2^40:=by
 have h1:=Bd h.1;have h2:=Bd h.2;exact⟨Nat.lt_of_le_of_lt h1 (by omega),Nat.lt_of_le_of_lt h2 (by omega)⟩
theorem Wf {m g:Ac} {l:List Nat} (h1:∀b y,m b=some y→∀v∈y.l,v.cells.all AV.one=true) (h2:∀b y,g b=some y→∀v∈y.l,v.cells.all AV.one=true):∀b y,m.back l g b=some y→∀v∈y.l,v.cells.all AV.one=true:=by
 intro b y hy;unfold Ac.back at hy;cases hg:g b with
 |some z=>rw[hg]at hy;exact h2 b y (hg.trans hy)
 |none =>
  rw[hg]at hy;simp only at hy;split at hy
  ·cases hy
  ·exact h1 b y hy
set_option maxHeartbeats 2000000
end Go.Av
end
section
namespace Go.Av
open Go.Proofs
def Qb8 (p:Prop) (v:AV):Prop:=∃t:Bool,v=.bool t∧(t=true↔p)
theorem X5 {a b:List Nat} (h:a.length=b.length) (he:∀k,k<a.length→nth a k=nth b k):a=b:=by
 refine List.ext_getElem h fun k h1 h2=>?_;have:=he k h1;unfold nth at this
 rwa [List.getD_eq_getElem?_getD,List.getD_eq_getElem?_getD,List.getElem?_eq_getElem h1,List.getElem?_eq_getElem h2]at this
theorem Uu (n1 n2:Bool) (l1 l2:List Nat) (h1:l1.length<2^40):Ai Tryz.prog 71 [.agg [.bool n1,Ao l1],.agg [.bool n2,Ao l2]] Ac.emp fun v m=>Qb8 (n1=n2∧l1=l2) v∧m=Ac.emp:=by
 by_cases hn:n1=n2
 ·subst hn;by_cases hl:l1.length=l2.length
  ·refine Ad Tryz.func71 rfl rfl 38 rfl (Nat.le_of_ble_eq_true rfl) ?_;(repeat refine AW.seq_k fun K hK=>?_);refine AW.rgR [2,3] ?_;simp[Al];try (refine hK _ rfl ?_;clear hK K)
   (repeat refine AW.seq_k fun K hK=>?_);refine AW.rg ?_;simp[hl];try (refine hK _ rfl ?_;clear hK K)
   refine AW.no ?_ (by simp);refine AW.skip ?_;try simp
   refine hK _ rfl ?_;clear hK K;refine AW.seq_ex (ι:=Unit) (fun _=>[]) (fun _=>Ac.emp) (fun _=>l1=l2) ?_ ?_
   ·(repeat refine AW.seq_k fun K hK=>?_);refine AW.rg ?_;simp;try (refine hK _ rfl ?_;clear hK K)
    refine AW.block (AW.loopS (ι:=Nat) (fun i=>[(2,.rptr [.bool n1,Ao l1]),(3,.rptr [.bool n1,Ao l2]),(5,.int .i64 (i:Nat))]) (fun _=>Ac.emp) (fun i=>i≤l1.length∧∀k,k<i→nth l1 k=nth l2 k) (fun i=>l1.length-i) 0 ⟨by simp,by simp⟩ rfl (by simp) ?_);rintro i ⟨g1,g2⟩;(repeat refine AW.seq_k fun K hK=>?_);refine AW.rg ?_;simp;try (refine hK _ rfl ?_;clear hK K)
    (repeat refine AW.seq ?_);refine AW.cs (fun hi=>?_) (fun hi=>?_) rfl<;>(try simp at hi)
    ·refine AW.skip ?_;try simp
     refine hK _ rfl ?_;clear hK K;have hi2:i<l2.length:=by omega
     have w1:=Au (i+1) (by omega);refine AW.seq_ex (ι:=Unit) (fun _=>[(2,.rptr [.bool n1,Ao l1]),(3,.rptr [.bool n1,Ao l2]),(5,.int .i64 (i:Nat))]) (fun _=>Ac.emp) (fun _=>nth l1 i=nth l2 i) ?_ ?_
     ·(repeat refine AW.seq ?_);refine AW.block ?_;(repeat refine AW.seq_k fun K hK=>?_);refine AW.rd [0,1,2,3,4,5,6,7,8,9,10] C6 ?_;simp[hi,hi2];try (refine hK _ rfl ?_;clear hK K)
      by_cases h0:nth l1 i=nth l2 i
      ·refine AW.no ?_ (by simp[h0]);exact AW.skip ⟨(),h0,by simp⟩
      ·refine AW.yes ?_ (by simp[h0]);(repeat refine AW.seq_k fun K hK=>?_);refine AW.rg ?_;simp;try (refine hK _ rfl ?_;clear hK K)
       exact AW.ret (Ae (vs:=[.bool false]) [.bool false] (by simp) (by simp) ⟨⟨false,rfl,by simp;intro h;exact h0 (by rw[h])⟩,rfl⟩)
     rintro _ h0;(repeat refine AW.seq_k fun K hK=>?_);refine AW.rg ?_;simp[-Int.natCast_add,w1];try (refine hK _ rfl ?_;clear hK K)
     refine⟨⟨hi,fun k hk=>?_⟩,by omega⟩;rcases Nat.lt_succ_iff_lt_or_eq.1 hk with h | rfl
     ·exact g2 k h
     ·exact h0
    ·refine AW.exit ?_;try simp
     exact X5 hl fun k hk=>g2 k (by omega)
   rintro _ rfl;(repeat refine AW.seq_k fun K hK=>?_);refine AW.rg ?_;simp;try (refine hK _ rfl ?_;clear hK K)
   exact AW.ret (Ae (vs:=[.bool true]) [.bool true] (by simp) (by simp) ⟨⟨true,rfl,by simp⟩,rfl⟩)
  ·refine Ad Tryz.func71 rfl rfl 38 rfl (Nat.le_of_ble_eq_true rfl) ?_;(repeat refine AW.seq_k fun K hK=>?_);refine AW.rgR [2,3] ?_;simp[Al];try (refine hK _ rfl ?_;clear hK K)
   (repeat refine AW.seq_k fun K hK=>?_);refine AW.rg ?_;simp[hl];try (refine hK _ rfl ?_;clear hK K)
   refine AW.yes ?_ (by simp);(repeat refine AW.seq_k fun K hK=>?_);refine AW.rg ?_;simp;try (refine hK _ rfl ?_;clear hK K)
   exact AW.ret (Ae (vs:=[.bool false]) [.bool false] (by simp) (by simp) ⟨⟨false,rfl,by simp;intro h;exact hl (by rw[h])⟩,rfl⟩)
 ·refine Ad Tryz.func71 rfl rfl 38 rfl (Nat.le_of_ble_eq_true rfl) ?_;(repeat refine AW.seq_k fun K hK=>?_);refine AW.rgR [2,3] ?_;simp[Al];try (refine hK _ rfl ?_;clear hK K)
  (repeat refine AW.seq_k fun K hK=>?_);refine AW.rg ?_;simp[hn];try (refine hK _ rfl ?_;clear hK K)
  refine AW.yes ?_ (by simp);(repeat refine AW.seq_k fun K hK=>?_);refine AW.rg ?_;simp;try (refine hK _ rfl ?_;clear hK K)
  exact AW.ret (Ae (vs:=[.bool false]) [.bool false] (by simp) (by simp) ⟨⟨false,rfl,by simp[hn]⟩,rfl⟩)
def Pn (a:RR):Prop:=a.l1.length<2^40∧a.l2.length<2^40
theorem Wa (a b:RR) (h:Pn a):Ai Tryz.prog 33 [a.av,b.av] Ac.emp fun v m=>Qb8 (a=b) v∧m=Ac.emp:=by
 have i1:=Uu a.n1 b.n1 a.l1 b.l1 h.1;have i2:=Uu a.n2 b.n2 a.l2 b.l2 h.2;have hab:a=b↔(a.n1=b.n1∧a.l1=b.l1)∧(a.n2=b.n2∧a.l2=b.l2):=by
  obtain⟨x1,x2,x3,x4⟩:=a;obtain⟨y1,y2,y3,y4⟩:=b;simp only[RR.mk.injEq,and_assoc]
 unfold RR.av;refine Ad Tryz.func33 rfl rfl 17 rfl (Nat.le_of_ble_eq_true rfl) ?_;(repeat refine AW.seq_k fun K hK=>?_);refine AW.rgR [2,3] ?_;simp[Al];try (refine hK _ rfl ?_;clear hK K)
 (repeat refine AW.seq_k fun K hK=>?_);refine AW.rg ?_;simp;try (refine hK _ rfl ?_;clear hK K)
 refine Aa.pure i1 ?_;rintro _ ⟨t1,rfl,h1⟩;simp;cases t1
 ·simp;refine hK _ rfl ?_;clear hK K;exact AW.ret (Ae (vs:=[.bool false]) [.bool false] (by simp) (by simp) ⟨⟨false,rfl,by simp only[Bool.false_eq_true,false_iff];intro h;have:=h1.2 (hab.1 h).1;cases this⟩,rfl⟩)
 ·simp;refine Aa.pure i2 ?_;rintro _ ⟨t2,rfl,h2⟩;simp;refine hK _ rfl ?_;clear hK K;exact AW.ret (Ae (vs:=[.bool t2]) [.bool t2] (by simp) (by simp) ⟨⟨t2,rfl,by rw[h2,hab];exact⟨fun h=>⟨h1.1 rfl,h⟩,fun h=>h.2⟩⟩,rfl⟩)
theorem Zs {a b:List RR} (h:a.length=b.length) (he:∀k,k<a.length→rr a k=rr b k):a=b:=by
 refine List.ext_getElem h fun k h1 h2=>?_;have:=he k h1
 rwa [G6 h1,G6 h2]at this
theorem Yo (a b:List RR) (h:∀x∈a,Pn x) (hl:a.length<2^40):Ai Tryz.prog 38 [An a,An b] Ac.emp fun v m=>Qb8 (a=b) v∧m=Ac.emp:=by
 by_cases hab:a.length=b.length
 ·refine Ad Tryz.func38 rfl rfl 27 rfl (Nat.le_of_ble_eq_true rfl) ?_;(repeat refine AW.seq_k fun K hK=>?_);refine AW.rg ?_;simp[Al];try (refine hK _ rfl ?_;clear hK K)
  (repeat refine AW.seq_k fun K hK=>?_);refine AW.rg ?_;simp;try (refine hK _ rfl ?_;clear hK K)
  refine AW.no ?_ (by simp[hab]);refine AW.skip ?_;try simp
  refine hK _ rfl ?_;clear hK K;refine AW.seq_ex (ι:=Unit) (fun _=>[]) (fun _=>Ac.emp) (fun _=>a=b) ?_ ?_
  ·(repeat refine AW.seq_k fun K hK=>?_);refine AW.rg ?_;simp;try (refine hK _ rfl ?_;clear hK K)
   refine AW.block (AW.loopS (ι:=Nat) (fun i=>[(0,An a),(1,An b),(5,.int .i64 (i:Nat))]) (fun _=>Ac.emp) (fun i=>i≤a.length∧∀k,k<i→rr a k=rr b k) (fun i=>a.length-i) 0 ⟨by simp,by simp⟩ rfl (by simp) ?_);rintro i ⟨g1,g2⟩;(repeat refine AW.seq_k fun K hK=>?_);refine AW.rg ?_;simp;try (refine hK _ rfl ?_;clear hK K)
   (repeat refine AW.seq ?_);refine AW.cs (fun hi=>?_) (fun hi=>?_) rfl<;>(try simp at hi)
   ·refine AW.skip ?_;try simp
    refine hK _ rfl ?_;clear hK K;have hi2:i<b.length:=by omega
    have w1:=Au (i+1) (by omega);have hs:=Wa (rr a i) (rr b i) (h _ (by rw[G6 hi];exact List.getElem_mem hi));refine AW.seq_ex (ι:=Unit) (fun _=>[(0,An a),(1,An b),(5,.int .i64 (i:Nat))]) (fun _=>Ac.emp) (fun _=>rr a i=rr b i) ?_ ?_
    ·(repeat refine AW.seq ?_);refine AW.block ?_;(repeat refine AW.seq_k fun K hK=>?_);refine AW.rd [0,1,2,3,4,5,6,7,8,9] C6 ?_;simp[hi,hi2];try (refine hK _ rfl ?_;clear hK K)
     refine Aa.pure hs ?_;rintro _ ⟨t,rfl,ht⟩;simp;refine hK _ rfl ?_;clear hK K;cases t
     ·refine AW.yes ?_ rfl;(repeat refine AW.seq_k fun K hK=>?_);refine AW.rg ?_;simp;try (refine hK _ rfl ?_;clear hK K)
      exact AW.ret (Ae (vs:=[.bool false]) [.bool false] (by simp) (by simp) ⟨⟨false,rfl,by simp only[Bool.false_eq_true,false_iff];intro h;have:=ht.2 (by rw[h]);cases this⟩,rfl⟩)
     ·refine AW.no ?_ rfl;exact AW.skip ⟨(),ht.1 rfl,by simp⟩
    rintro _ h0;(repeat refine AW.seq_k fun K hK=>?_);refine AW.rg ?_;simp[-Int.natCast_add,w1];try (refine hK _ rfl ?_;clear hK K)
    refine⟨⟨hi,fun k hk=>?_⟩,by omega⟩;rcases Nat.lt_succ_iff_lt_or_eq.1 hk with h | rfl
    ·exact g2 k h
    ·exact h0
   ·refine AW.exit ?_;try simp
    exact Zs hab fun k hk=>g2 k (by omega)
  rintro _ rfl;(repeat refine AW.seq_k fun K hK=>?_);refine AW.rg ?_;simp;try (refine hK _ rfl ?_;clear hK K)
  exact AW.ret (Ae (vs:=[.bool true]) [.bool true] (by simp) (by simp) ⟨⟨true,rfl,by simp⟩,rfl⟩)
 ·refine Ad Tryz.func38 rfl rfl 27 rfl (Nat.le_of_ble_eq_true rfl) ?_;(repeat refine AW.seq_k fun K hK=>?_);refine AW.rg ?_;simp[Al];try (refine hK _ rfl ?_;clear hK K)
  (repeat refine AW.seq_k fun K hK=>?_);refine AW.rg ?_;simp;try (refine hK _ rfl ?_;clear hK K)
  refine AW.yes ?_ (by simp[hab]);(repeat refine AW.seq_k fun K hK=>?_);refine AW.rg ?_;simp;try (refine hK _ rfl ?_;clear hK K)
  exact AW.ret (Ae (vs:=[.bool false]) [.bool false] (by simp) (by simp) ⟨⟨false,rfl,by simp;intro h;exact hab (by rw[h])⟩,rfl⟩)
end Go.Av
end
section
namespace Go.Av
open Go.Proofs
theorem Qmo (X:List (List Rat)):P9 (Be X)=X:=by
 unfold P9 Be;rw[List.map_map]
 conv=>rhs;rw[←List.map_id X]
 refine List.map_congr_left fun r _=>?_;show(r.map Aq).map RR.q=r
 rw[List.map_map]
 conv=>rhs;rw[←List.map_id r]
 exact List.map_congr_left fun q _=>Hn q
theorem Qic {n w:Nat} {X:List (List Rat)} (h:Bp n w X) (hw:(Aj X 0).length=w) (h1:n≤64) (h2:w≤64):Uz (Be X)=0:=by
 refine Qcj ?_ ?_
 ·rintro(h'|⟨k,hk,h'⟩)
  ·rw[A1,h.2.2]at h';omega
  ·rw[A1,h.2.2]at hk;rw[Bq,List.length_map,(h.row hk).2]at h';omega
 ·intro k hk;rw[A1,h.2.2]at hk;rw[Bq,Bq,List.length_map,List.length_map,(h.row hk).2,hw];refine⟨rfl,fun j hj=>?_⟩;have hjl:j<(Aj X k).length:=by rw[(h.row hk).2];exact hj
  rw[Ew hjl];exact Dq ((h.row hk).1.at hjl)
set_option maxHeartbeats 1000000
end Go.Av
end
section
namespace Go.Av
open Go.Proofs
def Qp9 (o:Option Nat):Int:=match o with
 |some i=>i
 |none=>-1
theorem Qa0 (rows:List (List RR)) (hlb:Sb rows) (w j r:Nat) (hd:J3 rows w) (hj:j<w) (h1:rows.length<2^40) (h2:w<2^40) (h3:r<2^40):Ai Tryz.prog 191 [Ap rows,.int .i64 j,.int .i64 r] Ac.emp fun v m=>v=.int .i64 (Qp9 (Y4 rows j r))∧m=Ac.emp:=by
 refine Ad Tryz.func191 rfl rfl 25 rfl (Nat.le_of_ble_eq_true rfl) ?_;(repeat refine AW.seq_k fun K hK=>?_);refine AW.rg ?_;simp[Al];try (refine hK _ rfl ?_;clear hK K)
 refine AW.seq_ex (ι:=Unit) (fun _=>[]) (fun _=>Ac.emp) (fun _=>∀k,r≤k→k<rows.length→Dm (rr (Aj rows k) j)=0) ?_ ?_
 ·(repeat refine AW.seq_k fun K hK=>?_);refine AW.rg ?_;simp;try (refine hK _ rfl ?_;clear hK K)
  refine AW.block (AW.loopS (ι:=Nat) (fun i=>[(0,Ap rows),(1,.int .i64 j),(2,.int .i64 r),(7,.int .i64 (i:Nat))]) (fun _=>Ac.emp) (fun i=>r≤i∧∀k,r≤k→k<i→Dm (rr (Aj rows k) j)=0) (fun i=>rows.length-i) r ⟨by omega,by omega⟩ rfl (by simp) ?_);rintro i ⟨g1,g2⟩;(repeat refine AW.seq_k fun K hK=>?_);refine AW.rg ?_;simp;try (refine hK _ rfl ?_;clear hK K)
  (repeat refine AW.seq ?_);refine AW.cs (fun hi=>?_) (fun hi=>?_) rfl<;>(try simp at hi)
  ·refine AW.skip ?_;try simp
   refine hK _ rfl ?_;clear hK K;have w1:=Au (i+1) (by omega);have hwi:=hd i hi;have hs:=Lz (rr (Aj rows i) j) (Jg (hlb.row i) j);refine AW.seq_ex (ι:=Unit) (fun _=>[(0,Ap rows),(1,.int .i64 j),(2,.int .i64 r),(7,.int .i64 (i:Nat))]) (fun _=>Ac.emp) (fun _=>Dm (rr (Aj rows i) j)=0) ?_ ?_
   ·(repeat refine AW.seq ?_);refine AW.block ?_;(repeat refine AW.seq_k fun K hK=>?_);refine AW.rg ?_;simp[hi,hwi,hj];try (refine hK _ rfl ?_;clear hK K)
    refine Aa.val hs ?_;simp;refine hK _ rfl ?_;clear hK K;(repeat refine AW.seq ?_);refine AW.cs (fun h0=>?_) (fun h0=>?_) rfl<;>(try simp at h0)
    ·(repeat refine AW.seq_k fun K hK=>?_);refine AW.rg ?_;simp;try (refine hK _ rfl ?_;clear hK K)
     refine AW.ret (Ae (vs:=[.int .i64 (i:Nat)]) [.int .i64 (i:Nat)] (by simp) (by simp) ⟨?_,rfl⟩);rw[Vu g2 g1 hi h0];rfl
    ·refine AW.skip ?_;try simp
     exact h0
   rintro _ h0;(repeat refine AW.seq_k fun K hK=>?_);refine AW.rg ?_;simp[-Int.natCast_add,w1];try (refine hK _ rfl ?_;clear hK K)
   refine⟨⟨by omega,fun k hk1 hk2=>?_⟩,by omega⟩;rcases Nat.lt_succ_iff_lt_or_eq.1 hk2 with h | rfl
   ·exact g2 k hk1 h
   ·exact h0
  ·refine AW.exit ?_;try simp
   exact fun k a b=>g2 k a (by omega)
 rintro _ hno;(repeat refine AW.seq_k fun K hK=>?_);refine AW.rg ?_;simp;try (refine hK _ rfl ?_;clear hK K)
 refine AW.ret (Ae (vs:=[.int .i64 (-1)]) [.int .i64 (-1)] (by simp) (by simp) ⟨?_,rfl⟩);rw[Wt hno];rfl
theorem Qgr (a f b:Rat) (ha:Bu a) (hf:Bu f) (hb:Bu b):Ai Tryz.prog 212 [(Aq a).av,(Aq f).av,(Aq b).av] Ac.emp fun v m=>v=C0 (I0 a f b)∧m=Ac.emp:=by
 have hm:=Qhm b f hb hf;have hl:I0 a f b=(D4 b f).bind (Cz a):=rfl;rw[hl];cases hq:D4 b f with
 |none =>
  rw[hq]at hm;simp only[C0]at hm;refine Ad Tryz.func212 rfl rfl 25 rfl (Nat.le_of_ble_eq_true rfl) ?_;(repeat refine AW.seq_k fun K hK=>?_);refine AW.rgR [3,4,5] ?_;simp[Al];try (refine hK _ rfl ?_;clear hK K)
  refine Af.intro fun b6 hb6=>?_;refine hK _ rfl ?_;clear hK K;(repeat refine AW.seq_k fun K hK=>?_);refine AW.rg ?_;simp;try (refine hK _ rfl ?_;clear hK K)
  refine Aa.val hm ?_;simp[B5];refine Af.intro fun b8 hb8=>?_;simp only[Am,Aw,and_true]at hb8;try simp[hb8]
  refine hK _ rfl ?_;clear hK K;(repeat refine AW.seq_k fun K hK=>?_);refine AW.rg ?_;simp[hb8];try (refine hK _ rfl ?_;clear hK K)
  refine AW.yes ?_ rfl;(repeat refine AW.seq_k fun K hK=>?_);refine AW.rg ?_;simp[hb8];try (refine hK _ rfl ?_;clear hK K)
  exact AW.ret (B3 (b:=b6) (.bool false) (Ao []) (.bool false) (Ao []) rfl rfl (by simp[hb8]) rfl ⟨.same _,.nilsl 1,.same _,.nilsl 1,trivial⟩ ⟨rfl,rfl⟩)
 |some p =>
  rw[hq]at hm;simp only[C0]at hm;have hs:=H1 a p ha (Qam hq);show Ai Tryz.prog 212 _ _ fun v m=>v=C0 (Cz a p)∧m=Ac.emp
  refine Ad Tryz.func212 rfl rfl 25 rfl (Nat.le_of_ble_eq_true rfl) ?_;(repeat refine AW.seq_k fun K hK=>?_);refine AW.rgR [3,4,5] ?_;simp[Al];try (refine hK _ rfl ?_;clear hK K)
  refine Af.intro fun b6 hb6=>?_;refine hK _ rfl ?_;clear hK K;(repeat refine AW.seq_k fun K hK=>?_);refine AW.rg ?_;simp;try (refine hK _ rfl ?_;clear hK K)
  refine Aa.val hm ?_;simp[Gl];refine Af.intro fun b8 hb8=>?_;simp only[Am,Aw,and_true]at hb8;try simp[hb8]
  refine hK _ rfl ?_;clear hK K;(repeat refine AW.seq_k fun K hK=>?_);refine AW.rg ?_;simp[hb8];try (refine hK _ rfl ?_;clear hK K)
  refine AW.no ?_ rfl;refine AW.skip ?_;try simp
  refine hK _ rfl ?_;clear hK K;(repeat refine AW.seq_k fun K hK=>?_);refine AW.rg ?_;simp[hb8];try (refine hK _ rfl ?_;clear hK K)
  refine Aa.val hs ?_;cases hsq:Cz a p with
  |none =>
   simp only[C0];simp[B5,hb8];refine hK _ rfl ?_;clear hK K;exact AW.ret (B3 (b:=b6) (.bool false) (Ao []) (.bool false) (Ao []) rfl rfl (by simp[hb8]) rfl ⟨.same _,.same _,.same _,.same _,trivial⟩ ⟨by rw[hsq];rfl,rfl⟩)
  |some z =>
   simp only[C0];simp[Gl,hb8];refine hK _ rfl ?_;clear hK K;exact AW.ret (Qrj (b:=b6) (Aq z) rfl rfl (by simp[hb8];rfl) rfl ⟨by rw[hsq];rfl,rfl⟩)
end Go.Av
end
section
namespace Go.Av
open Go.Proofs
def F8 (bi br:Nat) (a b:List Rat):Ac:=(Ac.emp.set bi ⟨44,4,Bg (a.map Aq)⟩).set br ⟨44,4,Bg (b.map Aq)⟩
theorem Js (bi br:Nat) (a b:List Rat):Du (F8 bi br a b):=by
 unfold F8;exact Du.set (Du.set (fun c y hy=>by cases hy) bi (Gc _)) br (Gc _)
theorem Qgk {bi br:Nat} {a b:List Rat}:∀k,F8 bi br a b k≠none→k=bi∨k=br:=by
 intro k hk;unfold F8 at hk;simp only[A6,Aw]at hk;split at hk
 ·exact .inr (by assumption)
 ·split at hk
  ·exact .inl (by assumption)
  ·exact absurd rfl hk
def Qr5 (bi br:Nat) (by_:List Rat) (X:Option (List Rat)) (v:AV) (M:Ac):Prop :=
 match X with
 |some row=>v=.int .i64 0∧M=F8 bi br row by_
 |none=>v=.int .i64 2∧Du M∧∀b,M b≠none→b=bi∨b=br
theorem Vh (bi br:Nat) (row by_:List Rat) (f:Rat) (w j:Nat) (hne:bi≠br) (hr:C8 row) (hrl:row.length=w) (hb:C8 by_) (hbl:by_.length=w) (hf:Bu f) (hj:j≤w) (hw:w≤64) :
  Ai Tryz.prog 206 [.osl bi 4 0 w,(Aq f).av,.osl br 4 0 w,.int .i64 j] (F8 bi br row by_) (Qr5 bi br by_ (A3 (G8 by_ f j) (w-j) row)):=by
 have hne':=Ne.symm hne;refine Ad Tryz.func206 rfl rfl 39 rfl (Nat.le_of_ble_eq_true rfl) ?_;(repeat refine AW.seq_k fun K hK=>?_);refine AW.rgR [5] ?_;simp[Al];try (refine hK _ rfl ?_;clear hK K)
 refine AW.seq_ex (ι:=List Rat) (fun _=>[(0,.osl bi 4 0 w),(2,.osl br 4 0 w),(3,.int .i64 j),(5,.rptr [.bool (Aq f).n1,Ao (Aq f).l1,.bool (Aq f).n2,Ao (Aq f).l2])]) (fun r=>F8 bi br r by_) (fun r=>A3 (G8 by_ f j) (w-j) row=some r) ?_ ?_
 ·(repeat refine AW.seq_k fun K hK=>?_);refine AW.rg ?_;simp;try (refine hK _ rfl ?_;clear hK K)
  refine AW.block (AW.loopS (ι:=Nat × List Rat) (fun z=>[(0,.osl bi 4 0 w),(2,.osl br 4 0 w),(3,.int .i64 j),(5,.rptr [.bool (Aq f).n1,Ao (Aq f).l1,.bool (Aq f).n2,Ao (Aq f).l2]),(9,.int .i64 ((j+z.1:Nat):Int))]) (fun z=>F8 bi br z.2 by_) (fun z=>z.1≤w-j∧A3 (G8 by_ f j) z.1 row=some z.2∧C8 z.2∧z.2.length=w) (fun z=>w-z.1) (0,row) ⟨by simp,rfl,hr,hrl⟩ rfl (by simp) ?_);rintro⟨t,r⟩ ⟨g1,g2,g3,g4⟩;simp only at g1 g2 g3 g4;generalize hk:j+t=k at *;(repeat refine AW.seq_k fun K hK=>?_);refine AW.rg ?_;simp[-Int.natCast_add]
  try (refine hK _ rfl ?_;clear hK K)
  (repeat refine AW.seq ?_);refine AW.cs (fun hkw=>?_) (fun hkw=>?_) rfl<;>(try simp at hkw)
  ·refine AW.skip ?_;try simp[-Int.natCast_add]
   refine hK _ rfl ?_;clear hK K;have w1:=Au (k+1) (by omega);have hkr:k<r.length:=by omega
   have hkb:k<by_.length:=by omega
   have e1:rr (r.map Aq) k=Aq (Cd r k):=Ew hkr;have e2:rr (by_.map Aq) k=Aq (Cd by_ k):=Ew hkb;have hle:=Qgr (Cd r k) f (Cd by_ k) (g3.at hkr) hf (hb.at hkb);have hrR:(r.map Aq).length=w:=by rw[List.length_map,g4]
   have hbR:(by_.map Aq).length=w:=by rw[List.length_map,hbl]
   have hst:A3 (G8 by_ f j) (t+1) row=(I0 (Cd r k) f (Cd by_ k)).map (r.set k):=by
    rw[Cq,g2,←hk];rfl
   refine AW.seq_ex (ι:=List Rat) (fun _=>[(0,.osl bi 4 0 w),(2,.osl br 4 0 w),(3,.int .i64 j),(5,.rptr [.bool (Aq f).n1,Ao (Aq f).l1,.bool (Aq f).n2,Ao (Aq f).l2]),(9,.int .i64 (k:Nat))]) (fun r=>F8 bi br r by_) (fun r=>A3 (G8 by_ f j) (t+1) row=some r∧C8 r∧r.length=w) ?_ ?_
   ·(repeat refine AW.seq ?_);refine AW.block ?_;cases hq:I0 (Cd r k) f (Cd by_ k)with
    |none =>
     rw[hq]at hle hst;replace hst:A3 (G8 by_ f j) (t+1) row=none:=hst;simp only[C0]at hle;have hX:=Ha hst (m:=w-j) (by omega);rw[hX];(repeat refine AW.seq_k fun K hK=>?_);refine AW.rdT [] [5] [] [bi,br] [0,1,2,3,4,5,6,7,8,9,10,11,12,13,14,15] C6 (by simp[F8,hne,hne',hkw,hrR,hbR,e1,e2]) (by simp[F8,hne,hne',hkw,hrR,hbR,e1,e2]) (by simp[F8,hne,hne',hkw,hrR,hbR,e1,e2]) (by simp[F8,hne,hne',hkw,hrR,hbR,e1,e2]) (by simp[F8,hne,hne',hkw,hrR,hbR,e1,e2]) ?_;simp[-Int.natCast_add,F8,hne,hne',hkw,hrR,hbR,e1,e2]
     try (refine hK _ rfl ?_;clear hK K)
     refine Aa.val hle ?_;simp[B5];refine Af.intro fun b10 hb10=>?_;refine hK _ rfl ?_;clear hK K;refine AW.turn [(11,.int .i64 2)] (F8 bi br r by_) (Ba.drop hb10 (Js bi br r by_)) (by simp) ?_;(repeat refine AW.seq_k fun K hK=>?_);refine AW.rg ?_;simp[-Int.natCast_add];try (refine hK _ rfl ?_;clear hK K)
     refine AW.yes ?_ rfl;(repeat refine AW.seq_k fun K hK=>?_);refine AW.rg ?_;simp[-Int.natCast_add];try (refine hK _ rfl ?_;clear hK K)
     exact AW.ret (Bo rfl (Js bi br r by_) ⟨rfl,Js bi br r by_,Qgk⟩)
    |some z =>
     rw[hq]at hle hst;simp only[C0]at hle;(repeat refine AW.seq_k fun K hK=>?_);refine AW.rdT [] [5] [] [bi,br] [0,1,2,3,4,5,6,7,8,9,10,11,12,13,14,15] C6 (by simp[F8,hne,hne',hkw,hrR,hbR,e1,e2]) (by simp[F8,hne,hne',hkw,hrR,hbR,e1,e2]) (by simp[F8,hne,hne',hkw,hrR,hbR,e1,e2]) (by simp[F8,hne,hne',hkw,hrR,hbR,e1,e2]) (by simp[F8,hne,hne',hkw,hrR,hbR,e1,e2]) ?_;simp[-Int.natCast_add,F8,hne,hne',hkw,hrR,hbR,e1,e2];try (refine hK _ rfl ?_;clear hK K)
     refine Aa.val hle ?_;simp[Gl];refine Af.intro fun b10 hb10=>?_;refine hK _ rfl ?_;clear hK K;refine AW.turn [(0,.osl bi 4 0 w),(2,.osl br 4 0 w),(3,.int .i64 j),(5,.rptr [.bool (Aq f).n1,Ao (Aq f).l1,.bool (Aq f).n2,Ao (Aq f).l2]),(9,.int .i64 (k:Nat)),(10,.rptr [.bool (Aq z).n1,Ao (Aq z).l1,.bool (Aq z).n2,Ao (Aq z).l2]),(11,.int .i64 0)] (F8 bi br r by_) (Ba.drop hb10 (Js bi br r by_)) ?_ ?_
     ·simp;exact De hb10
     (repeat refine AW.seq_k fun K hK=>?_);refine AW.rg ?_;simp[-Int.natCast_add];try (refine hK _ rfl ?_;clear hK K)
     refine AW.no ?_ rfl;refine AW.skip ?_;try simp[-Int.natCast_add]
     refine hK _ rfl ?_;clear hK K;(repeat refine AW.seq_k fun K hK=>?_);refine AW.rg ?_;simp[-Int.natCast_add,F8,hne,hne',hkw,hrR];try (refine hK _ rfl ?_;clear hK K)
     refine⟨r.set k z,⟨hst,Jl g3 k (L9 hq),by rw[List.length_set];exact g4⟩,?_⟩;rw[Qkm hne];show(Ac.emp.set bi ⟨44,4,(Bg (r.map Aq)).set k (Aq z).av⟩).set br _=_
     rw[Er,List.map_set]
   rintro r ⟨q1,q2,q3⟩;(repeat refine AW.seq_k fun K hK=>?_);refine AW.rg ?_;simp[-Int.natCast_add,w1];try (refine hK _ rfl ?_;clear hK K)
   exact⟨t+1,r,⟨by omega,q1,q2,q3⟩,by omega,rfl,by omega⟩
  ·refine AW.exit ?_;try simp[-Int.natCast_add]
   have:t=w-j:=by omega
   subst this;exact⟨r,g2,rfl⟩
 rintro r hX;rw[hX];(repeat refine AW.seq_k fun K hK=>?_);refine AW.rg ?_;simp;try (refine hK _ rfl ?_;clear hK K)
 exact AW.ret (Bo rfl (Js bi br r by_) ⟨rfl,rfl⟩)
end Go.Av
end
section
namespace Go.Av
open Go.Proofs
theorem Qcw (by_:List Rat) (f:Rat):G8 by_ f 0=Dy by_ f:=by
 funext t row
 unfold G8 Dy;rw[Nat.zero_add]
theorem Qjx {m:Ac} {bi br:Nat} {a b:List Rat} (h1:m bi=some ⟨44,4,Bg (a.map Aq)⟩) (h2:m br=some ⟨44,4,Bg (b.map Aq)⟩) (hne:bi≠br):m.only [bi,br]=F8 bi br a b:=by
 funext k
 unfold F8;simp only[A6,Aw];by_cases k1:k=br
 ·subst k1;rw[Bx (by simp),if_pos rfl,h2]
 ·rw[if_neg k1];by_cases k2:k=bi
  ·subst k2;rw[Bx (by simp),if_pos rfl,h1]
  ·rw[if_neg k2,Bv (by simp[k1,k2])]
theorem Qjq {m:Ac} {bi br:Nat} {a b:List Rat} (h2:m br=some ⟨44,4,Bg (b.map Aq)⟩) (hne:bi≠br):m.back [bi,br] (F8 bi br a b)=m.set bi ⟨44,4,Bg (a.map Aq)⟩:=by
 funext k
 simp only[A6];by_cases k2:k=bi
 ·subst k2;rw[if_pos rfl];exact Jp (by unfold F8;simp[hne])
 ·rw[if_neg k2];by_cases k1:k=br
  ·subst k1;rw[h2];exact Jp (by unfold F8;simp)
  ·exact Ge (by unfold F8;simp[k1,k2]) (by simp[k1,k2])
def Mu (M:Ac) (B:Nat) (bs:List Nat) (X:List (List Rat)):Prop:=D7 M B bs (Be X)∧Dc M (B::bs)
theorem Mu.ones {M:Ac} {B:Nat} {bs:List Nat} {X:List (List Rat)} (h:Mu M B bs X):Du M:=h.1.ones (l:=[]) h.2 (by simp)
theorem Mu.setRow {M:Ac} {B:Nat} {bs:List Nat} {X:List (List Rat)} (h:Mu M B bs X) {i:Nat} (hi:i<X.length) {r:List Rat} (hr:r.length=(Aj X i).length):Mu (M.set (nb bs i) ⟨44,4,Bg (r.map Aq)⟩) B bs (X.set i r):=by
 refine⟨?_,h.2.set ?_ _⟩
 ·rw[Oy];exact h.1.setRow (by rw[A1];exact hi) _ (by rw[Bq,List.length_map,List.length_map,hr])
 ·exact List.mem_cons_of_mem _ (Ex (by rw[h.1.len,A1];exact hi))
def Zd (B:Nat) (bs:List Nat) (Z:Option (List (List Rat))) (v:AV) (M:Ac):Prop :=
 match Z with
 |some Y=>v=.int .i64 0∧Mu M B bs Y
 |none=>v=.int .i64 2∧Du M
set_option maxHeartbeats 1000000
theorem Qct (M0:Ac) (B:Nat) (bs:List Nat) (X:List (List Rat)) (n w j r:Nat) (hM:Mu M0 B bs X) (hG:Bp n w X) (hj:j<w) (hr:r<n) (hdq:B4 X r j≠0) (hn:n≤64) (hw:w≤64) :
  Ai Tryz.prog 192 [.osl B 1 0 n,.int .i64 j,.int .i64 r] M0 (Zd B bs (Fh X j r)):=by
 have hjl:j<(Aj X r).length:=by rw[(hG.row hr).2];exact hj
 have hrE:r<(Be X).length:=by rw[A1,hG.2.2];exact hr
 have hlr:(Aj (Be X) r).length=w:=by rw[Bq,List.length_map];exact(hG.row hr).2
 have ed:rr (Aj (Be X) r) j=Aq (B4 X r j):=by rw[Bq,Ew hjl];rfl
 have gd:Bu (B4 X r j):=hG.1.at hjl;have hcl:Fh X j r=(A3 (Ca (B4 X r j)) w (Aj X r)).bind fun row=>A3 (Bi r j) n (X.set r row):=by
  unfold Fh;rw[(hG.row hr).2,hG.2.2]
 rw[hcl];clear hcl;generalize B4 X r j=d at *;have hxr:r<X.length:=by rw[hG.2.2];exact hr
 refine Ad Tryz.func192 rfl rfl 86 rfl (Nat.le_of_ble_eq_true rfl) ?_;(repeat refine AW.seq_k fun K hK=>?_);refine AW.rg ?_;simp[Al];try (refine hK _ rfl ?_;clear hK K)
 (repeat refine AW.seq_k fun K hK=>?_);refine AW.rg ?_;simp[hr,hM.1.top,↓hM.1.get hrE,hM.1.row r hrE,hlr,hj,ed];try (refine hK _ rfl ?_;clear hK K)
 refine Af.intro fun b7 hb7=>?_;refine hK _ rfl ?_;clear hK K;refine AW.turn [(0,.osl B 1 0 n),(1,.int .i64 j),(2,.int .i64 r),(7,.rptr [.bool (Aq d).n1,Ao (Aq d).l1,.bool (Aq d).n2,Ao (Aq d).l2])] M0 (Ba.drop hb7 hM.ones) ?_ ?_
 ·simp;exact De hb7
 refine AW.seq_ex (ι:=Ac × List Rat) (fun _=>[(0,.osl B 1 0 n),(1,.int .i64 j),(2,.int .i64 r),(7,.rptr [.bool (Aq d).n1,Ao (Aq d).l1,.bool (Aq d).n2,Ao (Aq d).l2])]) (fun z=>z.1) (fun z=>Mu z.1 B bs (X.set r z.2)∧A3 (Ca d) w (Aj X r)=some z.2∧C8 z.2∧z.2.length=w) ?_ ?_
 ·(repeat refine AW.seq_k fun K hK=>?_);refine AW.rg ?_;simp;try (refine hK _ rfl ?_;clear hK K)
  refine AW.block (AW.loopS (ι:=Nat × Ac × List Rat) (fun z=>[(0,.osl B 1 0 n),(1,.int .i64 j),(2,.int .i64 r),(7,.rptr [.bool (Aq d).n1,Ao (Aq d).l1,.bool (Aq d).n2,Ao (Aq d).l2]),(8,.int .i64 (z.1:Nat))]) (fun z=>z.2.1) (fun z=>z.1≤w∧Mu z.2.1 B bs (X.set r z.2.2)∧A3 (Ca d) z.1 (Aj X r)=some z.2.2∧C8 z.2.2∧z.2.2.length=w) (fun z=>w-z.1) (0,M0,Aj X r) ⟨by simp,by rw[Ea hxr,List.set_getElem_self];exact hM,rfl,(hG.row hr).1,(hG.row hr).2⟩ rfl (by simp) ?_);rintro⟨k,M,row⟩ ⟨g1,g2,g3,g4,g5⟩;simp only at g1 g2 g3 g4 g5
  have hrE':r<(Be (X.set r row)).length:=by rw[A1,List.length_set];exact hxr
  have hrow:Aj (Be (X.set r row)) r=row.map Aq:=by rw[Bq,Fo hxr,if_pos rfl]
  have hlr':(Aj (Be (X.set r row)) r).length=w:=by rw[hrow,List.length_map,g5]
  have hRr:=g2.1.row r hrE';have hGr:=g2.1.get hrE';rw[hrow]at hRr hGr;rw[show(row.map Aq).length=w by rw[List.length_map,g5]]at hGr;have n0:=g2.1.ne hrE';(repeat refine AW.seq_k fun K hK=>?_);refine AW.rg ?_;simp[hr,g2.1.top,↓hGr];try (refine hK _ rfl ?_;clear hK K)
  (repeat refine AW.seq ?_);refine AW.cs (fun hk=>?_) (fun hk=>?_) rfl<;>(try simp at hk)
  ·refine AW.skip ?_;try simp
   refine hK _ rfl ?_;clear hK K;have w1:=Au (k+1) (by omega);have hkr:k<row.length:=by omega
   have e1:rr (row.map Aq) k=Aq (Cd row k):=Ew hkr;have hrR:(row.map Aq).length=w:=by rw[List.length_map,g5]
   have hdv:=Qhq (Cd row k) d (g4.at hkr) gd hdq;have hst:A3 (Ca d) (k+1) (Aj X r)=(Ft (Cd row k) d).map (row.set k):=by
    rw[Cq,g3];rfl
   refine AW.seq_ex (ι:=Ac × List Rat) (fun _=>[(0,.osl B 1 0 n),(1,.int .i64 j),(2,.int .i64 r),(7,.rptr [.bool (Aq d).n1,Ao (Aq d).l1,.bool (Aq d).n2,Ao (Aq d).l2]),(8,.int .i64 (k:Nat))]) (fun z=>z.1) (fun z=>Mu z.1 B bs (X.set r z.2)∧A3 (Ca d) (k+1) (Aj X r)=some z.2∧C8 z.2∧z.2.length=w) ?_ ?_
   ·(repeat refine AW.seq ?_);refine AW.block ?_;cases hq:Ft (Cd row k) d with
    |none =>
     rw[hq]at hdv hst;replace hst:A3 (Ca d) (k+1) (Aj X r)=none:=hst;simp only[C0]at hdv;have hX:=Ha hst (m:=w) (by omega);rw[hX];(repeat refine AW.seq_k fun K hK=>?_);refine AW.rdT [] [7] [] [B,nb bs r] [0,1,2,3,4,5,6,7,8,9,10,11,12,13,14] C6 (by simp[hr,g2.1.top,↓hGr,hRr,hk,hrR,e1]) (by simp[hr,g2.1.top,↓hGr,hRr,hk,hrR,e1]) (by simp[hr,g2.1.top,↓hGr,hRr,hk,hrR,e1]) (by simp[hr,g2.1.top,↓hGr,hRr,hk,hrR,e1]) (by simp[hr,g2.1.top,↓hGr,hRr,hk,hrR,e1]) ?_;simp[hr,g2.1.top,↓hGr,hRr,hk,hrR,e1];try (refine hK _ rfl ?_;clear hK K)
     refine Aa.val hdv ?_;simp[B5];refine Af.intro fun b9 hb9=>?_;refine hK _ rfl ?_;clear hK K;refine AW.turn [(10,.int .i64 2)] M (Ba.drop hb9 g2.ones) (by simp) ?_;(repeat refine AW.seq_k fun K hK=>?_);refine AW.rg ?_;simp;try (refine hK _ rfl ?_;clear hK K)
     refine AW.yes ?_ rfl;(repeat refine AW.seq_k fun K hK=>?_);refine AW.rg ?_;simp;try (refine hK _ rfl ?_;clear hK K)
     exact AW.ret (Bo rfl g2.ones ⟨rfl,g2.ones⟩)
    |some z =>
     rw[hq]at hdv hst;simp only[C0]at hdv;(repeat refine AW.seq_k fun K hK=>?_);refine AW.rdT [] [7] [] [B,nb bs r] [0,1,2,3,4,5,6,7,8,9,10,11,12,13,14] C6 (by simp[hr,g2.1.top,↓hGr,hRr,hk,hrR,e1]) (by simp[hr,g2.1.top,↓hGr,hRr,hk,hrR,e1]) (by simp[hr,g2.1.top,↓hGr,hRr,hk,hrR,e1]) (by simp[hr,g2.1.top,↓hGr,hRr,hk,hrR,e1]) (by simp[hr,g2.1.top,↓hGr,hRr,hk,hrR,e1]) ?_;simp[hr,g2.1.top,↓hGr,hRr,hk,hrR,e1];try (refine hK _ rfl ?_;clear hK K)
     refine Aa.val hdv ?_;simp[Gl];refine Af.intro fun b9 hb9=>?_;refine hK _ rfl ?_;clear hK K;refine AW.turn [(0,.osl B 1 0 n),(1,.int .i64 j),(2,.int .i64 r),(7,.rptr [.bool (Aq d).n1,Ao (Aq d).l1,.bool (Aq d).n2,Ao (Aq d).l2]),(8,.int .i64 (k:Nat)),(9,.rptr [.bool (Aq z).n1,Ao (Aq z).l1,.bool (Aq z).n2,Ao (Aq z).l2]),(10,.int .i64 0)] M (Ba.drop hb9 g2.ones) ?_ ?_
     ·simp;exact De hb9
     (repeat refine AW.seq_k fun K hK=>?_);refine AW.rg ?_;simp;try (refine hK _ rfl ?_;clear hK K)
     refine AW.no ?_ rfl;refine AW.skip ?_;try simp
     refine hK _ rfl ?_;clear hK K;(repeat refine AW.seq_k fun K hK=>?_);refine AW.rdT [] [9] [] [B] [0,1,2,3,4,5,6,7] C6 (by simp[hr,g2.1.top,↓hGr,hRr,hk,hrR,n0]) (by simp[hr,g2.1.top,↓hGr,hRr,hk,hrR,n0]) (by simp[hr,g2.1.top,↓hGr,hRr,hk,hrR,n0]) (by simp[hr,g2.1.top,↓hGr,hRr,hk,hrR,n0]) (by simp[hr,g2.1.top,↓hGr,hRr,hk,hrR,n0]) ?_;simp[hr,g2.1.top,↓hGr,hRr,hk,hrR,n0];try (refine hK _ rfl ?_;clear hK K)
     refine⟨row.set k z,?_,hst,Jl g4 k (Od hdq hq),by rw[List.length_set];exact g5⟩;have hs:=g2.setRow (i:=r) (r:=row.set k z) (by rw[List.length_set];exact hxr) (by rw[List.length_set,Fo hxr,if_pos rfl]);rw[List.set_set,List.map_set,←Er]at hs;exact hs
   rintro⟨M,row⟩ ⟨q1,q2,q3,q4⟩;(repeat refine AW.seq_k fun K hK=>?_);refine AW.rg ?_;simp[-Int.natCast_add,w1];try (refine hK _ rfl ?_;clear hK K)
   exact⟨k+1,M,⟨hk,row,q1,q2,q3,q4⟩,by omega,rfl,rfl⟩
  ·refine AW.exit ?_;try simp
   have:k=w:=by omega
   subst this;exact⟨row,g2,g3,g4,g5⟩
 rintro⟨M1,row⟩ ⟨g2,g3,g4,g5⟩;simp only at g2 g3 g4 g5;rw[g3];have hG1:Bp n w (X.set r row):=hG.set r ⟨g4,g5⟩;show AW _ _ (Ms _ _ (Zd B bs (A3 (Bi r j) n (X.set r row)))) _
 have hM1:=g2;generalize X.set r row=X1 at *;clear g2 g3 g4 g5;refine AW.seq_ex (ι:=Ac × List (List Rat)) (fun _=>[(0,.osl B 1 0 n),(1,.int .i64 j),(2,.int .i64 r),(7,.rptr [.bool (Aq d).n1,Ao (Aq d).l1,.bool (Aq d).n2,Ao (Aq d).l2])]) (fun z=>z.1) (fun z=>Mu z.1 B bs z.2∧A3 (Bi r j) n X1=some z.2) ?_ ?_
 ·(repeat refine AW.seq_k fun K hK=>?_);refine AW.rg ?_;simp;try (refine hK _ rfl ?_;clear hK K)
  refine AW.block (AW.loopS (ι:=Nat × Ac × List (List Rat)) (fun z=>[(0,.osl B 1 0 n),(1,.int .i64 j),(2,.int .i64 r),(7,.rptr [.bool (Aq d).n1,Ao (Aq d).l1,.bool (Aq d).n2,Ao (Aq d).l2]),(11,.int .i64 (z.1:Nat))]) (fun z=>z.2.1) (fun z=>z.1≤n∧Mu z.2.1 B bs z.2.2∧A3 (Bi r j) z.1 X1=some z.2.2∧Bp n w z.2.2) (fun z=>n-z.1) (0,M1,X1) ⟨by simp,hM1,rfl,hG1⟩ rfl (by simp) ?_);rintro⟨i,M,Y⟩ ⟨g1,g2,g3,g4⟩;simp only at g1 g2 g3 g4;(repeat refine AW.seq_k fun K hK=>?_);refine AW.rg ?_;simp;try (refine hK _ rfl ?_;clear hK K)
  (repeat refine AW.seq ?_);refine AW.cs (fun hi=>?_) (fun hi=>?_) rfl<;>(try simp at hi)
  ·refine AW.skip ?_;try simp
   refine hK _ rfl ?_;clear hK K;have w1:=Au (i+1) (by omega);have hiE:i<(Be Y).length:=by rw[A1,g4.2.2];exact hi
   have hrE':r<(Be Y).length:=by rw[A1,g4.2.2];exact hr
   have hli:(Aj (Be Y) i).length=w:=by rw[Bq,List.length_map];exact(g4.row hi).2
   have hlr':(Aj (Be Y) r).length=w:=by rw[Bq,List.length_map];exact(g4.row hr).2
   have hji:j<(Aj Y i).length:=by rw[(g4.row hi).2];exact hj
   have ef:rr (Aj (Be Y) i) j=Aq (B4 Y i j):=by rw[Bq,Ew hji];rfl
   have gf:Bu (B4 Y i j):=g4.1.at hji;have hsg:=Lz (Aq (B4 Y i j)) (D9 _);rw[Ma gf]at hsg;have hst:A3 (Bi r j) (i+1) X1=Bi r j i Y:=by rw[Cq,g3];rfl
   refine AW.seq_ex (ι:=Ac × List (List Rat)) (fun _=>[(0,.osl B 1 0 n),(1,.int .i64 j),(2,.int .i64 r),(7,.rptr [.bool (Aq d).n1,Ao (Aq d).l1,.bool (Aq d).n2,Ao (Aq d).l2]),(11,.int .i64 (i:Nat))]) (fun z=>z.1) (fun z=>Mu z.1 B bs z.2∧A3 (Bi r j) (i+1) X1=some z.2∧Bp n w z.2) ?_ ?_
   ·(repeat refine AW.seq ?_);refine AW.block ?_;(repeat refine AW.seq_k fun K hK=>?_);refine AW.rg ?_;simp[hi,g2.1.top,↓g2.1.get hiE,g2.1.row i hiE,hli,hj,ef];try (refine hK _ rfl ?_;clear hK K)
    refine Af.intro fun b12 hb12=>?_;refine hK _ rfl ?_;clear hK K;refine AW.turn [(0,.osl B 1 0 n),(1,.int .i64 j),(2,.int .i64 r),(7,.rptr [.bool (Aq d).n1,Ao (Aq d).l1,.bool (Aq d).n2,Ao (Aq d).l2]),(11,.int .i64 (i:Nat)),(12,.rptr [.bool (Aq (B4 Y i j)).n1,Ao (Aq (B4 Y i j)).l1,.bool (Aq (B4 Y i j)).n2,Ao (Aq (B4 Y i j)).l2])] M (Ba.drop hb12 g2.ones) ?_ ?_
    ·simp;exact De hb12
    refine AW.seq_ex (ι:=Unit) (fun _=>[(0,.osl B 1 0 n),(1,.int .i64 j),(2,.int .i64 r),(7,.rptr [.bool (Aq d).n1,Ao (Aq d).l1,.bool (Aq d).n2,Ao (Aq d).l2]),(11,.int .i64 (i:Nat)),(12,.rptr [.bool (Aq (B4 Y i j)).n1,Ao (Aq (B4 Y i j)).l1,.bool (Aq (B4 Y i j)).n2,Ao (Aq (B4 Y i j)).l2])]) (fun _=>M) (fun _=>i≠r∧Qay (B4 Y i j)≠0) ?_ ?_
    ·by_cases hir:i=r
     ·(repeat refine AW.seq_k fun K hK=>?_);refine AW.rg ?_;simp[hir];try (refine hK _ rfl ?_;clear hK K)
      refine AW.yes ?_ rfl;refine AW.exit ?_;try simp
      exact⟨M,⟨Y,g2,by rw[hst];exact if_pos (.inl hir),g4⟩,by simp[hir]⟩
     ·(repeat refine AW.seq_k fun K hK=>?_);refine AW.rg ?_;simp[hir];try (refine hK _ rfl ?_;clear hK K)
      refine Aa.val hsg ?_;simp;refine hK _ rfl ?_;clear hK K;(repeat refine AW.seq ?_);refine AW.cs (fun h0=>?_) (fun h0=>?_) rfl<;>(try simp at h0)
      ·refine AW.exit ?_;try simp
       exact⟨Y,g2,by rw[hst];exact if_pos (.inr (Ig.1 h0)),g4⟩
      ·refine AW.skip ?_;try simp
       exact⟨hir,h0⟩
    rintro _ ⟨h1,h2⟩;have hel:Bi r j i Y=(A3 (Dy (Aj Y r) (B4 Y i j)) w (Aj Y i)).map (Y.set i):=by
     unfold Bi;rw[if_neg (by rintro(h | h);exact h1 h;exact h2 (Ig.2 h)),(g4.row hi).2]
    have hne:nb bs i≠nb bs r:=fun h=>h1 (Qb9 g2.1.nd (by rw[g2.1.len];exact hiE) (by rw[g2.1.len];exact hrE') h);have hsub:=Vh (nb bs i) (nb bs r) (Aj Y i) (Aj Y r) (B4 Y i j) w 0 hne (g4.row hi).1 (g4.row hi).2 (g4.row hr).1 (g4.row hr).2 gf (by omega) hw;rw[Qcw,Nat.sub_zero]at hsub;have hMi:=g2.1.row i hiE;have hMr:=g2.1.row r hrE';rw[Bq]at hMi hMr;rw[←Qjx hMi hMr hne]at hsub;have nBi:=g2.1.ne hiE;have nBr:=g2.1.ne hrE';(repeat refine AW.seq_k fun K hK=>?_);refine AW.rdT [] [12] [] [B] [0,1,2,3,4,5,6,7,8,9,10] C6 (by simp[hi,hr,g2.1.top,↓g2.1.get hiE,↓g2.1.get hrE',hli,hlr']) (by simp[hi,hr,g2.1.top,↓g2.1.get hiE,↓g2.1.get hrE',hli,hlr']) (by simp[hi,hr,g2.1.top,↓g2.1.get hiE,↓g2.1.get hrE',hli,hlr']) (by simp[hi,hr,g2.1.top,↓g2.1.get hiE,↓g2.1.get hrE',hli,hlr']) (by simp[hi,hr,g2.1.top,↓g2.1.get hiE,↓g2.1.get hrE',hli,hlr']) ?_
    simp[hi,hr,g2.1.top,↓g2.1.get hiE,↓g2.1.get hrE',hli,hlr'];try (refine hK _ rfl ?_;clear hK K)
    refine Aa.hand [nb bs i,nb bs r] (by simp[nBi,nBr]) hsub ?_;intro v g hv hf;cases hit:A3 (Dy (Aj Y r) (B4 Y i j)) w (Aj Y i)with
    |none =>
     rw[hit]at hv hel;obtain⟨rfl,k2,k3⟩:=hv;have hno:A3 (Bi r j) (i+1) X1=none:=by rw[hst,hel];rfl
     have hX:=Ha hno (m:=n) (by omega);have hones:Du (M.back [nb bs i,nb bs r] g):=Wf g2.ones k2;generalize M.back [nb bs i,nb bs r] g=M' at *;simp;refine hK _ rfl ?_;clear hK K;(repeat refine AW.seq_k fun K hK=>?_);refine AW.rg ?_;simp;try (refine hK _ rfl ?_;clear hK K)
     refine AW.yes ?_ rfl;(repeat refine AW.seq_k fun K hK=>?_);refine AW.rg ?_;simp;try (refine hK _ rfl ?_;clear hK K)
     rw[hX];exact AW.ret (Bo rfl hones ⟨rfl,hones⟩)
    |some row =>
     rw[hit]at hv hel;obtain⟨rfl,rfl⟩:=hv;rw[Qjq hMr hne];simp;refine hK _ rfl ?_;clear hK K;(repeat refine AW.seq_k fun K hK=>?_);refine AW.rg ?_;simp;try (refine hK _ rfl ?_;clear hK K)
     refine AW.no ?_ rfl;refine AW.skip ?_;try simp
     have hrg:=Jw (p:=fun row=>C8 row∧row.length=w) (fun k s t hs hst=>Hv (fun q k x hx=>L9 hx) hs hst) (g4.row hi) hit;exact⟨Y.set i row,g2.setRow (by rw[g4.2.2];exact hi) (by rw[hrg.2,(g4.row hi).2]),by rw[hst,hel];rfl,g4.set i hrg⟩
   rintro⟨M,Y⟩ ⟨q1,q2,q3⟩;(repeat refine AW.seq_k fun K hK=>?_);refine AW.rg ?_;simp[-Int.natCast_add,w1];try (refine hK _ rfl ?_;clear hK K)
   exact⟨i+1,M,⟨hi,Y,q1,q2,q3⟩,by omega,rfl,rfl⟩
  ·refine AW.exit ?_;try simp
   have:i=n:=by omega
   subst this;exact⟨Y,g2,g3⟩
 rintro⟨M,Y⟩ ⟨g2,g3⟩;simp only at g2 g3;rw[g3];(repeat refine AW.seq_k fun K hK=>?_);refine AW.rg ?_;simp;try (refine hK _ rfl ?_;clear hK K)
 exact AW.ret (Bo rfl g2.ones ⟨rfl,g2⟩)
end Go.Av
end
section
namespace Go.Av
open Go.Proofs
def Qlh (M:Ac) (ov:AV) (bs:List Nat) (rows:List (List RR)):Prop :=
 (rows=[]∧bs=[]∧ov=.nil∧M=Ac.emp)∨∃B,ov=.osl B 1 0 rows.length∧D7 M B bs rows∧Dc M (B::bs)
theorem D7.snoc {M':Ac} {B:Nat} {bs:List Nat} {rows:List (List RR)} {b:Nat} {r:List RR} (hl:bs.length=rows.length) (htop:M' B=some ⟨51,1,Gi bs rows++[.osl b 4 0 r.length]⟩) (hrow:∀i,i<rows.length→M' (nb bs i)=some ⟨44,4,Bg (Aj rows i)⟩) (hb:M' b=some ⟨44,4,Bg r⟩) (hnd:bs.Nodup) (hbb:b ∉ bs) (hB:B ∉ bs) (hBb:B≠b):D7 M' B (bs++[b]) (rows++[r]):=by
 refine⟨by rw[V3 hl];exact htop,by simp[hl],fun i hi=>?_,?_,?_⟩
 ·have hi':i<rows.length+1:=by simpa using hi
  rw[Qex bs b i (by rw[hl];exact hi'),V8 rows r i hi',hl];by_cases hlt:i<rows.length
  ·rw[if_pos hlt,if_pos hlt];exact hrow i hlt
  ·rw[if_neg hlt,if_neg hlt];exact hb
 ·rw[List.nodup_append];exact⟨hnd,by simp,fun x hx y hy=>by simp at hy;subst hy;exact fun e=>hbb (e ▸ hx)⟩
 ·simp only[List.mem_append,List.mem_singleton,not_or];exact⟨hB,hBb⟩
theorem Qi7 {m:Ac} {b:Nat} (h:m b=none):m.del b=m:=by
 funext k
 show(if k=b then none else m k)=m k
 split
 ·rename_i e;rw[e,h]
 ·rfl
theorem Qau (m:List (List RR)) (h1:m.length≤64) (h2:∀r∈m,r.length≤64):Ai Tryz.prog 190 [Ap m] Ac.emp fun v M=>∃bs,Qlh M v bs m:=by
 refine Ad Tryz.func190 rfl rfl 21 rfl (Nat.le_of_ble_eq_true rfl) ?_;(repeat refine AW.seq_k fun K hK=>?_);refine AW.rg ?_;simp[Al];try (refine hK _ rfl ?_;clear hK K)
 (repeat refine AW.seq_k fun K hK=>?_);refine AW.rg ?_;simp;try (refine hK _ rfl ?_;clear hK K)
 refine AW.seq_ex (ι:=Ac × AV × List Nat) (fun z=>[(3,z.2.1)]) (fun z=>z.1) (fun z=>Qlh z.1 z.2.1 z.2.2 m) ?_ ?_
 ·(repeat refine AW.seq_k fun K hK=>?_);refine AW.rg ?_;simp;try (refine hK _ rfl ?_;clear hK K)
  refine AW.block (AW.loopS (ι:=Nat × Ac × AV × List Nat) (fun z=>[(0,Ap m),(3,z.2.2.1),(4,.int .i64 (z.1:Nat))]) (fun z=>z.2.1) (fun z=>z.1≤m.length∧Qlh z.2.1 z.2.2.1 z.2.2.2 (m.take z.1)) (fun z=>m.length-z.1) (0,Ac.emp,.nil,[]) ⟨by simp,.inl ⟨by simp,rfl,rfl,rfl⟩⟩ rfl (by simp) ?_);rintro⟨i,M,ov,bs⟩ ⟨g1,g2⟩;simp only at g1 g2;(repeat refine AW.seq_k fun K hK=>?_);refine AW.rg ?_;simp;try (refine hK _ rfl ?_;clear hK K)
  (repeat refine AW.seq ?_);refine AW.cs (fun hi=>?_) (fun hi=>?_) rfl<;>(try simp at hi)
  ·refine AW.skip ?_;try simp
   refine hK _ rfl ?_;clear hK K;have w1:=Au (i+1) (by omega);have hm:Aj m i∈m:=by rw[Ea hi];exact List.getElem_mem hi
   have hrl:=h2 _ hm;have et:m.take (i+1)=m.take i++[Aj m i]:=by rw[List.take_add_one,List.getElem?_eq_getElem hi,Ea hi];rfl
   have htl:(m.take i).length=i:=by simp;omega
   refine AW.seq_ex (ι:=Ac × AV × List Nat) (fun z=>[(0,Ap m),(3,z.2.1),(4,.int .i64 (i:Nat))]) (fun z=>z.1) (fun z=>Qlh z.1 z.2.1 z.2.2 (m.take (i+1))) ?_ ?_
   ·(repeat refine AW.seq ?_);refine AW.block ?_;rcases g2 with⟨z1,z2,z3,z4⟩ | ⟨B,z1,z2,z3⟩
    ·subst z2 z3 z4;rw[z1]at htl;simp at htl;subst htl;(repeat refine AW.seq_k fun K hK=>?_);refine AW.rgR [18] ?_;simp[hi];try (refine hK _ rfl ?_;clear hK K)
     refine Af.intro fun b _=>⟨by omega,by unfold maxLen;omega,Af.intro fun b' _=>⟨by unfold maxLen;omega,Af.intro fun B hB=>⟨[b'],.inr ⟨B,?_,?_,?_⟩⟩⟩⟩
     ·rw[et];simp
     ·have hBb:B≠b':=by rintro rfl;simp at hB
      rw[et,List.take_zero];exact D7.snoc (bs:=[]) (rows:=[]) rfl (by simp[Gi]) (fun i hi=>(by cases hi)) (by simp[Ne.symm hBb]) List.nodup_nil (by simp) (by simp) hBb
     ·exact(Dc.set (Dc.set (l:=[B,b']) (fun k hk=>absurd rfl hk) (by simp) _) (by simp) _)
    ·subst z1;rw[htl];(repeat refine AW.seq_k fun K hK=>?_);refine AW.rgR [18] ?_;simp[hi,z2.top];try (refine hK _ rfl ?_;clear hK K)
     refine Af.intro fun b hb=>⟨by omega,by unfold maxLen;omega,?_⟩;rw[Qi7 hb];refine Af.intro fun b' hb'=>?_;have n1:B≠b':=by rintro rfl;rw[z2.top]at hb';cases hb'
     have n2:B≠b:=by rintro rfl;rw[z2.top]at hb;cases hb
     have hl:bs.length=(m.take i).length:=z2.len;refine⟨Gi bs (m.take i),by rw[if_neg n1,if_neg n2],by rw[B8 hl,htl],by rw[B8 hl,htl];omega,by rw[B8 hl,htl];unfold maxLen;omega,?_⟩;refine Af.intro fun B1 hB1=>⟨bs++[b'],.inr ⟨B1,?_,?_,?_⟩⟩
     ·rw[B8 hl,et];simp[htl]
     ·have hbn:b' ∉ bs:=by
       intro hm';obtain⟨k,hk,e⟩:=List.mem_iff_getElem.1 hm';rw[←Im hk]at e;have:=z2.row k (by rw[←hl];exact hk);rw[e,hb']at this;cases this
      have hrow:∀k,k<(m.take i).length→(((M.set b' ⟨44,4,Bg (Aj m i)⟩).del B) (nb bs k))=some ⟨44,4,Bg (Aj (m.take i) k)⟩:=by
       intro k hk;have q1:nb bs k≠B:=z2.ne hk;have q2:nb bs k≠b':=fun e=>hbn (e ▸ Ex (by rw[hl];exact hk));show(if nb bs k=B then none else (M.set b' _) (nb bs k))=_
       rw[if_neg q1,Ac.set_other _ _ q2];exact z2.row k hk
      have hbv:((M.set b' ⟨44,4,Bg (Aj m i)⟩).del B) b'=some ⟨44,4,Bg (Aj m i)⟩:=by
       show(if b'=B then none else (M.set b' _) b')=_
       rw[if_neg (Ne.symm n1),Ac.set_same]
      have hne:∀k y,((M.set b' ⟨44,4,Bg (Aj m i)⟩).del B) k=some y→k≠B1:=by
       rintro k y hk rfl;rw[hB1]at hk;cases hk
      rw[et];refine D7.snoc hl (by simp) (fun k hk=>?_) ?_ z2.nd hbn ?_ ?_
      ·rw[Ac.set_other _ _ (hne _ _ (hrow k hk))];exact hrow k hk
      ·rw[Ac.set_other _ _ (hne _ _ hbv)];exact hbv
      ·intro hm';obtain⟨k,hk,e⟩:=List.mem_iff_getElem.1 hm';rw[←Im hk]at e;exact hne _ _ (hrow k (by rw[←hl];exact hk)) e
      ·exact Ne.symm (hne _ _ hbv)
     ·intro k hk;simp only[A6]at hk;by_cases k1:k=B1
      ·simp[k1]
      ·rw[if_neg k1]at hk;have hk2:(if k=B then none else (M.set b' ⟨44,4,Bg (Aj m i)⟩) k)≠none:=hk;by_cases k2:k=B
       ·rw[if_pos k2]at hk2;exact absurd rfl hk2
       ·rw[if_neg k2]at hk2;by_cases k3:k=b'
        ·simp[k3]
        ·rw[Ac.set_other _ _ k3]at hk2;have:=z3 k hk2;simp[k2]at this;simp[this]
   rintro⟨M,ov,bs⟩ hs;(repeat refine AW.seq_k fun K hK=>?_);refine AW.rg ?_;simp[-Int.natCast_add,w1];try (refine hK _ rfl ?_;clear hK K)
   exact⟨i+1,M,ov,⟨hi,bs,hs⟩,by omega,rfl,rfl,rfl⟩
  ·refine AW.exit ?_;try simp
   have:i=m.length:=by omega
   subst this;rw[List.take_length]at g2;exact⟨bs,g2⟩
 rintro⟨M,ov,bs⟩ hs;simp only at hs;(repeat refine AW.seq_k fun K hK=>?_);refine AW.rg ?_;simp;try (refine hK _ rfl ?_;clear hK K)
 refine AW.ret (Bo rfl ?_ ⟨bs,hs⟩);rcases hs with⟨_,_,_,z4⟩ | ⟨B,_,z2,z3⟩
 ·intro b y hy;rw[z4]at hy;cases hy
 ·exact z2.ones (l:=[]) z3 (by simp)
end Go.Av
end
section
namespace Go.Av
open Go.Proofs
structure Kv (M:Ac) (B:Nat) (bs:List Nat) (X:List (List Rat)) (pv:AV) (pb ps:List Nat):Prop where
 mat:D7 M B bs (Be X)
 piv:Yc M pv pb ps
 npb:∀b∈pb,b ∉ B::bs
 ones:Du M
section
variable {M:Ac} {B:Nat} {bs:List Nat} {X:List (List Rat)} {pv:AV} {pb ps:List Nat}
theorem Kv.ref (h:Kv M B bs X pv pb ps):Mu (M.only (B::bs)) B bs X:=⟨h.mat.only fun b hb=>by simpa using hb,Tl _ _⟩
theorem Kv.back (h:Kv M B bs X pv pb ps) {g:Ac} {X':List (List Rat)} (hg:Mu g B bs X'):Kv (M.back (B::bs) g) B bs X' pv pb ps :=
 ⟨hg.1.back _,h.piv.keep fun b hb=>Ge (hg.2.none (h.npb b hb)) (h.npb b hb),h.npb,Wf h.ones hg.ones⟩
theorem Kv.swap (h:Kv M B bs X pv pb ps) {i r:Nat} (hi:i<X.length) (hr:r<X.length) :
  Kv (M.set B ⟨51,1,((Gi bs (Be X)).set i (.osl (nb bs r) 4 0 (Aj (Be X) r).length)).set r (.osl (nb bs i) 4 0 (Aj (Be X) i).length)⟩) B (Fk bs i r) (Cl X i r) pv pb ps:=by
 have hiE:i<(Be X).length:=by rw[A1];exact hi
 have hrE:r<(Be X).length:=by rw[A1];exact hr
 have hb:∀b,b∈Fk bs i r↔b∈bs:=fun b=>Mo (by rw[h.mat.len];exact hiE) (by rw[h.mat.len];exact hrE) b;refine⟨by rw[Qaz];exact h.mat.swap hiE hrE,h.piv.keep fun b hb'=>?_,fun b hb'=>?_,Du.set h.ones B fun v hv=>?_⟩
 ·simp only[A6];rw[if_neg (by rintro rfl;exact h.npb _ hb' (by simp))]
 ·have:=h.npb b hb';simpa[hb]using this
 ·rcases List.mem_or_eq_of_mem_set hv with hv|rfl
  ·rcases List.mem_or_eq_of_mem_set hv with hv|rfl
   ·exact Wp bs (Be X) v hv
   ·rfl
  ·rfl
theorem Kv.fresh (h:Kv M B bs X pv pb ps) {b:Nat} (hb:M b=none):b ∉ B::bs:=by
 intro hm;rcases List.mem_cons.1 hm with rfl | hm
 ·rw[h.mat.top]at hb;cases hb
 ·obtain⟨k,hk,e⟩:=List.mem_iff_getElem.1 hm;rw[←Im hk]at e;have:=h.mat.row k (by rw[←h.mat.len];exact hk);rw[e,hb]at this;cases this
theorem Kv.push0 (h:Kv M B bs X .nil [] []) {b:Nat} (hb:M b=none) (j:Nat):Kv (M.set b ⟨3,1,[.int .i64 (j:Nat)]⟩) B bs X (.osl b 1 0 1) [b] [j]:=by
 have hn:=h.fresh hb;have h1:b≠B:=fun e=>hn (by simp[e]);have h2:b ∉ bs:=fun e=>hn (by simp[e]);exact⟨h.mat.other h1 h2 _,.inr ⟨b,rfl,rfl,by simp[Ax]⟩,fun a ha=>by simp at ha;subst ha;exact hn,h.ones.set b fun v hv=>by simp at hv;subst hv;rfl⟩
theorem Kv.push1 {b0:Nat} (h:Kv M B bs X (.osl b0 1 0 ps.length) [b0] ps) {b:Nat} (hb:(M.del b0) b=none) (j:Nat):Kv ((M.del b0).set b ⟨3,1,Ax ps++[.int .i64 (j:Nat)]⟩) B bs X (.osl b 1 0 (ps.length+1)) [b] (ps++[j]):=by
 have h0:=h.npb b0 (by simp);have hh:Kv (M.del b0) B bs X .nil [] []:=by
  have hdel:∀a,a≠b0→(M.del b0) a=M a:=fun a ha=>if_neg ha;refine⟨⟨by rw[hdel B (by rintro rfl;exact h0 (by simp))];exact h.mat.top,h.mat.len,fun i hi=>?_,h.mat.nd,h.mat.nB⟩,.inl ⟨rfl,rfl,rfl⟩,by simp,h.ones.del b0⟩;rw[hdel _ (fun e=>h0 (e ▸ List.mem_cons_of_mem _ (Ex (by rw[h.mat.len];exact hi))))];exact h.mat.row i hi
 have hn:=hh.fresh hb;have h1:b≠B:=fun e=>hn (by simp[e]);have h2:b ∉ bs:=fun e=>hn (by simp[e]);refine⟨hh.mat.other h1 h2 _,.inr ⟨b,rfl,by simp,by simp[Ek]⟩,fun a ha=>by simp at ha;subst ha;exact hn,hh.ones.set b fun v hv=>?_⟩;rcases List.mem_append.1 hv with hv | hv
 ·exact Cu ps v hv
 ·simp at hv;subst hv;rfl
end
structure Qmz where
 X:List (List Rat)
 ps:List Nat
 M:Ac
 bs:List Nat
 pv:AV
 pb:List Nat
def Qrq (X0:List (List Rat)) (B w j:Nat) (s:Qmz):Prop :=
 A3 Cb j (X0,[])=some (s.X,s.ps)∧Bp X0.length w s.X∧s.ps.length≤X0.length∧Kv s.M B s.bs s.X s.pv s.pb s.ps
set_option maxHeartbeats 1000000
theorem Yj (m:List (List RR)) (hm:Sb m):Ai Tryz.prog 153 [Ap m] Ac.emp fun v mm=>v=.tup [Ap (Be (Ei m).2.1),.sl 1 (Ax (Ei m).2.2),.int .i64 (Ei m).1]∧mm=Ac.emp:=by
 have hck:=Qao m hm;by_cases h0:Uz m=0
 ·obtain⟨h1,h2,h3,h4,h5⟩:=Sg hm h0;have hR:Ei m=match Ep (P9 m)with
   |none=>(2,[],[])
   |some z=>(0,z.1,z.2):=by unfold Ei;rw[if_neg (by simp[h0])];rfl
  have hlen:=Fv m;rw[h0]at hck;have e0:(Aj (P9 m) 0).length=(Aj m 0).length:=by rw[G3,List.length_map]
  have hcl:=Qau m h4 (fun r hr=>by
   obtain⟨i,hi,rfl⟩:=Xj hr;have:=h3 i (by rw[hlen];exact hi);rw[G3,List.length_map]at this;omega)
  have hwid:=Oz m;rw[hR];clear hR;rw[e0]at h3 h5;have hq:Ep (P9 m)=A3 Cb (Aj m 0).length (P9 m,[]):=by unfold Ep;rw[e0]
  generalize(Aj m 0).length=w at *;generalize P9 m=X0 at *;subst h1;rw[A1]at *;rw[hq];refine Ad Tryz.func153 rfl rfl 62 rfl (Nat.le_of_ble_eq_true rfl) ?_;(repeat refine AW.seq_k fun K hK=>?_);refine AW.rg ?_;simp[Al];try (refine hK _ rfl ?_;clear hK K)
  (repeat refine AW.seq_k fun K hK=>?_);refine AW.rg ?_;simp;try (refine hK _ rfl ?_;clear hK K)
  refine Aa.val hck ?_;simp;refine hK _ rfl ?_;clear hK K;(repeat refine AW.seq_k fun K hK=>?_);refine AW.rg ?_;simp;try (refine hK _ rfl ?_;clear hK K)
  refine AW.no ?_ rfl;refine AW.skip ?_;try simp
  refine hK _ rfl ?_;clear hK K;(repeat refine AW.seq_k fun K hK=>?_);refine AW.rg ?_;simp;try (refine hK _ rfl ?_;clear hK K)
  refine Aa.news hcl ?_;rintro v g ⟨bs0,hcop⟩ hf;have eb:Ac.emp.back [] g=g:=by
   funext k
   cases hk:g k with
   |some y=>exact Jp hk
   |none=>rw[Ge hk (by simp)];rfl
  rw[eb];clear eb hf;rcases hcop with⟨c1,c2,rfl,rfl⟩ | ⟨B,rfl,c2,c3⟩
  ·have hX:X0=[]:=by
    cases X0 with
    |nil=>rfl
    |cons a l=>simp[Be]at c1
   subst hX;have hw0:w=0:=by rw[←e0];rfl
   subst hw0;simp;refine hK _ rfl ?_;clear hK K;(repeat refine AW.seq_k fun K hK=>?_);refine AW.rg ?_;simp;try (refine hK _ rfl ?_;clear hK K)
   refine AW.seq_ex (ι:=Unit) (fun _=>[(6,.nil),(7,.nil)]) (fun _=>Ac.emp) (fun _=>True) ?_ ?_
   ·(repeat refine AW.seq_k fun K hK=>?_);refine AW.rg ?_;simp;try (refine hK _ rfl ?_;clear hK K)
    refine AW.block (AW.loopS (ι:=Nat) (fun i=>[(0,Ap (Be [])),(6,.nil),(7,.nil),(8,.int .i64 0)]) (fun _=>Ac.emp) (fun _=>True) (fun i=>0) 0 trivial rfl (by simp) ?_);rintro i -;(repeat refine AW.seq_k fun K hK=>?_);refine AW.rg ?_;simp;try (refine hK _ rfl ?_;clear hK K)
    refine Aa.val hwid ?_;simp;refine hK _ rfl ?_;clear hK K;refine AW.no ?_ rfl;refine AW.exit ?_;try simp
   rintro _ -;(repeat refine AW.seq_k fun K hK=>?_);refine AW.rg ?_;simp;try (refine hK _ rfl ?_;clear hK K)
   exact AW.ret (Ae [Ap [],.sl 1 [],.int .i64 0] rfl ⟨.nilsl 1,.nilsl 1,.same _,trivial⟩ ⟨rfl,rfl⟩)
  ·rw[A1];simp;refine hK _ rfl ?_;clear hK K;(repeat refine AW.seq_k fun K hK=>?_);refine AW.rg ?_;simp;try (refine hK _ rfl ?_;clear hK K)
   generalize hn:X0.length=n at *;have hX0:Bp n w X0:=⟨h2,h3,hn⟩;refine AW.seq_ex (ι:=Qmz) (fun s=>[(6,.osl B 1 0 n),(7,s.pv)]) (fun s=>s.M) (fun s=>Qrq X0 B w w s) ?_ ?_
   ·(repeat refine AW.seq_k fun K hK=>?_);refine AW.rg ?_;simp;try (refine hK _ rfl ?_;clear hK K)
    refine AW.block (AW.loopS (ι:=Nat × Qmz) (fun z=>[(0,Ap (Be X0)),(6,.osl B 1 0 n),(7,z.2.pv),(8,.int .i64 (z.1:Nat))]) (fun z=>z.2.M) (fun z=>z.1≤w∧Qrq X0 B w z.1 z.2) (fun z=>w-z.1) (0,⟨X0,[],g,bs0,.nil,[]⟩) ⟨by simp,rfl,by rw[hn];exact hX0,by simp,⟨c2,.inl ⟨rfl,rfl,rfl⟩,by simp,Mu.ones ⟨c2,c3⟩⟩⟩ rfl (by simp) ?_);rintro⟨j,X,ps,M,bs,pv,pb⟩ ⟨g1,g2,g3,g4,g5⟩;simp only at g1 g2 g3 g4 g5;rw[hn]at g3 g4;(repeat refine AW.seq_k fun K hK=>?_);refine AW.rg ?_;simp;try (refine hK _ rfl ?_;clear hK K)
    refine Aa.val hwid ?_;simp;refine hK _ rfl ?_;clear hK K;(repeat refine AW.seq ?_);refine AW.cs (fun hj=>?_) (fun hj=>?_) rfl<;>(try simp at hj)
    ·refine AW.skip ?_;try simp
     refine hK _ rfl ?_;clear hK K;have w1:=Au (j+1) (by omega);have hlen':=g5.piv.len;have hnX:X.length=n:=g3.2.2;refine AW.seq_ex (ι:=Qmz) (fun s=>[(0,Ap (Be X0)),(6,.osl B 1 0 n),(7,s.pv),(8,.int .i64 (j:Nat))]) (fun s=>s.M) (fun s=>Qrq X0 B w (j+1) s) ?_ ?_
     ·(repeat refine AW.seq ?_);refine AW.block ?_;(repeat refine AW.seq_k fun K hK=>?_);refine AW.rg ?_;simp[hlen'];try (refine hK _ rfl ?_;clear hK K)
      have hp:=Qa0 (Be X) (I7 X) w j ps.length (Xt g3.2.1) hj (by rw[A1];omega) (by omega) (by omega);rw[Qag g3.1 g3.2.1 hj]at hp;have hvw:=g5.mat.view;rw[A1,hnX]at hvw;have hcol:A3 Cb (j+1) (X0,[])=Cb j (X,ps):=by rw[Cq,g2];rfl
      (repeat refine AW.seq_k fun K hK=>?_);refine AW.rg ?_;simp;try (refine hK _ rfl ?_;clear hK K)
      refine Aa.borrow [Ap (Be X),.int .i64 j,.int .i64 ps.length] ⟨hvw,.same _,.same _,trivial⟩ hp ?_;rintro _ rfl;refine⟨rfl,?_⟩;simp;refine hK _ rfl ?_;clear hK K;cases hpq:Ts X j ps.length with
      |none =>
       unfold Qp9;(repeat refine AW.seq_k fun K hK=>?_);refine AW.rg ?_;simp;try (refine hK _ rfl ?_;clear hK K)
       refine AW.yes ?_ rfl;refine AW.exit ?_;try simp
       refine⟨⟨X,ps,M,bs,pv,pb⟩,⟨?_,by rw[hn];exact g3,by rw[hn];exact g4,g5⟩,by simp⟩;rw[hcol];unfold Cb;simp only[hpq]
      |some i =>
       obtain⟨p1,p2,p3⟩:=Mf hpq;rw[hnX]at p1;have hr:ps.length<n:=by omega
       have hcol:A3 Cb (j+1) (X0,[])=(Fh (Cl X i ps.length) j ps.length).map fun M=>(M,ps++[j]):=by rw[hcol];unfold Cb;simp only[hpq]
       have hiE:i<(Be X).length:=by rw[A1,hnX];exact p1
       have hrE:ps.length<(Be X).length:=by rw[A1,hnX];exact hr
       have hhl:=B8 g5.mat.len;rw[A1,hnX]at hhl;have hsw:=g5.swap (i:=i) (r:=ps.length) (by omega) (by omega);have hG:=g3.swap p1 hr;have hdq:B4 (Cl X i ps.length) ps.length j≠0:=by
        unfold B4;rw[H4 (by omega) (by omega),if_pos rfl];exact p3
       unfold Qp9;(repeat refine AW.seq_k fun K hK=>?_);refine AW.rg ?_;simp;try (refine hK _ rfl ?_;clear hK K)
       refine AW.no ?_ (by simp);refine AW.skip ?_;try simp
       refine hK _ rfl ?_;clear hK K;(repeat refine AW.seq_k fun K hK=>?_);refine AW.rg ?_;simp[p1,g5.mat.top,↓g5.mat.get hiE];try (refine hK _ rfl ?_;clear hK K)
       (repeat refine AW.seq_k fun K hK=>?_);refine AW.rg ?_;simp[p1,hr,g5.mat.top,↓g5.mat.get hrE,hhl];try (refine hK _ rfl ?_;clear hK K)
       (repeat refine AW.seq_k fun K hK=>?_);refine AW.rg ?_;simp[p1,hr,hhl];try (refine hK _ rfl ?_;clear hK K)
       generalize M.set B ⟨51,1,((Gi bs (Be X)).set i (.osl (nb bs ps.length) 4 0 (Aj (Be X) ps.length).length)).set ps.length (.osl (nb bs i) 4 0 (Aj (Be X) i).length)⟩=M1 at *;generalize Cl X i ps.length=X1 at *;generalize Fk bs i ps.length=bs1 at *;have hc:=Qct _ B bs1 X1 n w j ps.length hsw.ref hG hj hr hdq (by omega) h5;(repeat refine AW.seq_k fun K hK=>?_);refine AW.rg ?_;simp;try (refine hK _ rfl ?_;clear hK K)
       refine Aa.hand (B::bs1) (by simp) hc ?_;intro v g hv _;cases hcl2:Fh X1 j ps.length with
       |none =>
        rw[hcl2]at hv hcol;obtain⟨rfl,_⟩:=hv;have hno:A3 Cb (j+1) (X0,[])=none:=hcol;have hX:=Ha hno (m:=w) (by omega);simp;refine hK _ rfl ?_;clear hK K;(repeat refine AW.seq_k fun K hK=>?_);refine AW.rg ?_;simp;try (refine hK _ rfl ?_;clear hK K)
        refine AW.yes ?_ rfl;(repeat refine AW.seq_k fun K hK=>?_);refine AW.rg ?_;simp;try (refine hK _ rfl ?_;clear hK K)
        rw[hX];exact AW.ret (Ae [Ap [],.sl 1 [],.int .i64 2] rfl ⟨.nilsl 1,.nilsl 1,.same _,trivial⟩ ⟨rfl,rfl⟩)
       |some Y =>
        rw[hcl2]at hv hcol;obtain⟨rfl,k2⟩:=hv;have k3:=hsw.back k2;generalize M1.back (B::bs1) g=M2 at *;have hGY:Bp n w Y:=N0 hr hG hdq hcl2;simp;refine hK _ rfl ?_;clear hK K;(repeat refine AW.seq_k fun K hK=>?_);refine AW.rg ?_;simp;try (refine hK _ rfl ?_;clear hK K)
        refine AW.no ?_ rfl;refine AW.skip ?_;try simp
        refine hK _ rfl ?_;clear hK K;rcases k3.piv with⟨z1,z2,z3⟩ | ⟨b0,z2,z3,z4⟩
        ·subst z1 z2 z3;(repeat refine AW.seq_k fun K hK=>?_);refine AW.rgR [58] ?_;simp;try (refine hK _ rfl ?_;clear hK K)
         exact⟨by unfold maxLen;omega,Af.intro fun b hb=>⟨⟨Y,[j],_,bs1,.osl b 1 0 1,[b]⟩,⟨hcol,by rw[hn];exact hGY,by rw[hn];simp;omega,k3.push0 hb j⟩,rfl,rfl⟩⟩
        ·subst z2 z3;have hps:ps.length<2^40:=by omega
         (repeat refine AW.seq_k fun K hK=>?_);refine AW.rgR [58] ?_;simp[z4];try (refine hK _ rfl ?_;clear hK K)
         exact⟨by omega,by unfold maxLen;omega,Af.intro fun b hb=>⟨⟨Y,ps++[j],_,bs1,.osl b 1 0 (ps.length+1),[b]⟩,⟨hcol,by rw[hn];exact hGY,by rw[hn];simp;omega,k3.push1 hb j⟩,rfl,rfl⟩⟩
     rintro⟨X,ps,M,bs,pv,pb⟩ hs;(repeat refine AW.seq_k fun K hK=>?_);refine AW.rg ?_;simp[-Int.natCast_add,w1];try (refine hK _ rfl ?_;clear hK K)
     exact⟨j+1,⟨X,ps,M,bs,pv,pb⟩,⟨hj,hs⟩,by omega,by simp⟩
    ·refine AW.exit ?_;try simp
     have:j=w:=by omega
     subst this;exact⟨⟨X,ps,M,bs,pv,pb⟩,⟨g2,by rw[hn];exact g3,by rw[hn];exact g4,g5⟩,by simp⟩
   rintro⟨X,ps,M,bs,pv,pb⟩ ⟨g2,g3,g4,g5⟩;simp only at g2 g3 g4 g5;rw[g2];have hv:=g5.mat.view;rw[A1,g3.2.2,hn]at hv;(repeat refine AW.seq_k fun K hK=>?_);refine AW.rg ?_;simp;try (refine hK _ rfl ?_;clear hK K)
   exact AW.ret (Ae [Ap (Be X),.sl 1 (Ax ps),.int .i64 0] rfl ⟨hv,g5.piv.view,.same _,trivial⟩ ⟨rfl,rfl⟩)
 ·have hR:Ei m=(Uz m,[],[]):=by unfold Ei;rw[if_pos h0]
  rw[hR];generalize Uz m=e at *;refine Ad Tryz.func153 rfl rfl 62 rfl (Nat.le_of_ble_eq_true rfl) ?_;(repeat refine AW.seq_k fun K hK=>?_);refine AW.rg ?_;simp[Al];try (refine hK _ rfl ?_;clear hK K)
  (repeat refine AW.seq_k fun K hK=>?_);refine AW.rg ?_;simp;try (refine hK _ rfl ?_;clear hK K)
  refine Aa.val hck ?_;simp;refine hK _ rfl ?_;clear hK K;(repeat refine AW.seq_k fun K hK=>?_);refine AW.rg ?_;simp[h0];try (refine hK _ rfl ?_;clear hK K)
  refine AW.yes ?_ rfl;(repeat refine AW.seq_k fun K hK=>?_);refine AW.rg ?_;simp;try (refine hK _ rfl ?_;clear hK K)
  exact AW.ret (Ae [Ap [],.sl 1 [],.int .i64 e] rfl ⟨.nilsl 1,.nilsl 1,.same _,trivial⟩ ⟨rfl,rfl⟩)
end Go.Av
end
