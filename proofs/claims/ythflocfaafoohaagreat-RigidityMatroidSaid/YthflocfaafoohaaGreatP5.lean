/- A part of the proof. -/
import Derived.Test.YthflocfaafoohaaGreatP4
import Derived.ProofKit
import Derived.OpenShut
import Derived.Deep.Slices
set_option linter.all false
set_option exponentiation.threshold 5000
set_option maxRecDepth 10000
section
namespace Go.Av
open Go.Proofs Go.Lam
theorem Rb {p:Nat→Bool}:∀{s t:List Nat},s.Nodup→(∀x∈s,x∈t)→s.countP p≤t.countP p
 |[],t,_,_=>by simp
 |a::s,t,hn,h=>by
  obtain⟨h1,h2⟩:=List.nodup_cons.1 hn;have hp:t.Perm (a::t.erase a):=List.perm_cons_erase (h a (by simp));have:=Rb (p:=p) (s:=s) (t:=t.erase a) h2 fun x hx=>(List.mem_erase_of_ne (fun e=>h1 (by rw[←e];exact hx))).2 (h x (by simp[hx]));rw[hp.countP_eq,List.countP_cons,List.countP_cons];omega
theorem Ly {n:Nat} {E:Nat→Ed} {s t:List Nat} (hn:s.Nodup) (h:∀x∈s,x∈t) (ht:A0 n (t.map E)):A0 n (s.map E):=ht.sub fun X=>by
 unfold spn;rw[List.countP_map,List.countP_map];exact Rb hn h
section
variable {n:Nat} {E:Nat→Ed}
theorem Qg0 {s:List Nat} (hs:∀k∈s,Cm n (E k)) {k:Nat} (hk:k∈s):∃X,C9 n ((A9 n E [] s).map E) X∧ins X (E k)=true:=by
 have hsp:=Co (n:=n) (E:=E) (out:=[]) (s:=s) (by simp) hs (A0.nil n);have hok:=N8 (n:=n) (E:=E) (out:=[]) (s:=s) (by simp) hs;by_cases h:k∈A9 n E [] s
 ·refine⟨_,Hn (fun e he=>?_) hsp (List.mem_map.2 ⟨k,h,rfl⟩),Qix⟩;obtain⟨j,hj,rfl⟩:=List.mem_map.1 he;exact hok j hj
 ·exact Ru (out:=[]) (by simp) hs (A0.nil n) k hk h
theorem Np {s t:List Nat} (hs:∀k∈s,Cm n (E k)) (ht:∀k∈t,Cm n (E k)) (h:∀k∈s,k∈t):(A9 n E [] s).length≤(A9 n E [] t).length:=by
 have h1:=N8 (n:=n) (E:=E) (out:=[]) (s:=t) (by simp) ht;have h2:=N8 (n:=n) (E:=E) (out:=[]) (s:=s) (by simp) hs;have:=Qg9 (n:=n) (L:=(A9 n E [] t).map E) (J:=(A9 n E [] s).map E) (fun e he=>by
  obtain⟨j,hj,rfl⟩:=List.mem_map.1 he;exact h1 j hj) (Co (by simp) ht (A0.nil n)) (fun e he=>by
  obtain⟨j,hj,rfl⟩:=List.mem_map.1 he;exact h2 j hj) (Co (by simp) hs (A0.nil n)) (fun e he=>by
  obtain⟨j,hj,rfl⟩:=List.mem_map.1 he;rcases He hj with h3|h3
  ·cases h3
  ·exact Qg0 ht (h j h3))
 simpa using this
theorem Yy {s t:List Nat} (hs:∀k∈s,Cm n (E k)) (h:s.Perm t):(A9 n E [] s).length=(A9 n E [] t).length:=by
 have ht:∀k∈t,Cm n (E k):=fun k hk=>hs k (h.mem_iff.2 hk);have h1:=Np hs ht fun k hk=>h.mem_iff.1 hk;have h2:=Np ht hs fun k hk=>h.mem_iff.2 hk;omega
end
section
variable {N:Nat} {es:List RE}
theorem Ot:(B3 (N:Nat) es).Nodup:=by
 unfold B3;split
 ·obtain⟨t,h1,h2⟩:=Hf (n:=(N:Int).toNat) (E:=Ae es) (List.range es.length) [];rw[h2,List.nil_append];exact List.nodup_range.sublist h1
 ·simp
theorem Qdh (h:Cg (N:Nat) es=true) {s:List Nat} (hs:∀i∈s,i<es.length) (hn:s.Nodup) (hl:s.length≤40) (hsp:A0 N (s.map (Ae es))) :
  Cg (N:Nat) (s.map (Ck es))=true∧(B3 (N:Nat) (s.map (Ck es))).length=s.length:=by
 have hc:=Xn h hs hn hl;have hok:=G1 h;simp only[Int.toNat_natCast]at hok;refine⟨hc,?_⟩;have h1:=congrArg List.length (X3 hc hs);rw[List.length_map,Int.toNat_natCast,Mi (by simp) (fun k hk=>(hok k (hs k hk)).2.2) (by simpa using hsp)]at h1;simpa using h1
theorem Qey (h:Cg (N:Nat) es=true) {s:List Nat} (hp:s.Perm (List.range es.length)) :
  Cg (N:Nat) (s.map (Ck es))=true∧(B3 (N:Nat) (s.map (Ck es))).length=(B3 (N:Nat) es).length:=by
 have hok:=G1 h;simp only[Int.toNat_natCast]at hok;have hs:∀i∈s,i<es.length:=fun i hi=>List.mem_range.1 (hp.mem_iff.1 hi);have hl:s.length=es.length:=by rw[hp.length_eq,List.length_range]
 obtain⟨⟨_,_,h40⟩,_⟩:=Dk h;have hc:=Xn h hs (hp.nodup_iff.2 List.nodup_range) (by omega);refine⟨hc,?_⟩;have h1:=congrArg List.length (X3 hc hs);rw[List.length_map,Int.toNat_natCast,Yy (fun k hk=>(hok k (hs k hk)).2.2) hp]at h1;rw[h1];unfold B3;rw[if_pos h];rfl
theorem Kv {e x:Nat} {B:List Nat} {i:Nat} (hi:i≤B.length) (h:x∈Dn N es B e i):∃j,∃(hj:j<B.length),x=B[j]∧Tc N es B e j=true:=by
 unfold Dn at h;obtain⟨j,hj,rfl⟩:=List.mem_map.1 h;obtain⟨h1,h2⟩:=List.mem_filter.1 hj;have h3:j<B.length:=by have:=List.mem_range.1 h1;omega
 exact⟨j,h3,by rw[List.getD_eq_getElem?_getD,List.getElem?_eq_getElem h3];rfl,h2⟩
theorem Qbw {e:Nat} {B:List Nat} (hB:B.Nodup):(Dn N es B e B.length).Nodup:=by
 unfold Dn;refine Dg (fun x hx y hy h=>?_) (List.nodup_range.filter _);have hx1:=List.mem_range.1 (List.mem_filter.1 hx).1;have hy1:=List.mem_range.1 (List.mem_filter.1 hy).1;rw[List.getD_eq_getElem?_getD,List.getD_eq_getElem?_getD,List.getElem?_eq_getElem hx1,List.getElem?_eq_getElem hy1]at h;simp only[Option.getD_some]at h;rcases Nat.lt_trichotomy x y with hlt | he | hgt
 ·exact absurd h (List.pairwise_iff_getElem.1 hB x y hx1 hy1 hlt)
 ·exact he
 ·exact absurd h.symm (List.pairwise_iff_getElem.1 hB y x hy1 hx1 hgt)
theorem Qfv (h:Cg (N:Nat) es=true) {e:Nat} (he:e<es.length) (hi:e ∉ B3 (N:Nat) es) {s:List Nat} {k:Nat} (hk:k<(Fh (N:Nat) es e).length) (hn:s.Nodup)
  (hs:∀x∈s,x∈Fh (N:Nat) es e∧x≠(Fh (N:Nat) es e)[k]):A0 N (s.map (Ae es)):=by
 obtain⟨hL,hS⟩:=Ob h;have hok:=G1 h;simp only[Int.toNat_natCast]at hL hS hok;have hBs:∀x∈J0 (N:Nat) es e,x∈B3 (N:Nat) es:=fun x hx=>(List.mem_filter.1 hx).1;have hBn:(J0 (N:Nat) es e).Nodup:=Ot.filter _;have hBlt:∀x∈J0 (N:Nat) es e,x<es.length:=fun x hx=>Kz (hBs x hx);have hc:Fh (N:Nat) es e=Dn N es (J0 (N:Nat) es e) e (J0 (N:Nat) es e).length++[e]:=rfl;generalize Fh (N:Nat) es e=c at *;generalize J0 (N:Nat) es e=B at *;subst hc;by_cases hkl:k<(Dn N es B e B.length).length
 ·have hck:(Dn N es B e B.length++[e])[k]=(Dn N es B e B.length)[k]:=List.getElem_append_left hkl;obtain⟨j,hj,hx,hcb⟩:=Kv (Nat.le_refl _) (List.getElem_mem hkl);rw[hck,hx]at hs;have hfr:A0 N ((B.eraseIdx j++[e]).map (Ae es)):=(Fc fun x hx=>by
   obtain⟨y,hy,rfl⟩:=List.mem_map.1 hx;rcases List.mem_append.1 hy with h1|h1
   ·exact(hok y (hBlt y (List.mem_of_mem_eraseIdx h1))).2.2
   ·simp at h1;subst h1;exact(hok _ he).2.2).1 hcb
  refine Ly hn (fun x hx=>?_) hfr;obtain⟨h1,h2⟩:=hs x hx;rcases List.mem_append.1 h1 with h3 | h3
  ·obtain⟨i,hi',rfl,_⟩:=Kv (Nat.le_refl _) h3;refine List.mem_append_left _ (List.mem_eraseIdx_iff_getElem.2 ⟨i,hi',fun hij=>?_,rfl⟩);subst hij;exact h2 rfl
  ·exact List.mem_append_right _ h3
 ·have hke:k=(Dn N es B e B.length).length:=by simp at hk;omega
  have hck:(Dn N es B e B.length++[e])[k]=e:=by subst hke;simp
  rw[hck]at hs;refine Ly hn (fun x hx=>?_) hS;obtain⟨h1,h2⟩:=hs x hx;rcases List.mem_append.1 h1 with h3 | h3
  ·obtain⟨i,hi',rfl,_⟩:=Kv (Nat.le_refl _) h3;exact hBs _ (List.getElem_mem hi')
  ·simp at h3;exact absurd h3 h2
theorem Xl {e:Nat} (hi:e ∉ B3 (N:Nat) es):(Fh (N:Nat) es e).Nodup:=by
 have hBn:(J0 (N:Nat) es e).Nodup:=Ot.filter _;have hBs:∀x∈J0 (N:Nat) es e,x∈B3 (N:Nat) es:=fun x hx=>(List.mem_filter.1 hx).1;unfold Fh;refine List.nodup_append.2 ⟨Qbw hBn,by simp,fun x hx y hy=>?_⟩;simp at hy;subst hy;obtain⟨j,hj,h1,_⟩:=Kv (Nat.le_refl _) hx;intro hxe;exact hi (by rw[←hxe,h1];exact hBs _ (List.getElem_mem hj))
theorem Qgl {e:Nat} (he:e<es.length):∀x∈Fh (N:Nat) es e,x<es.length:=fun x hx=>by
 unfold Fh at hx;rcases List.mem_append.1 hx with h1 | h1
 ·obtain⟨j,hj,rfl,_⟩:=Kv (Nat.le_refl _) h1;exact Kz (List.mem_filter.1 (List.getElem_mem hj)).1
 ·simp at h1;omega
end
end Go.Av
end
section
namespace Go.Av
open Go.Proofs Go.Lam
def Fv (c:List Nat) (k m:Nat):List Nat:=((List.range m).filter fun j=>decide (j≠k)).map fun j=>c.getD j 0
theorem Qb5 {c:List Nat} {k m:Nat} (hm:m<c.length):Fv c k (m+1)=Fv c k m++if m=k then [] else [c[m]]:=by
 unfold Fv;rw[List.range_succ,List.filter_append,List.map_append];by_cases h:m=k
 ·simp[h]
 ·simp[h,hm]
theorem Vg (c:List Nat) (k m:Nat):(Fv c k m).length≤m:=by
 unfold Fv;rw[List.length_map];exact Nat.le_trans (List.length_filter_le _ _) (by simp)
theorem Qfz {c:List Nat} (hn:c.Nodup) {k:Nat} (hk:k<c.length):(Fv c k c.length).Nodup∧∀x∈Fv c k c.length,x∈c∧x≠c[k]:=by
 have hg:∀j,j<c.length→∃h:j<c.length,c.getD j 0=c[j]:=fun j h=>⟨h,by rw[List.getD_eq_getElem?_getD,List.getElem?_eq_getElem h];rfl⟩;have hne:∀i j (hi:i<c.length) (hj:j<c.length),i≠j→c[i]≠c[j]:=fun i j hi hj hij e=>by
  rcases Nat.lt_or_ge i j with h|h
  ·exact List.pairwise_iff_getElem.1 hn i j hi hj h e
  ·exact List.pairwise_iff_getElem.1 hn j i hj hi (by omega) e.symm
 unfold Fv;refine⟨Dg (fun x hx y hy e=>?_) (List.nodup_range.filter _),fun x hx=>?_⟩
 ·obtain⟨h1,e1⟩:=hg x (List.mem_range.1 (List.mem_filter.1 hx).1);obtain⟨h2,e2⟩:=hg y (List.mem_range.1 (List.mem_filter.1 hy).1);rw[e1,e2]at e;by_cases hxy:x=y
  ·exact hxy
  ·exact absurd e (hne x y h1 h2 hxy)
 ·obtain⟨j,hj,rfl⟩:=List.mem_map.1 hx;obtain⟨h1,h2⟩:=List.mem_filter.1 hj;obtain⟨h3,e3⟩:=hg j (List.mem_range.1 h1);rw[e3];exact⟨List.getElem_mem _,hne j k h3 hk (by simpa using h2)⟩
theorem O7 {N:Nat} {es:List RE}:(B3 (N:Nat) es).length≤es.length:=by
 unfold B3;split
 ·exact Up _ _ _
 ·simp
theorem Qeg (N:Nat) (es:List RE) (e:Nat):(Fh (N:Nat) es e).length≤es.length+1:=by
 unfold Fh;have h1:=Oi N es (J0 (N:Nat) es e) e (J0 (N:Nat) es e).length;have h2:(J0 (N:Nat) es e).length≤(B3 (N:Nat) es).length:=List.length_filter_le _ _;have h3:=O7 (N:=N) (es:=es);rw[List.length_append,Int.toNat_natCast];simp;omega
theorem Qbt (N:Nat) (es:List RE) (e:Nat):∃z,(Fh (N:Nat) es e).length=z+1∧∀h:z<(Fh (N:Nat) es e).length,(Fh (N:Nat) es e)[z]'h=e:=by
 refine⟨(Dn (N:Int).toNat es (J0 (N:Nat) es e) e (J0 (N:Nat) es e).length).length,by unfold Fh;simp,fun h=>?_⟩;unfold Fh;simp
theorem Sj (N:Nat) (es:List RE) (hk:Cg (N:Nat) es=true) (hlb:Qx es) (h2:2≤N) (h24:es.length≤24):Aj Tryz.prog 26 [.int .i64 (N:Nat),A1 es,.sl 1 (An (B3 (N:Nat) es))] Aa.emp fun v m=>v=.bool true∧m=Aa.emp:=by
 obtain⟨⟨_,h12,_⟩,_⟩:=Dk hk;have hci:=fun e:Nat=>S4 (N:Nat) es (e:Nat) hlb;have hcin:=fun e=>W9 (n:=(N:Nat)) (es:=es) (e:=e) hk;have hcok:=fun e=>X9 (n:=(N:Nat)) (es:=es) (e:=e) hk;have hcR:∀e:Nat,Hl (N:Nat) es (e:Nat)=0→Ip (N:Nat) es (e:Nat)=.tup [.sl 1 (An (Fh (N:Nat) es e)),.int .i64 0]:=fun e h=>by
  unfold Ip;rw[h,if_pos rfl];rfl
 have hind:∀s:List Nat,(∀i∈s,i<es.length)→Aj Tryz.prog 13 [.int .i64 (N:Nat),A1 (s.map (Ck es))] Aa.emp fun v m=>v=.tup [.sl 1 (An (B3 (N:Nat) (s.map (Ck es)))),B6 (N:Nat) (s.map (Ck es))]∧m=Aa.emp:=fun s hs=>Gm (N:Nat) _ (Qc3 hlb hs);obtain⟨hL,hS⟩:=Ob hk;simp only[Int.toNat_natCast]at hL hS;have hcnt:=Tz hS h2;rw[List.length_map]at hcnt;unfold A1 at hci;refine Ad Tryz.func26 rfl rfl 108 rfl (Nat.le_of_ble_eq_true rfl) ?_;unfold A1;(repeat refine AW.seq_k fun K hK=>?_);refine AW.rg ?_
 simp[Ak];try (refine hK _ rfl ?_;clear hK K)
 refine AW.seq_ex (ι:=Unit) (fun _=>[(0,.int .i64 (N:Nat)),(1,.sl 6 (Bw es)),(2,.sl 1 (An (B3 (N:Nat) es)))]) (fun _=>Aa.emp) (fun _=>True) ?_ ?_
 ·(repeat refine AW.seq_k fun K hK=>?_);refine AW.rg ?_;simp;try (refine hK _ rfl ?_;clear hK K)
  refine AW.block (AW.loopS (ι:=Nat) (fun i=>[(0,.int .i64 (N:Nat)),(1,.sl 6 (Bw es)),(2,.sl 1 (An (B3 (N:Nat) es))),(7,.int .i64 (i:Nat))]) (fun _=>Aa.emp) (fun i=>i≤es.length) (fun i=>es.length-i) 0 (by simp) rfl (by simp) ?_);intro i g1;(repeat refine AW.seq_k fun K hK=>?_);refine AW.rg ?_;simp;try (refine hK _ rfl ?_;clear hK K)
  (repeat refine AW.seq ?_);refine AW.cs (fun hi=>?_) (fun hi=>?_) rfl<;>(try simp at hi)
  ·refine AW.skip ?_;try simp
   try (refine hK _ rfl ?_;clear hK K)
   have w1:=Aq (i+1) (by omega);have hcall:=hci i;by_cases hin:i∈B3 (N:Nat) es
   ·rw[Qdb (hcin i hi hin)]at hcall;(repeat refine AW.seq ?_);refine AW.block ?_;(repeat refine AW.seq_k fun K hK=>?_);refine AW.rg ?_;simp;try (refine hK _ rfl ?_;clear hK K)
    refine Ac.val hcall ?_;simp;try (refine hK _ rfl ?_;clear hK K)
    (repeat refine AW.seq_k fun K hK=>?_);refine AW.rg ?_;simp;try (refine hK _ rfl ?_;clear hK K)
    refine AW.yes ?_ rfl;refine AW.exit ?_;try simp
    (repeat refine AW.seq_k fun K hK=>?_);refine AW.rg ?_;simp[-Int.natCast_add,w1];try (refine hK _ rfl ?_;clear hK K)
    exact⟨by omega,by omega⟩
   ·rw[hcR i (hcok i hi hin)]at hcall;have cn:=Xl (N:=N) (es:=es) hin;have clt:=Qgl (N:=N) (es:=es) hi;have cless:=fun k hk' s=>Qfv (N:=N) hk hi hin (s:=s) (k:=k) hk';have cle:=Qeg N es i;have clast:=Qbt N es i;generalize Fh (N:Nat) es i=c at *;obtain⟨z,hz,hzl⟩:=clast;have hz0:¬(z+1:Nat)=0:=by omega
    have s1:IntKind.i64.wrap (((z+1:Nat):Int)-1)=((z:Nat):Int):=by rw[show((z+1:Nat):Int)-1=((z:Nat):Int) by omega];exact wi (by omega)
    have hzc:z<c.length:=by omega
    (repeat refine AW.seq ?_);refine AW.block ?_;(repeat refine AW.seq_k fun K hK=>?_);refine AW.rg ?_;simp;try (refine hK _ rfl ?_;clear hK K)
    refine Ac.val hcall ?_;simp;try (refine hK _ rfl ?_;clear hK K)
    (repeat refine AW.seq_k fun K hK=>?_);refine AW.rg ?_;simp;try (refine hK _ rfl ?_;clear hK K)
    refine AW.no ?_ rfl;refine AW.skip ?_;try simp
    try (refine hK _ rfl ?_;clear hK K)
    (repeat refine AW.seq_k fun K hK=>?_);refine AW.rg ?_;simp[-Int.natCast_add,hz,s1,hzl];try (refine hK _ rfl ?_;clear hK K)
    refine AW.no ?_ rfl;refine AW.skip ?_;try simp[-Int.natCast_add]
    try (refine hK _ rfl ?_;clear hK K)
    (repeat refine AW.seq_k fun K hK=>?_);refine AW.rg ?_;simp[-Int.natCast_add];try (refine hK _ rfl ?_;clear hK K)
    refine AW.block (AW.loopS (ι:=Nat) (fun k=>[(0,.int .i64 (N:Nat)),(1,.sl 6 (Bw es)),(2,.sl 1 (An (B3 (N:Nat) es))),(7,.int .i64 (i:Nat)),(8,.sl 1 (An c)),(10,.int .i64 (k:Nat))]) (fun _=>Aa.emp) (fun k=>k≤c.length) (fun k=>c.length-k) 0 (by simp) rfl (by simp[-Int.natCast_add]) ?_);intro k g2;(repeat refine AW.seq_k fun K hK=>?_);refine AW.rg ?_;simp;try (refine hK _ rfl ?_;clear hK K)
    (repeat refine AW.seq ?_);refine AW.cs (fun hkc=>?_) (fun hkc=>?_) rfl<;>(try simp at hkc)
    ·refine AW.skip ?_;try simp
     try (refine hK _ rfl ?_;clear hK K)
     have w2:=Aq (k+1) (by omega);obtain⟨rn,rm⟩:=Qfz cn hkc;have rl:=Vg c k c.length;obtain⟨q1,q2⟩:=Qdh hk (s:=Fv c k c.length) (fun x hx=>clt x (rm x hx).1) rn (by omega) (cless k hkc _ rn rm);have hcal:=hind (Fv c k c.length) fun x hx=>clt x (rm x hx).1;unfold B6 A1 at hcal;rw[q1]at hcal;(repeat refine AW.seq ?_);refine AW.block ?_;(repeat refine AW.seq_k fun K hK=>?_);refine AW.rg ?_;simp;try (refine hK _ rfl ?_;clear hK K)
     refine AW.seq_ex (ι:=Unit) (fun _=>[(0,.int .i64 (N:Nat)),(1,.sl 6 (Bw es)),(2,.sl 1 (An (B3 (N:Nat) es))),(7,.int .i64 (i:Nat)),(8,.sl 1 (An c)),(10,.int .i64 (k:Nat)),(11,.sl 6 (Bw ((Fv c k c.length).map (Ck es))))]) (fun _=>Aa.emp) (fun _=>True) ?_ ?_
     ·(repeat refine AW.seq_k fun K hK=>?_);refine AW.rg ?_;simp;try (refine hK _ rfl ?_;clear hK K)
      refine AW.block (AW.loopS (ι:=Nat × P6) (fun z=>[(0,.int .i64 (N:Nat)),(1,.sl 6 (Bw es)),(2,.sl 1 (An (B3 (N:Nat) es))),(7,.int .i64 (i:Nat)),(8,.sl 1 (An c)),(10,.int .i64 (k:Nat)),(11,z.2.ov),(12,.int .i64 (z.1:Nat))]) (fun z=>z.2.M) (fun z=>z.1≤c.length∧Ga z.2.M 46 6 z.2.ov z.2.ob (Bw ((Fv c k z.1).map (Ck es)))) (fun z=>c.length-z.1) (0,⟨Aa.emp,.nil,[]⟩) ⟨by simp,Ga.start _ _⟩ rfl (by simp) ?_);rintro⟨m,M,ov,ob⟩ ⟨g3,g4⟩;simp only at g3 g4;simp only;(repeat refine AW.seq_k fun K hK=>?_);refine AW.rg ?_;simp;try (refine hK _ rfl ?_;clear hK K)
      (repeat refine AW.seq ?_);refine AW.cs (fun hm=>?_) (fun hm=>?_) rfl<;>(try simp at hm)
      ·refine AW.skip ?_;try simp
       try (refine hK _ rfl ?_;clear hK K)
       have w3:=Aq (m+1) (by omega);obtain⟨x,hx⟩:∃x,c[m]=x:=⟨_,rfl⟩;have hxl:x<es.length:=by rw[←hx];exact clt _ (List.getElem_mem hm)
       have hge:¬(es.length:Int)≤(x:Int):=by omega
       have hst:=Qb5 (k:=k) hm;rw[hx]at hst;(repeat refine AW.seq ?_);refine AW.block ?_;(repeat refine AW.seq_k fun K hK=>?_);refine AW.rg ?_;simp[hm,hx,hge];try (refine hK _ rfl ?_;clear hK K)
       refine AW.no ?_ (by simp;try omega);refine AW.skip ?_;try simp
       try (refine hK _ rfl ?_;clear hK K)
       by_cases hmk:m=k
       ·rw[if_pos hmk,List.append_nil]at hst;subst hmk;(repeat refine AW.seq_k fun K hK=>?_);refine AW.rg ?_;simp;try (refine hK _ rfl ?_;clear hK K)
        refine AW.no ?_ (by simp);refine AW.skip ?_;try simp
        try (refine hK _ rfl ?_;clear hK K)
        (repeat refine AW.seq_k fun K hK=>?_);refine AW.rg ?_;simp[-Int.natCast_add,w3];try (refine hK _ rfl ?_;clear hK K)
        exact⟨m+1,⟨M,ov,ob⟩,⟨by omega,by rw[hst];exact g4⟩,by omega,rfl,rfl,rfl⟩
       ·rw[if_neg hmk]at hst;have hfin:∀s:P6,Ga s.M 46 6 s.ov s.ob (Bw ((Fv c k m).map (Ck es))++[(Ck es x).av])→Ga s.M 46 6 s.ov s.ob (Bw ((Fv c k (m+1)).map (Ck es))):=fun s h=>by
         rw[hst,List.map_append,show Bw ((Fv c k m).map (Ck es)++[x].map (Ck es))=Bw ((Fv c k m).map (Ck es))++[(Ck es x).av] by simp[Bw]];exact h
        have hll:(Bw ((Fv c k m).map (Ck es))).length≤100:=by
         have:=Vg c k m;simp;omega
        generalize Bw ((Fv c k m).map (Ck es))=LL at *;unfold RE.av at hfin;(repeat refine AW.seq_k fun K hK=>?_);refine AW.rg ?_;simp[hmk];try (refine hK _ rfl ?_;clear hK K)
        refine AW.yes ?_ (by simp[hmk]);rcases g4.lst with⟨z1,z2,z3⟩ | ⟨b0,z2,z3,z4⟩
        ·subst z1 z2 z3;(repeat refine AW.seq_k fun K hK=>?_);refine AW.rgR [84] ?_;simp[hm,hx,hxl,Bs];try (refine hK _ rfl ?_;clear hK K)
         refine⟨by unfold maxLen;omega,Ag.intro fun b hb=>?_⟩;try (refine hK _ rfl ?_;clear hK K)
         (repeat refine AW.seq_k fun K hK=>?_);refine AW.rg ?_;simp[-Int.natCast_add,w3];try (refine hK _ rfl ?_;clear hK K)
         exact⟨m+1,⟨_,_,[b]⟩,⟨by omega,hfin _ (g4.push0 b _)⟩,by omega,rfl,rfl,rfl⟩
        ·subst z2 z3;(repeat refine AW.seq_k fun K hK=>?_);refine AW.rgR [84] ?_;simp[hm,hx,hxl,Bs,z4];try (refine hK _ rfl ?_;clear hK K)
         refine⟨by omega,by unfold maxLen;omega,Ag.intro fun b hb=>?_⟩;try (refine hK _ rfl ?_;clear hK K)
         (repeat refine AW.seq_k fun K hK=>?_);refine AW.rg ?_;simp[-Int.natCast_add,w3];try (refine hK _ rfl ?_;clear hK K)
         exact⟨m+1,⟨_,_,[b]⟩,⟨by omega,hfin _ (g4.push1 b _)⟩,by omega,rfl,rfl,rfl⟩
      ·have hmc:m=c.length:=by omega
       subst hmc;refine AW.turn [(0,.int .i64 (N:Nat)),(1,.sl 6 (Bw es)),(2,.sl 1 (An (B3 (N:Nat) es))),(7,.int .i64 (i:Nat)),(8,.sl 1 (An c)),(10,.int .i64 (k:Nat)),(11,.sl 6 (Bw ((Fv c k c.length).map (Ck es))))] Aa.emp (Bj.sub fun b y hy=>by cases hy) (by simp;exact g4.lst.view (M':=Aa.emp) (fun _ _=>rfl)) ?_;refine AW.exit ?_;try simp
     rintro _ _;(repeat refine AW.seq_k fun K hK=>?_);refine AW.rg ?_;simp;try (refine hK _ rfl ?_;clear hK K)
     refine Ac.val hcal ?_;simp;try (refine hK _ rfl ?_;clear hK K)
     (repeat refine AW.seq_k fun K hK=>?_);refine AW.rg ?_;simp[q2];try (refine hK _ rfl ?_;clear hK K)
     refine AW.no ?_ (by simp[q2]);refine AW.skip ?_;try simp
     try (refine hK _ rfl ?_;clear hK K)
     (repeat refine AW.seq_k fun K hK=>?_);refine AW.rg ?_;simp[-Int.natCast_add,w2];try (refine hK _ rfl ?_;clear hK K)
     exact⟨by omega,by omega⟩
    ·refine AW.exit ?_;try simp
     (repeat refine AW.seq_k fun K hK=>?_);refine AW.rg ?_;simp[-Int.natCast_add,w1];try (refine hK _ rfl ?_;clear hK K)
     exact⟨by omega,by omega⟩
  ·refine AW.exit ?_;try simp
 rintro _ _;have hilen:(B3 (N:Nat) es).length≤40:=by have:=O7 (N:=N) (es:=es);omega
 have s2:=Aq (2*N) (by omega);have s3:IntKind.i64.wrap (((2*N:Nat):Int)-3)=((2*N-3:Nat):Int):=by rw[show((2*N:Nat):Int)-3=((2*N-3:Nat):Int) by omega];exact wi (by omega)
 (repeat refine AW.seq_k fun K hK=>?_);refine AW.rg ?_;simp[-Int.natCast_mul,s2,s3];try (refine hK _ rfl ?_;clear hK K)
 have hfin:(((B3 (N:Nat) es).length:Nat):Int)≤if 1<2*N-3 then ((2*N-3:Nat):Int) else 1:=by split<;>omega
 exact AW.ret (Af rfl _ (.same _) ⟨by simp only[oneOrTup];rw[decide_eq_true hfin];rfl,rfl⟩)
end Go.Av
end
section
namespace Go.Av
open Go.Proofs Go.Lam
def I0 (o:List Int):List AV:=o.map fun v=>.int .i64 v
@[simp] theorem Qkn (o:List Int):(I0 o).length=o.length:=by simp[I0]
@[simp] theorem Qtw {o:List Int} {i:Nat} (h:i<(I0 o).length):(I0 o)[i]=.int .i64 (o[i]'(by simpa using h)):=by simp[I0]
theorem Qgv (l:List RE) (k:Nat):(Bw l).take k=Bw (l.take k):=by simp[Bw]
theorem Qf7 (l:List RE) (k:Nat):(Bw l).drop k=Bw (l.drop k):=by simp[Bw]
theorem Sz (o:List RE):∀x∈Bw o,x.cells.length=6∧∀y∈x.cells,y.one=true:=fun x hx=>by
 obtain⟨e,_,rfl⟩:=List.mem_map.1 hx;exact⟨e.av_len,List.all_eq_true.1 e.av_ones⟩
def T3 (es:List RE) (I:List Nat) (i:Nat):List RE:=(I.take i).map (Ck es)
structure Qv2 where
 M:Aa
 ov:AV
 ob:List Nat
 s:List Nat
 t:List Nat
theorem Th (j:Int) (l:List RE) (o:List Int) (hl:Qx l∧l.length<2^63):Aj Tryz.prog 6 [.int .i64 j,A1 l,.sl 1 (I0 o)] Aa.emp fun v m=>v=.bool true∧m=Aa.emp:=by
 obtain⟨rj,_,hj⟩:=Vo j;have hwk:=Wm;obtain⟨N,hN⟩:∃N,2+rj % 6=N:=⟨_,rfl⟩;have hN2:2≤N:=by omega
 have hN8:N≤8:=by omega
 have hap:=Qch N l hN2 hN8 hl.2;have wN:IntKind.i64.wrap (2+(rj:Int).tmod 6)=(N:Nat):=by
  rw[show(rj:Int).tmod 6=((rj % 6:Nat):Int) from rfl,←hN];exact wi (a:=2+rj % 6) (by omega)
 refine Ad Tryz.func6 rfl rfl 155 rfl (Nat.le_of_ble_eq_true rfl) ?_;unfold A1 at *;(repeat refine AW.seq_k fun K hK=>?_);refine AW.rg ?_;simp[Ak];try (refine hK _ rfl ?_;clear hK K)
 (repeat refine AW.seq_k fun K hK=>?_);refine AW.rg ?_;simp[hj,wN];try (refine hK _ rfl ?_;clear hK K)
 (repeat refine AW.seq_k fun K hK=>?_);refine AW.rg ?_;simp;try (refine hK _ rfl ?_;clear hK K)
 refine Ac.pure hap ?_;rintro _ ⟨es,rfl,hck,hlb,h24⟩;unfold A1;simp;try (refine hK _ rfl ?_;clear hK K)
 have hi:=Gm (N:Nat) es hlb;unfold B6 A1 at hi;rw[hck]at hi;obtain⟨hL,hS⟩:=Ob hck;have hok:=G1 hck;simp only[Int.toNat_natCast]at hL hS hok;have hex:=Sj N es hck hlb hN2 h24;unfold A1 at hex;have hle:=O7 (N:=N) (es:=es);have hnd:=Ot (N:=N) (es:=es);have hIlt:=fun k=>Kz (n:=(N:Nat)) (es:=es) (k:=k);have hord:=fun s h=>Qey (s:=s) hck h;obtain⟨ka,kb⟩:=Qdh hck hIlt hnd (by omega) hS;have hin:∀s:List Nat,(∀i∈s,i<es.length)→Aj Tryz.prog 13 [.int .i64 (N:Nat),A1 (s.map (Ck es))] Aa.emp fun v m=>v=.tup [.sl 1 (An (B3 (N:Nat) (s.map (Ck es)))),B6 (N:Nat) (s.map (Ck es))]∧m=Aa.emp:=fun s hs=>Gm (N:Nat) _ (Qc3 hlb hs)
 have hkept:=hin _ hIlt;unfold B6 A1 at hkept;rw[ka]at hkept;generalize B3 (N:Nat) es=I at *;(repeat refine AW.seq_k fun K hK=>?_);refine AW.rg ?_;simp;try (refine hK _ rfl ?_;clear hK K)
 refine Ac.val hi ?_;simp;try (refine hK _ rfl ?_;clear hK K)
 (repeat refine AW.seq_k fun K hK=>?_);refine AW.rg ?_;simp;try (refine hK _ rfl ?_;clear hK K)
 (repeat refine AW.seq_k fun K hK=>?_);refine AW.rg ?_;simp;try (refine hK _ rfl ?_;clear hK K)
 refine Ag.intro fun b1 _=>⟨Sz es,by omega,by unfold maxLen;omega,Ag.intro fun b2 _=>?_⟩;try (refine hK _ rfl ?_;clear hK K)
 have hr0:(List.range es.length).map (Ck es)=es:=by
  apply List.ext_getElem
  ·simp
  ·intro i h1 h2;simp[Ey h2]
 refine AW.toEmp [(2,.sl 1 (I0 o)),(7,.int .i64 (N:Nat)),(8,.sl 6 (Bw es)),(9,.sl 1 (An I)),(10,.int .i64 0),(11,.nil),(12,.sl 6 (Bw es))] (by simp;exact D3 (Aa.set_same _ _ _) rfl (by simp)) ?_;refine AW.seq_ex (ι:=Qv2) (fun z=>[(2,.sl 1 (I0 o)),(7,.int .i64 (N:Nat)),(8,.sl 6 (Bw es)),(9,.sl 1 (An I)),(10,.int .i64 0),(11,z.ov)]) (fun z=>z.M) (fun z=>z.s.Perm (List.range es.length)∧Ga z.M 46 6 z.ov z.ob (Bw (z.s.map (Ck es)))) ?_ ?_
 ·(repeat refine AW.seq_k fun K hK=>?_);refine AW.rg ?_;simp;try (refine hK _ rfl ?_;clear hK K)
  refine AW.block (AW.loopS (ι:=Qv2) (fun z=>[(2,.sl 1 (I0 o)),(7,.int .i64 (N:Nat)),(8,.sl 6 (Bw es)),(9,.sl 1 (An I)),(10,.int .i64 0),(11,z.ov),(12,.sl 6 (Bw (z.t.map (Ck es)))),(13,.int .i64 (z.s.length:Nat))]) (fun z=>z.M) (fun z=>(z.s++z.t).Perm (List.range es.length)∧Ga z.M 46 6 z.ov z.ob (Bw (z.s.map (Ck es)))) (fun z=>z.t.length) ⟨Aa.emp,.nil,[],[],List.range es.length⟩ ⟨by simp,Ga.start _ _⟩ rfl (by simp[hr0]) ?_);rintro⟨M,ov,ob,s,t⟩ ⟨g1,g2⟩;simp only at g1 g2;simp only;have hlen:s.length+t.length=es.length:=by have:=g1.length_eq;simpa using this
  by_cases ht:0<t.length
  ·have hlt:∀x∈t,x<es.length:=fun x hx=>List.mem_range.1 (g1.mem_iff.1 (List.mem_append_right _ hx));have ht':¬t.length=0:=by omega
   have w1:=Aq (s.length+1) (by omega);(repeat refine AW.seq_k fun K hK=>?_);refine AW.rg ?_;simp[ht];try (refine hK _ rfl ?_;clear hK K)
   refine AW.yes ?_ (by simp[ht]);refine AW.skip ?_;try simp
   try (refine hK _ rfl ?_;clear hK K)
   (repeat refine AW.seq ?_);refine AW.block ?_;(repeat refine AW.seq_k fun K hK=>?_);refine AW.rg ?_;simp;try (refine hK _ rfl ?_;clear hK K)
   refine AW.seq_ex (ι:=Nat) (fun k=>[(2,.sl 1 (I0 o)),(7,.int .i64 (N:Nat)),(8,.sl 6 (Bw es)),(9,.sl 1 (An I)),(10,.int .i64 0),(11,ov),(12,.sl 6 (Bw (t.map (Ck es)))),(13,.int .i64 (s.length:Nat)),(14,.int .i64 (k:Nat))]) (fun _=>M) (fun k=>k<t.length) ?_ ?_
   ·by_cases hio:s.length<o.length
    ·obtain⟨ro,_,hro⟩:=Vo o[s.length];have hm:=Nat.mod_lt ro ht;(repeat refine AW.seq_k fun K hK=>?_);refine AW.rg ?_;simp[hio];try (refine hK _ rfl ?_;clear hK K)
     refine AW.yes ?_ (by simp[hio]);(repeat refine AW.seq_k fun K hK=>?_);refine AW.rg ?_;simp[-Int.natCast_emod,hio,hro,ht'];try (refine hK _ rfl ?_;clear hK K)
     exact hm
    ·(repeat refine AW.seq_k fun K hK=>?_);refine AW.rg ?_;simp[hio];try (refine hK _ rfl ?_;clear hK K)
     refine AW.no ?_ (by simp;try omega);refine AW.skip ?_;simp;exact⟨0,ht,rfl⟩
   rintro k hk;obtain⟨x,hx⟩:∃x,t[k]=x:=⟨_,rfl⟩;have hxl:x<es.length:=by rw[←hx];exact hlt _ (List.getElem_mem hk)
   have hgx:Ck (t.map (Ck es)) k=Ck es x:=by rw[Ey (by simpa using hk),List.getElem_map,hx]
   have hll:(Bw (s.map (Ck es))).length≤100:=by simp;omega
   have hsn:Bw (s.map (Ck es))++[(Ck es x).av]=Bw ((s++[x]).map (Ck es)):=by simp[Bw]
   refine AW.seq_ex (ι:=P6) (fun z=>[(2,.sl 1 (I0 o)),(7,.int .i64 (N:Nat)),(8,.sl 6 (Bw es)),(9,.sl 1 (An I)),(10,.int .i64 0),(11,z.ov),(12,.sl 6 (Bw (t.map (Ck es)))),(13,.int .i64 (s.length:Nat)),(14,.int .i64 (k:Nat))]) (fun z=>z.M) (fun z=>Ga z.M 46 6 z.ov z.ob (Bw ((s++[x]).map (Ck es)))) ?_ ?_
   ·rw[←hsn];generalize Bw (s.map (Ck es))=LL at *;unfold RE.av;rcases g2.lst with⟨z1,z2,z3⟩ | ⟨b0,z2,z3,z4⟩
    ·subst z1 z2 z3;(repeat refine AW.seq_k fun K hK=>?_);refine AW.rgR [59] ?_;simp[hk,hgx,Bs];try (refine hK _ rfl ?_;clear hK K)
     exact⟨by unfold maxLen;omega,Ag.intro fun b hb=>⟨⟨_,_,[b]⟩,g2.push0 b _,rfl,rfl⟩⟩
    ·subst z2 z3;(repeat refine AW.seq_k fun K hK=>?_);refine AW.rgR [59] ?_;simp[hk,hgx,Bs,z4];try (refine hK _ rfl ?_;clear hK K)
     exact⟨by omega,by unfold maxLen;omega,Ag.intro fun b hb=>⟨⟨_,_,[b]⟩,g2.push1 b _,rfl,rfl⟩⟩
   rintro⟨M',ov',ob'⟩ g3;simp only at g3;simp only;have w2:=Aq (k+1) (by omega);have hk1:k≤t.length:=by omega
   have hk2:k+1≤t.length:=by omega
   refine AW.rd [1,2,3,5,6,7,8,0,4,9,10] Ds ?_;simp[-Int.natCast_add,w2,hk1,hk2];have ea:∀v∈(Bw (t.map (Ck es))).take k,v.cells.length=6∧∀y∈v.cells,y.one=true:=fun v hv=>Sz _ v (List.mem_of_mem_take hv);have eb:∀v∈((Bw (t.map (Ck es))).drop (k+1)).take (t.length-(k+1)),v.cells.length=6∧∀y∈v.cells,y.one=true:=fun v hv=>Sz _ v (List.mem_of_mem_drop (List.mem_of_mem_take hv));refine Ag.intro fun c1 hc1=>⟨ea,by omega,by unfold maxLen;omega,Ag.intro fun c2 hc2=>⟨eb,by omega,by unfold maxLen;omega,Ag.intro fun c3 hc3=>?_⟩⟩
   rw[Ol hc1]at hc2 hc3 ⊢;rw[Ol hc2]at hc3 ⊢;have hel:(Bw (t.map (Ck es))).take k++((Bw (t.map (Ck es))).drop (k+1)).take (t.length-(k+1))=Bw ((t.eraseIdx k).map (Ck es)):=by
    have e2:((Bw (t.map (Ck es))).drop (k+1)).take (t.length-(k+1))=(Bw (t.map (Ck es))).drop (k+1):=List.take_of_length_le (by simp);rw[e2,List.eraseIdx_eq_take_drop_succ,Qgv,Qf7,←List.map_take,←List.map_drop,List.map_append];simp[Bw]
   have hel2:(t.eraseIdx k).length=k+(t.length-(k+1)):=by rw[List.length_eraseIdx_of_lt hk];omega
   rw[hel];have hones:=g3.ones (fun v hv=>by obtain⟨e,_,rfl⟩:=List.mem_map.1 hv;exact e.av_ones);refine AW.turn [(2,.sl 1 (I0 o)),(7,.int .i64 (N:Nat)),(8,.sl 6 (Bw es)),(9,.sl 1 (An I)),(10,.int .i64 0),(11,ov'),(12,.sl 6 (Bw ((t.eraseIdx k).map (Ck es)))),(13,.int .i64 (s.length:Nat))] M' (Bj.drop hc3 hones) (by simp[-Int.natCast_add];exact D3 (Aa.set_same _ _ _) hc3 (by simp[hel2])) ?_;(repeat refine AW.seq_k fun K hK=>?_);refine AW.rg ?_;simp[-Int.natCast_add,w1];try (refine hK _ rfl ?_;clear hK K)
   have hp:(s++[x]++t.eraseIdx k).Perm (s++t):=by
    rw[List.append_assoc];have h1:t=t.take k++x::t.drop (k+1):=by
     conv=>lhs;rw[←List.take_append_drop k t,List.drop_eq_getElem_cons hk,hx]
    have h2:([x]++t.eraseIdx k).Perm t:=by
     rw[List.eraseIdx_eq_take_drop_succ]
     conv=>rhs;rw[h1]
     show(x::(t.take k++t.drop (k+1))).Perm _
     exact List.perm_middle.symm
    exact h2.append_left s
   exact⟨⟨M',ov',ob',s++[x],t.eraseIdx k⟩,⟨hp.trans g1,g3⟩,by rw[hel2];omega,rfl,rfl,rfl,by simp⟩
  ·(repeat refine AW.seq_k fun K hK=>?_);refine AW.rg ?_;simp[ht];try (refine hK _ rfl ?_;clear hK K)
   refine AW.no ?_ (by simp;try omega);refine AW.exit ?_;try simp
   have h0:t=[]:=List.length_eq_zero_iff.1 (by omega);subst h0;exact⟨⟨M,ov,ob,s,[]⟩,⟨by simpa using g1,g2⟩,by simp⟩
 rintro⟨M,ov,ob,s,t⟩ ⟨g1,g2⟩;simp only at g1 g2;simp only;have hsl:s.length=es.length:=by rw[g1.length_eq,List.length_range]
 have hslt:∀i∈s,i<es.length:=fun i hi=>List.mem_range.1 (g1.mem_iff.1 hi);obtain⟨o1,o2⟩:=hord s g1;have hmix:=hin s hslt;unfold B6 A1 at hmix;rw[o1]at hmix;refine AW.turn [(2,.sl 1 (I0 o)),(7,.int .i64 (N:Nat)),(8,.sl 6 (Bw es)),(9,.sl 1 (An I)),(10,.int .i64 0),(11,.sl 6 (Bw (s.map (Ck es))))] Aa.emp (Bj.sub fun b y hy=>by cases hy) (by simp;exact g2.lst.view (M':=Aa.emp) (fun _ _=>rfl)) ?_;(repeat refine AW.seq_k fun K hK=>?_);refine AW.rg ?_;simp;try (refine hK _ rfl ?_;clear hK K)
 refine Ac.val hmix ?_;simp;try (refine hK _ rfl ?_;clear hK K)
 (repeat refine AW.seq_k fun K hK=>?_);refine AW.rg ?_;simp;try (refine hK _ rfl ?_;clear hK K)
 refine AW.toEmp [(7,.int .i64 (N:Nat)),(8,.sl 6 (Bw es)),(9,.sl 1 (An I)),(10,.int .i64 0),(15,.sl 1 (An (B3 (N:Nat) (s.map (Ck es))))),(16,.int .i64 0),(17,.nil)] (by simp) ?_;refine AW.seq_ex (ι:=Unit) (fun _=>[(7,.int .i64 (N:Nat)),(8,.sl 6 (Bw es)),(9,.sl 1 (An I)),(10,.int .i64 0),(15,.sl 1 (An (B3 (N:Nat) (s.map (Ck es))))),(16,.int .i64 0),(17,.sl 6 (Bw (I.map (Ck es))))]) (fun _=>Aa.emp) (fun _=>True) ?_ ?_
 ·(repeat refine AW.seq_k fun K hK=>?_);refine AW.rg ?_;simp;try (refine hK _ rfl ?_;clear hK K)
  refine AW.block (AW.loopS (ι:=Nat × P6) (fun z=>[(7,.int .i64 (N:Nat)),(8,.sl 6 (Bw es)),(9,.sl 1 (An I)),(10,.int .i64 0),(15,.sl 1 (An (B3 (N:Nat) (s.map (Ck es))))),(16,.int .i64 0),(17,z.2.ov),(18,.int .i64 (z.1:Nat))]) (fun z=>z.2.M) (fun z=>z.1≤I.length∧Ga z.2.M 46 6 z.2.ov z.2.ob (Bw (T3 es I z.1))) (fun z=>I.length-z.1) (0,⟨Aa.emp,.nil,[]⟩) ⟨by simp,Ga.start _ _⟩ rfl (by simp) ?_);rintro⟨i,M,ov,ob⟩ ⟨g3,g4⟩;simp only at g3 g4;simp only;by_cases hiI:i<I.length
  ·have w3:=Aq (i+1) (by omega);obtain⟨x,hx⟩:∃x,I[i]=x:=⟨_,rfl⟩;have hxl:x<es.length:=by rw[←hx];exact hIlt _ (List.getElem_mem hiI)
   have hxl':(x:Int)<(es.length:Int):=by omega
   have hx0:(0:Int)≤(x:Int):=by omega
   have hsn:Bw (T3 es I i)++[(Ck es x).av]=Bw (T3 es I (i+1)):=by
    unfold T3;rw[List.take_add_one,List.getElem?_eq_getElem hiI,hx];simp[Bw]
   have hfin:∀s:P6,Ga s.M 46 6 s.ov s.ob (Bw (T3 es I i)++[(Ck es x).av])→Ga s.M 46 6 s.ov s.ob (Bw (T3 es I (i+1))):=fun s h=>by rw[←hsn];exact h
   have hll:(Bw (T3 es I i)).length≤100:=by simp[T3];omega
   clear hsn;generalize Bw (T3 es I i)=LL at *;unfold RE.av at hfin;(repeat refine AW.seq_k fun K hK=>?_);refine AW.rg ?_;simp[hiI,hx,hxl,hx0];try (refine hK _ rfl ?_;clear hK K)
   refine AW.yes ?_ (by simp[hxl]);refine AW.skip ?_;try simp
   try (refine hK _ rfl ?_;clear hK K)
   (repeat refine AW.seq ?_);refine AW.block ?_;rcases g4.lst with⟨z1,z2,z3⟩ | ⟨b0,z2,z3,z4⟩
   ·subst z1 z2 z3;(repeat refine AW.seq_k fun K hK=>?_);refine AW.rgR [107] ?_;simp[hiI,hx,hxl,Bs];try (refine hK _ rfl ?_;clear hK K)
    refine⟨by unfold maxLen;omega,Ag.intro fun b hb=>?_⟩;(repeat refine AW.seq_k fun K hK=>?_);refine AW.rg ?_;simp[-Int.natCast_add,w3];try (refine hK _ rfl ?_;clear hK K)
    exact⟨i+1,⟨_,_,[b]⟩,⟨by omega,hfin _ (g4.push0 b _)⟩,by omega,rfl,rfl,rfl⟩
   ·subst z2 z3;(repeat refine AW.seq_k fun K hK=>?_);refine AW.rgR [107] ?_;simp[hiI,hx,hxl,Bs,z4];try (refine hK _ rfl ?_;clear hK K)
    refine⟨by omega,by unfold maxLen;omega,Ag.intro fun b hb=>?_⟩;(repeat refine AW.seq_k fun K hK=>?_);refine AW.rg ?_;simp[-Int.natCast_add,w3];try (refine hK _ rfl ?_;clear hK K)
    exact⟨i+1,⟨_,_,[b]⟩,⟨by omega,hfin _ (g4.push1 b _)⟩,by omega,rfl,rfl,rfl⟩
  ·have hie:i=I.length:=by omega
   subst hie;unfold T3 at g4;rw[List.take_length]at g4;(repeat refine AW.seq_k fun K hK=>?_);refine AW.rg ?_;simp;try (refine hK _ rfl ?_;clear hK K)
   refine AW.no ?_ rfl;refine AW.turn [(7,.int .i64 (N:Nat)),(8,.sl 6 (Bw es)),(9,.sl 1 (An I)),(10,.int .i64 0),(15,.sl 1 (An (B3 (N:Nat) (s.map (Ck es))))),(16,.int .i64 0),(17,.sl 6 (Bw (I.map (Ck es))))] Aa.emp (Bj.sub fun b y hy=>by cases hy) (by simp;exact g4.lst.view (M':=Aa.emp) (fun _ _=>rfl)) ?_;refine AW.exit ?_;try simp
 rintro _ _;(repeat refine AW.seq_k fun K hK=>?_);refine AW.rg ?_;simp;try (refine hK _ rfl ?_;clear hK K)
 refine Ac.val hkept ?_;simp;try (refine hK _ rfl ?_;clear hK K)
 generalize B3 (N:Nat) (s.map (Ck es))=I2 at *;generalize B3 (N:Nat) (I.map (Ck es))=I3 at *;(repeat refine AW.seq_k fun K hK=>?_);refine AW.rg ?_;simp;try (refine hK _ rfl ?_;clear hK K)
 refine Ac.val hwk ?_;simp[o2,kb];refine Ac.val hex ?_;simp;try (refine hK _ rfl ?_;clear hK K)
 exact AW.ret (Af rfl _ (.same _) ⟨rfl,rfl⟩)
end Go.Av
end
section
namespace Go.Av
open Go.Proofs
theorem Qxp:Tryz.prog.underlying 40=some (.slice 124):=by kernel_rfl
theorem Qus:Tryz.prog.underlying 124=some (.int .u32):=by kernel_rfl
theorem ty4:Tryz.prog.underlying 4=some .bool:=by kernel_rfl
theorem Qxn:Tryz.prog.cellsOf 124=1:=by kernel_rfl
theorem Qug:Tryz.prog.cellsOf 44=4:=by kernel_rfl
theorem Qpt:Tryz.prog.cellsOf 42=2:=by kernel_rfl
theorem Qw8:Tryz.prog.cellsOf 40=1:=by kernel_rfl
theorem cl4:Tryz.prog.cellsOf 4=1:=by kernel_rfl
noncomputable def Qeh (t:TypeId):Array Field:=match Tryz.prog.underlying t with
 |some (.struct fs)=>fs
 |_=>#[]
noncomputable def Vt (t:TypeId) (i:Nat):Option (TypeId × Nat):=((Qeh t)[i]?).map fun f=>(f.type,f.offset)
theorem Qw5:Tryz.prog.underlying 44=some (.struct (Qeh 44)):=by kernel_rfl
theorem Qw9:Tryz.prog.underlying 42=some (.struct (Qeh 42)):=by kernel_rfl
theorem Qve:Vt 44 0=some (42,0):=by kernel_rfl
theorem Qu3:Vt 44 1=some (42,2):=by kernel_rfl
theorem Qup:Vt 42 0=some (4,0):=by kernel_rfl
theorem Quq:Vt 42 1=some (40,1):=by kernel_rfl
theorem I5 {t:TypeId} {i:Nat} {p:TypeId × Nat} (h:Vt t i=some p):∃f:Field,(Qeh t)[i]?=some f∧f.type=p.1∧f.offset=p.2:=by
 unfold Vt at h;cases hf:(Qeh t)[i]? with
 |none=>rw[hf]at h;cases h
 |some f=>rw[hf]at h;cases h;exact⟨f,rfl,rfl,rfl⟩
variable {H:Type} {enc:TypeId × Value→H} {W:World}
theorem Wg {a:Addr} {v:Value} (h:W.cell? a=some v):a.block<W.heap.size:=by
 unfold World.cell? at h;rcases Nat.lt_or_ge a.block W.heap.size with hl | hl
 ·exact hl
 ·rw[Array.getElem?_eq_none hl]at h;simp at h
theorem P4 {l:List Nat} {i j:Nat} {u:AV} (h:Ax (Bh l) i j=some u):j=0∧i<l.length∧u=.int .u32 (nth l i:Nat):=by
 unfold Ax Bh at h;rw[List.getElem?_map]at h;cases hi:l[i]? with
 |none=>rw[hi]at h;cases h
 |some y =>
  rw[hi]at h;have hl:=(List.getElem?_eq_some_iff.1 hi).1;cases j with
  |zero =>
   cases h;refine⟨rfl,hl,?_⟩;unfold nth;rw[List.getD_eq_getElem?_getD,hi];rfl
  |succ k=>cases h
theorem Qim {fuel:Nat} {c:Value} {x:DataW H × List MemPlace} (h:DataW.trod enc Tryz.prog W 0 (fun _=>true) true fuel 40 [c]=some x):∃l,Lb l∧VR W (fun _=>False) (Am l) c:=by
 rcases Go.ChangeShapes.open_ints Qxp Qus Qxn h with⟨hc,_⟩|⟨a,len,cap,zs,hc,_,hl,hm,hz,_,hcell,hwf⟩
 ·simp only[List.cons.injEq,and_true]at hc;subst hc;exact⟨[],fun y hy=>(by cases hy),.sl0 1 none 0⟩
 ·simp only[List.cons.injEq,and_true]at hc;subst hc;simp at hz;rcases Nat.eq_zero_or_pos len with h0 | h0
  ·subst h0;exact⟨[],fun y hy=>(by cases hy),.sl0 1 (some a) cap⟩
  ·have h00:=hcell 0 (by omega);have hsp:=World.cell?_spot h00;have hbl:=Wg h00;obtain⟨b,o,sp⟩:=a;simp[Addr.add]at hsp hbl;subst hsp;have hzl:∀i,i<len→0≤zs.getD i 0∧zs.getD i 0≤4294967295:=fun i hi=>by
    have:zs.getD i 0=zs[i]'(by omega):=by rw[List.getD_eq_getElem?_getD,List.getElem?_eq_getElem (by omega)];rfl
    rw[this];exact Go.bounds_u32 (hwf _ (List.getElem_mem _))
   refine⟨(List.range len).map fun i=>(zs.getD i 0).toNat,fun y hy=>?_,?_⟩
   ·obtain⟨i,hi,rfl⟩:=List.mem_map.1 hy;have:=hzl i (List.mem_range.1 hi);omega
   ·have e:((List.range len).map fun i=>(zs.getD i 0).toNat).length=len:=by simp
    have:=VR.sl (w:=W) (F:=fun _=>False) 1 (Bh ((List.range len).map fun i=>(zs.getD i 0).toNat)) b o cap (fun i _=>.int .u32 (zs.getD i 0)) (by simp) hbl (by simp;exact hl) (by
     intro v hv;obtain⟨y,_,rfl⟩:=List.mem_map.1 hv;rfl) ?_ ?_
    ·rw[J7,e]at this;exact this
    ·intro i j u hu;obtain⟨rfl,q1,rfl⟩:=P4 hu;rw[e]at q1;have:=hzl i q1;have hn:nth ((List.range len).map fun i=>(zs.getD i 0).toNat) i=(zs.getD i 0).toNat:=by
      unfold nth;rw[List.getD_eq_getElem?_getD,List.getElem?_map,List.getElem?_range q1];rfl
     rw[hn,Int.toNat_of_nonneg this.1];exact .int _ _
    ·intro i j u hu;obtain⟨rfl,q1,rfl⟩:=P4 hu;rw[e]at q1;have:=hcell i (by omega);rcases Nat.eq_zero_or_pos i with h' | h'
     ·subst h';simpa[Addr.add]using this
     ·have h'':i≠0:=by omega
      simpa[Addr.add,h'']using this
set_option maxRecDepth 100000
theorem Yw {fuel:Nat} {cs:List Value} {x:DataW H × List MemPlace} (h:DataW.trod enc Tryz.prog W 0 (fun _=>true) true fuel 42 cs=some x):∃n l c,cs=[.bool n,c]∧Lb l∧VR W (fun _=>False) (Am l) c:=by
 obtain⟨xs,n,_,rfl,hl,hlen,hf⟩:=DataW.trod_struct Qw9 h;rw[Qpt]at hl;obtain⟨c0,c1,rfl⟩:∃c0 c1,cs=[c0,c1]:=by
  match cs,hl with
  |[c0,c1],_=>exact⟨c0,c1,rfl⟩
 obtain⟨f0,g1,g2,g3⟩:=I5 Qup;obtain⟨f1,k1,k2,k3⟩:=I5 Quq;have h0:=hf 0 f0 g1;have h1:=hf 1 f1 k1;simp only at g2 g3 k2 k3;rw[g2,g3,cl4]at h0;rw[k2,k3,Qw8]at h1;have hs:xs.length=2:=by rw[hlen];kernel_rfl
 obtain⟨b,hb,_⟩:=DataW.trod_bool ty4 (h0.trans (List.getElem?_eq_getElem (by omega)));obtain⟨l,hl1,hl2⟩:=Qim (h1.trans (List.getElem?_eq_getElem (by omega)));simp at hb;exact⟨b,l,c1,by rw[hb],hl1,hl2⟩
theorem Qgj {fuel:Nat} {cs:List Value} {x:DataW H × List MemPlace} (h:DataW.trod enc Tryz.prog W 0 (fun _=>true) true fuel 44 cs=some x):∃r:RR,r.Lb∧cs.length=4∧∀(j:Nat) (u:AV),r.av.cells[j]?=some u→∃c,cs[j]?=some c∧VR W (fun _=>False) u c:=by
 obtain⟨xs,n,_,rfl,hl,hlen,hf⟩:=DataW.trod_struct Qw5 h;rw[Qug]at hl;obtain⟨c0,c1,c2,c3,rfl⟩:∃c0 c1 c2 c3,cs=[c0,c1,c2,c3]:=by
  match cs,hl with
  |[c0,c1,c2,c3],_=>exact⟨c0,c1,c2,c3,rfl⟩
 obtain⟨f0,g1,g2,g3⟩:=I5 Qve;obtain⟨f1,k1,k2,k3⟩:=I5 Qu3;have h0:=hf 0 f0 g1;have h1:=hf 1 f1 k1;simp only at g2 g3 k2 k3;rw[g2,g3,Qpt]at h0;rw[k2,k3,Qpt]at h1;have hs:xs.length=2:=by rw[hlen];kernel_rfl
 obtain⟨n1,l1,d1,e1,b1,v1⟩:=Yw (h0.trans (List.getElem?_eq_getElem (by omega)));obtain⟨n2,l2,d2,e2,b2,v2⟩:=Yw (h1.trans (List.getElem?_eq_getElem (by omega)));simp at e1 e2;obtain⟨rfl,rfl⟩:=e1;obtain⟨rfl,rfl⟩:=e2;refine⟨⟨n1,l1,n2,l2⟩,⟨b1,b2⟩,rfl,fun j u hu=>?_⟩
 match j,hu with
 |0,hu=>cases hu;exact⟨_,rfl,.bool _⟩
 |1,hu=>cases hu;exact⟨_,rfl,v1⟩
 |2,hu=>cases hu;exact⟨_,rfl,.bool _⟩
 |3,hu=>cases hu;exact⟨_,rfl,v2⟩
 |k+4,hu=>cases hu
end Go.Av
end
section
namespace Go.Av
open Go.Proofs
variable {H:Type} {enc:TypeId × Value→H} {W:World}
theorem Md {α:Type} [Inhabited α] {n:Nat} {p:Nat→α→Prop} (h:∀i,i<n→∃a,p i a):∃f:Nat→α,∀i,i<n→p i (f i):=by
 classical
 exact⟨fun i=>if hi:i<n then Classical.choose (h i hi) else default,fun i hi=>by
  simp only[dif_pos hi];exact Classical.choose_spec (h i hi)⟩
theorem Qe2 (b o i j:Nat):((⟨b,o,none⟩:Addr).add i).add j=⟨b,o+(i+j),none⟩:=by
 by_cases hi:i=0
 ·subst hi;by_cases hj:j=0
  ·subst hj;simp[Addr.add]
  ·simp[Addr.add,hj]
 ·by_cases hj:j=0
  ·subst hj;simp[Addr.add,hi]
  ·simp[Addr.add,hi,hj,Nat.add_assoc]
end Go.Av
end
section
namespace Go.Av
open Go.Proofs
theorem ty22:Tryz.prog.underlying 22=some (.slice 46):=by kernel_rfl
theorem ty25:Tryz.prog.underlying 25=some (.slice 3):=by kernel_rfl
theorem ty3:Tryz.prog.underlying 3=some (.int .i64):=by kernel_rfl
theorem Qxk:Tryz.prog.underlying 46=some (.struct (Qeh 46)):=by kernel_rfl
theorem Qvi:Tryz.prog.cellsOf 46=6:=by kernel_rfl
theorem cl3:Tryz.prog.cellsOf 3=1:=by kernel_rfl
theorem Quf:Vt 46 0=some (3,0):=by kernel_rfl
theorem Qu6:Vt 46 1=some (3,1):=by kernel_rfl
theorem Quc:Vt 46 2=some (44,2):=by kernel_rfl
variable {H:Type} {enc:TypeId × Value→H} {W:World}
set_option maxRecDepth 100000
theorem Sh {fuel:Nat} {c:Value} {x:DataW H × List MemPlace} (h:DataW.trod enc Tryz.prog W 0 (fun _=>true) true fuel 3 [c]=some x):∃n:Int,c=.int .i64 n∧-9223372036854775808≤n∧n<9223372036854775808:=by
 obtain⟨n,h1,_,h2⟩:=DataW.trod_int ty3 h;have:=bounds_i64 h2;simp at h1;exact⟨n,h1,this.1,by omega⟩
theorem Qe5 {fuel:Nat} {cs:List Value} {x:DataW H × List MemPlace} (h:DataW.trod enc Tryz.prog W 0 (fun _=>true) true fuel 46 cs=some x):∃e:RE,e.sq.Lb∧cs.length=6∧∀(j:Nat) (u:AV),e.av.cells[j]?=some u→∃c,cs[j]?=some c∧VR W (fun _=>False) u c:=by
 obtain⟨xs,n,_,rfl,hl,hlen,hf⟩:=DataW.trod_struct Qxk h;rw[Qvi]at hl;obtain⟨c0,c1,c2,c3,c4,c5,rfl⟩:∃c0 c1 c2 c3 c4 c5,cs=[c0,c1,c2,c3,c4,c5]:=by
  match cs,hl with
  |[c0,c1,c2,c3,c4,c5],_=>exact⟨c0,c1,c2,c3,c4,c5,rfl⟩
 obtain⟨f0,g1,g2,g3⟩:=I5 Quf;obtain⟨f1,k1,k2,k3⟩:=I5 Qu6;obtain⟨f2,l1,l2,l3⟩:=I5 Quc;have h0:=hf 0 f0 g1;have h1:=hf 1 f1 k1;have h2:=hf 2 f2 l1;simp only at g2 g3 k2 k3 l2 l3;rw[g2,g3,cl3]at h0;rw[k2,k3,cl3]at h1;rw[l2,l3,Qug]at h2;have hs:xs.length=3:=by rw[hlen];kernel_rfl
 obtain⟨a,e0,_⟩:=Sh (h0.trans (List.getElem?_eq_getElem (by omega)));obtain⟨b,e1,_⟩:=Sh (h1.trans (List.getElem?_eq_getElem (by omega)));obtain⟨r,q1,_,q3⟩:=Qgj (h2.trans (List.getElem?_eq_getElem (by omega)));subst e0 e1;refine⟨⟨a,b,r⟩,q1,rfl,fun j u hu=>?_⟩
 match j,hu with
 |0,hu=>cases hu;exact⟨_,rfl,.int _ _⟩
 |1,hu=>cases hu;exact⟨_,rfl,.int _ _⟩
 |2,hu=>exact q3 0 u hu
 |3,hu=>exact q3 1 u hu
 |4,hu=>exact q3 2 u hu
 |5,hu=>exact q3 3 u hu
 |k+6,hu=>cases hu
theorem Su {fuel:Nat} {c:Value} {x:DataW H × List MemPlace} (h:DataW.trod enc Tryz.prog W 0 (fun _=>true) true fuel 22 [c]=some x):∃es:List RE,Qx es∧VR W (fun _=>False) (A1 es) c:=by
 rcases Go.Deep.open_slice ty22 h with⟨hc,_⟩|⟨a,len,cap,m,n,D,Pl,hc,_,hl,hm,hmm,_,hx⟩
 ·simp only[List.cons.injEq,and_true]at hc;subst hc;exact⟨[],fun y hy=>(by cases hy),.sl0 6 none 0⟩
 ·simp only[List.cons.injEq,and_true]at hc;subst hc;simp at hmm;subst hmm;rcases Nat.eq_zero_or_pos len with h0 | h0
  ·subst h0;exact⟨[],fun y hy=>(by cases hy),.sl0 6 (some a) m⟩
  ·rw[Qvi]at hx;obtain⟨C,hC⟩:=Md (α:=List Value) (p:=fun i cs=>W.cells? 0 (a.add (i*6)) 6=some cs∧DataW.trod enc Tryz.prog W 0 (fun _=>true) true n 46 cs=some (D i,Pl i)) (n:=len) (fun i hi=>hx i (by omega));obtain⟨R,hR⟩:=Md (α:=RE) (n:=len) (fun i hi=>Qe5 (hC i hi).2);have hcell:∀i,i<len→∀j,j<6→W.cell? ((a.add (i*6)).add j)=(C i)[j]?:=fun i hi=>(World.cells?_some (hC i hi).1).2.2;obtain⟨c00,hc00,_⟩:=(hR 0 h0).2.2 0 (.int .i64 (R 0).a) rfl;have h00:=(hcell 0 h0 0 (by omega)).trans hc00;have hsp:=World.cell?_spot h00
   have hbl:=Wg h00;obtain⟨b,o,sp⟩:=a;simp[Addr.add]at hsp hbl;subst hsp;have hcellAt:∀i j u,Ax (Bw ((List.range len).map R)) i j=some u→i<len∧(R i).av.cells[j]?=some u:=by
    intro i j u hu;unfold Ax Bw at hu;rw[List.map_map,List.getElem?_map]at hu;by_cases hi:i<len
    ·rw[List.getElem?_range hi]at hu;exact⟨hi,hu⟩
    ·rw[List.getElem?_eq_none (by simp;omega)]at hu;cases hu
   refine⟨(List.range len).map R,fun y hy=>?_,?_⟩
   ·obtain⟨i,hi,rfl⟩:=List.mem_map.1 hy;exact(hR i (List.mem_range.1 hi)).1
   ·have:=VR.sl (w:=W) (F:=fun _=>False) 6 (Bw ((List.range len).map R)) b o m (fun i j=>((C i)[j]?).getD (.bool false)) (by simp) hbl (by simp;exact hl) (by
     intro v hv;obtain⟨y,_,rfl⟩:=List.mem_map.1 hv;rfl) (fun i j u hu=>by
      obtain⟨hi,hu⟩:=hcellAt i j u hu;obtain⟨c,q1,q2⟩:=(hR i hi).2.2 j u hu;rw[q1];exact q2) (fun i j u hu=>by
      obtain⟨hi,hu⟩:=hcellAt i j u hu;obtain⟨c,q1,q2⟩:=(hR i hi).2.2 j u hu;have hj:j<6:=by
       have:=(List.getElem?_eq_some_iff.1 q1).1;rw[(hR i hi).2.1]at this;exact this
      have:=hcell i hi j hj;rw[Qe2,q1]at this;rw[this,q1];rfl)
    rw[Sg,List.length_map,List.length_range]at this;exact this
theorem P0 {fuel:Nat} {c:Value} {x:DataW H × List MemPlace} (h:DataW.trod enc Tryz.prog W 0 (fun _=>true) true fuel 22 [c]=some x):∃es:List RE,(Qx es∧es.length<2^63)∧VR W (fun _=>False) (A1 es) c:=by
 obtain⟨r,h1,h2⟩:=Su h;refine⟨r,⟨h1,?_⟩,h2⟩;have hmax:maxLen<2^63:=by unfold maxLen;omega
 have hlen:∀(A:Option Addr) (len cap:Nat),c=.slice A len cap→len≤maxLen→r.length<2^63:=fun A len cap hc hl=>by
  subst hc;unfold A1 at h2;generalize hr:Bw r=R at h2;have hrl:r.length=R.length:=by rw[←hr,Sg]
  rw[hrl];cases h2 with
  |sl0=>simp
  |sl=>omega
 rcases Go.Deep.open_slice ty22 h with⟨hc,_⟩|⟨a,len,cap,m,n,D,Pl,hc,_,hl,hm,_⟩
 ·simp only[List.cons.injEq,and_true]at hc;exact hlen _ _ _ hc (by omega)
 ·simp only[List.cons.injEq,and_true]at hc;exact hlen _ _ _ hc (by omega)
theorem U3 {fuel:Nat} {c:Value} {x:DataW H × List MemPlace} (h:DataW.trod enc Tryz.prog W 0 (fun _=>true) true fuel 25 [c]=some x):∃o:List Int,True∧VR W (fun _=>False) (.sl 1 (o.map fun v=>.int .i64 v)) c:=by
 rcases Go.Deep.open_slice1 ty25 cl3 h with⟨hc,_⟩|⟨a,len,cap,m,n,V,D,Pl,hc,_,hl,hm,hmm,_,hx⟩
 ·simp only[List.cons.injEq,and_true]at hc;subst hc;exact⟨[],trivial,.sl0 1 none 0⟩
 ·simp only[List.cons.injEq,and_true]at hc;subst hc;simp at hmm;subst hmm;rcases Nat.eq_zero_or_pos len with h0 | h0
  ·subst h0;exact⟨[],trivial,.sl0 1 (some a) m⟩
  ·obtain⟨R,hR⟩:=Md (α:=Int) (n:=len) (p:=fun i r=>V i=.int .i64 r) (fun i hi=>by
    obtain⟨r,hr,_⟩:=Sh (hx i (by omega)).2;exact⟨r,hr⟩)
   have h00:=(hx 0 (by omega)).1;have hsp:=World.cell?_spot h00;have hbl:=Wg h00;obtain⟨b,o,sp⟩:=a;simp[Addr.add]at hsp hbl;subst hsp;have hcellAt:∀i j u,Ax (((List.range len).map R).map fun v=>AV.int .i64 v) i j=some u→i<len∧j=0∧u=.int .i64 (R i):=by
    intro i j u hu;unfold Ax at hu;rw[List.map_map,List.getElem?_map]at hu;by_cases hi:i<len
    ·rw[List.getElem?_range hi]at hu;cases j with
     |zero=>cases hu;exact⟨hi,rfl,rfl⟩
     |succ k=>cases hu
    ·rw[List.getElem?_eq_none (by simp;omega)]at hu;cases hu
   refine⟨(List.range len).map R,trivial,?_⟩;have:=VR.sl (w:=W) (F:=fun _=>False) 1 (((List.range len).map R).map fun v=>AV.int .i64 v) b o m (fun i _=>V i) (by simp) hbl (by simp;exact hl) (by
    intro v hv;obtain⟨y,_,rfl⟩:=List.mem_map.1 hv;rfl) (fun i j u hu=>by
     obtain⟨hi,rfl,rfl⟩:=hcellAt i j u hu;rw[hR i hi];exact .int _ _) (fun i j u hu=>by
     obtain⟨hi,rfl,rfl⟩:=hcellAt i j u hu;have:=(hx i (by omega)).1;rcases Nat.eq_zero_or_pos i with h'|h'
     ·subst h';simpa[Addr.add]using this
     ·have h'':i≠0:=by omega
      simpa[Addr.add,h'']using this)
   rw[List.length_map,List.length_map,List.length_range]at this;exact this
def vrl (W:World):List AV→List Value→Prop
 |[],[]=>True
 |x::xs,c::cs=>VR W (fun _=>False) x c∧vrl W xs cs
 |_,_=>False
theorem Qcw:∀{xs:List AV} {cs:List Value},vrl W xs cs→cs.length=xs.length∧∀(j:Nat) u v,xs[j]?=some u→cs[j]?=some v→VR W (fun _=>False) u v
 |[],[],_=>⟨rfl,fun j u v h=>by cases h⟩
 |x::xs,c::cs,h=>by
  obtain⟨h1,h2⟩:=Qcw h.2;refine⟨by simp[h1],fun j u v hu hv=>?_⟩
  match j,hu,hv with
  |0,hu,hv=>cases hu;cases hv;exact h.1
  |k+1,hu,hv=>exact h2 k u v hu hv
 |[],_::_,h=>h.elim
 |_::_,[],h=>h.elim
theorem Ui {f:FuncId} {xs:List AV} (hf:Aj Tryz.prog f xs Aa.emp fun v mm=>v=.bool true∧mm=Aa.emp) {cs:List Value} (hx:vrl W xs cs) :
  Calls Tryz.prog f cs.toArray W fun e W'=>e=.returned (.bool true)∧RowKit.Below W.heap.size W W':=by
 have hO:Cq (fun _=>False) Aa.emp=fun _=>False:=by funext b;simp[Cq,Aa.emp]
 obtain⟨h1,h2⟩:=Qcw hx;refine(hf.2 W (fun _=>False) cs.toArray (fun b hb=>hb.elim) (fun b x hx=>by cases hx) ?_).mono ?_
 ·rw[hO];exact⟨by simpa using h1,fun j u v hu hv'=>h2 j u v hu (by simpa using hv')⟩
 ·rintro e W' ⟨v,cv,g',rfl,⟨rfl,_⟩,_,hvr,hg,_⟩;cases hvr;exact⟨rfl,⟨hg.os,hg.tape,hg.output,hg.size,fun k hk=>hg.block k hk (by simp[Aa.emp])⟩⟩
end Go.Av
end
