/- A part of the proof. -/
import Derived.Test.YthflocfaafoohaaGreatP3
set_option linter.all false
set_option exponentiation.threshold 5000
set_option maxRecDepth 10000
section
namespace Go.Lam
def Jy (n m:Nat):List Nat:=(List.range n).filter (Cp m)
def B0:List Nat→List Nat→Bool
 |[],[]=>false
 |[],_::_=>true
 |_::_,[]=>false
 |a::l,b::m=>if a=b then B0 l m else decide (a<b)
theorem Ij:∀l:List Nat,B0 l l=false
 |[]=>rfl
 |a::l=>by simp[B0,Ij l]
theorem Gg:∀{a b c:List Nat},B0 a b=true→B0 b c=true→B0 a c=true
 |[],[],_,h,_=>by simp[B0]at h
 |[],_::_,[],_,h=>by simp[B0]at h
 |[],_::_,_::_,_,_=>rfl
 |_::_,[],_,h,_=>by simp[B0]at h
 |_::_,_::_,[],_,h=>by simp[B0]at h
 |x::a,y::b,z::c,h1,h2=>by
  unfold B0 at *;by_cases e1:x=y
  ·subst e1;rw[if_pos rfl]at h1;by_cases e2:x=z
   ·subst e2;rw[if_pos rfl]at h2 ⊢;exact Gg h1 h2
   ·rw[if_neg e2]at h2 ⊢;exact h2
  ·rw[if_neg e1]at h1;by_cases e2:y=z
   ·subst e2;rw[if_neg e1];exact h1
   ·rw[if_neg e2]at h2;simp only[decide_eq_true_eq]at h1 h2;rw[if_neg (by omega)];simp only[decide_eq_true_eq];omega
theorem Hx:∀(a b:List Nat),a=b∨B0 a b=true∨B0 b a=true
 |[],[]=>.inl rfl
 |[],_::_=>.inr (.inl rfl)
 |_::_,[]=>.inr (.inr rfl)
 |x::a,y::b=>by
  unfold B0;by_cases e:x=y
  ·subst e;rcases Hx a b with h | h | h
   ·exact .inl (by rw[h])
   ·exact .inr (.inl (by rw[if_pos rfl];exact h))
   ·exact .inr (.inr (by rw[if_pos rfl];exact h))
  ·rw[if_neg e,if_neg (Ne.symm e)];simp only[decide_eq_true_eq];omega
def Asc (l:List (List Nat)):Prop:=l.Pairwise fun x y=>B0 x y=true
theorem Asc.eq:∀{l m:List (List Nat)},Asc l→Asc m→(∀x,x∈l↔x∈m)→l=m
 |[],[],_,_,_=>rfl
 |[],y::m,_,_,h=>by have:=(h y).2 (by simp);simp at this
 |x::l,[],_,_,h=>by have:=(h x).1 (by simp);simp at this
 |x::l,y::m,hl,hm,h=>by
  obtain⟨hl1,hl2⟩:=List.pairwise_cons.1 hl;obtain⟨hm1,hm2⟩:=List.pairwise_cons.1 hm;have hxy:x=y:=by
   rcases List.mem_cons.1 ((h x).1 (by simp))with h1|h1
   ·exact h1
   ·rcases List.mem_cons.1 ((h y).2 (by simp))with h2|h2
    ·exact h2.symm
    ·have:=Gg (hl1 y h2) (hm1 x h1);rw[Ij]at this;cases this
  subst hxy;rw[Asc.eq hl2 hm2 fun z=>?_];constructor
  ·intro hz;rcases List.mem_cons.1 ((h z).1 (by simp[hz]))with rfl | h1
   ·have:=hl1 z hz;rw[Ij]at this;cases this
   ·exact h1
  ·intro hz;rcases List.mem_cons.1 ((h z).2 (by simp[hz]))with rfl | h1
   ·have:=hm1 z hz;rw[Ij]at this;cases this
   ·exact h1
theorem Asc.of_sorted {l:List (List Nat)} (hn:l.Nodup) (h:l.Pairwise fun x y=>B0 y x=false):Asc l:=by
 have:=hn.and h;exact this.imp fun {a b} ⟨h1,h2⟩=>by
  rcases Hx a b with h3|h3|h3
  ·exact absurd h3 h1
  ·exact h3
  ·rw[h2]at h3;cases h3
def Nx:List (List Nat)→List Nat→List (List Nat)
 |[],x=>[x]
 |y::l,x=>if B0 x y=true then x::y::l else y::Nx l x
theorem Md {x z:List Nat}:∀{l:List (List Nat)},z∈Nx l x↔z=x∨z∈l
 |[]=>by simp[Nx]
 |y::l=>by
  unfold Nx;split
  ·simp
  ·simp only[List.mem_cons,Md (l:=l)];constructor
   ·rintro(h|h|h)<;>simp[h]
   ·rintro(h|h|h)<;>simp[h]
theorem Zm {x:List Nat}:∀{l:List (List Nat)},Asc l→x ∉ l→Asc (Nx l x)
 |[],_,_=>by simp[Nx,Asc]
 |y::l,h,hx=>by
  obtain⟨h1,h2⟩:=List.pairwise_cons.1 h;unfold Nx;split
  ·rename_i hb
   refine List.pairwise_cons.2 ⟨fun z hz=>?_,h⟩;rcases List.mem_cons.1 hz with rfl | hz
   ·exact hb
   ·exact Gg hb (h1 z hz)
  ·rename_i hb
   simp only[List.mem_cons,not_or]at hx;refine List.pairwise_cons.2 ⟨fun z hz=>?_,Zm h2 hx.2⟩;rcases Md.1 hz with rfl | hz
   ·rcases Hx z y with h3|h3|h3
    ·exact absurd h3 hx.1
    ·exact absurd h3 hb
    ·exact h3
   ·exact h1 z hz
theorem Nt {α:Type} (f:α→List Nat):∀(s:List α) (o:List (List Nat)),Asc o→(s.map f).Nodup→(∀a∈s,f a ∉ o)→Asc (s.foldl (fun o a=>Nx o (f a)) o)∧∀z,z∈s.foldl (fun o a=>Nx o (f a)) o↔z∈o∨z∈s.map f
 |[],o,h,_,_=>⟨h,by simp⟩
 |a::s,o,h,hn,hx=>by
  rw[List.map_cons,List.nodup_cons]at hn;have:=Nt f s (Nx o (f a)) (Zm h (hx a (by simp))) hn.2 fun b hb hc=>by
   rcases Md.1 hc with h1|h1
   ·exact hn.1 (by rw[←h1];exact List.mem_map.2 ⟨b,hb,rfl⟩)
   ·exact hx b (by simp[hb]) h1
  refine⟨this.1,fun z=>?_⟩;rw[List.foldl_cons,this.2 z,Md,List.map_cons,List.mem_cons];constructor
  ·rintro((h|h)|h)<;>simp[h]
  ·rintro(h|h|h)<;>simp[h]
def B6 (L:List Ed) (j:Nat):Bool:=L.all fun e=>!(e.1==j || e.2==j)
def Fl (j:Nat):List Nat:=[j]
def Rm (n:Nat) (L:List Ed):List (List Nat):=((List.range n).filter (B6 L)).foldl (fun o j=>Nx o (Fl j)) ((blocks n L).foldl (fun o m=>Nx o (Jy n m)) [])
theorem Wx {n m v:Nat}:v∈Jy n m↔v<n∧Cp m v=true:=by simp[Jy]
theorem Kc (n m:Nat):(Jy n m).length=sz n (Cp m):=by simp[Jy,sz,List.countP_eq_length_filter]
theorem Xo {n m k:Nat} (hm:m<2^n) (hk:k<2^n) (h:Jy n m=Jy n k):m=k:=T7 hm hk fun v hv=>by
 have h1:v∈Jy n m↔v∈Jy n k:=by rw[h]
 rw[Wx,Wx]at h1;cases h2:Cp m v<;>cases h3:Cp k v<;>simp_all
section
variable {n:Nat} {L:List Ed}
theorem Lg {m:Nat} (h:m∈blocks n L):m<2^n:=(Ci.1 (Dk.1 h).1).1
theorem F7 {m:Nat} (h:m∈blocks n L):Dv n L (Cp m):=(Ci.1 (Dk.1 h).1).2
theorem Fb {α β:Type} {f:α→β}:∀{l:List α},(∀x∈l,∀y∈l,f x=f y→x=y)→l.Nodup→(l.map f).Nodup
 |[],_,_=>by simp
 |a::l,h,hn=>by
  rw[List.nodup_cons]at hn;rw[List.map_cons,List.nodup_cons];refine⟨fun hc=>?_,Fb (fun x hx y hy=>h x (by simp[hx]) y (by simp[hy])) hn.2⟩;obtain⟨b,hb,e⟩:=List.mem_map.1 hc;rw[h b (by simp[hb]) a (by simp) e]at hb;exact hn.1 hb
theorem N4:Asc (Rm n L)∧∀z,z∈Rm n L↔(∃m∈blocks n L,z=Jy n m)∨∃j,j<n∧B6 L j=true∧z=[j]:=by
 have h1:=Nt (Jy n) (blocks n L) [] (by simp[Asc]) (Fb (fun x hx y hy=>Xo (Lg hx) (Lg hy)) Hz) (by simp);have h2:=Nt Fl ((List.range n).filter (B6 L)) _ h1.1 (Fb (fun x _ y _ h=>by simpa[Fl]using h) (List.nodup_range.filter _)) (fun j _ hc=>by
  rcases(h1.2 _).1 hc with h3|h3
  ·simp at h3
  ·obtain⟨m,hm,e⟩:=List.mem_map.1 h3;have h4:=Kc n m;rw[e]at h4;have:=(F7 hm).1;simp[Fl]at h4;omega)
 refine⟨h2.1,fun z=>?_⟩;unfold Rm;rw[h2.2 z,h1.2 z];simp only[List.not_mem_nil,false_or,List.mem_map,List.mem_filter,List.mem_range,Fl];constructor
 ·rintro(⟨m,hm,rfl⟩|⟨j,⟨hj,ha⟩,rfl⟩)
  ·exact .inl ⟨m,hm,rfl⟩
  ·exact .inr ⟨j,hj,ha,rfl⟩
 ·rintro(⟨m,hm,rfl⟩|⟨j,hj,ha,rfl⟩)
  ·exact .inl ⟨m,hm,rfl⟩
  ·exact .inr ⟨j,⟨hj,ha⟩,rfl⟩
def Hm (n:Nat) (L:List Ed) (e:Ed) (j:Nat):Bool:=(Lk n L).any fun m=>ins (Cp m) e&&Cp m j
theorem Jv (hL:∀e∈L,C0 n e) {e:Ed} {j:Nat} (hj:j<n) (he:C0 n e):Hm n L e j=true↔∃X,Dv n L X∧ins X e=true∧X j=true:=by
 unfold Hm;rw[List.any_eq_true];constructor
 ·rintro⟨m,hm,h⟩;rw[Bool.and_eq_true]at h;exact⟨_,(Ci.1 hm).2,h.1,h.2⟩
 ·rintro⟨X,h1,h2,h3⟩;obtain⟨m,h4,h5⟩:=Jm hL h1;rw[ins,Bool.and_eq_true]at h2;exact⟨m,(Dk.1 h4).1,by rw[ins,h5 _ he.1 h2.1,h5 _ he.2.1 h2.2,h5 _ hj h3];rfl⟩
def Ho (n:Nat) (L:List Ed) (e:Ed):List Nat:=(List.range n).filter (Hm n L e)
theorem L5 (hL:∀e∈L,C0 n e) (hs:Ba n L) {e:Ed} (he:C0 n e) {m:Nat} (hm:m∈blocks n L) (hi:ins (Cp m) e=true):Ho n L e=Jy n m:=by
 refine List.filter_congr fun v hv=>?_;rw[List.mem_range]at hv;cases hb:Cp m v with
 |true=>exact(Jv hL hv he).2 ⟨_,F7 hm,hi,hb⟩
 |false =>
  cases hw:Hm n L e v with
  |false=>rfl
  |true =>
   obtain⟨X,h1,h2,h3⟩:=(Jv hL hv he).1 hw;obtain⟨k,h4,h5⟩:=Jm hL h1;rw[ins,Bool.and_eq_true]at h2 hi;have hmk:=O8 hs hm h4 (Yo he.1 he.2.1 he.2.2 (by rw[cap,hi.1,h5 _ he.1 h2.1];rfl) (by rw[cap,hi.2,h5 _ he.2.1 h2.2];rfl));subst hmk;rw[h5 v hv h3]at hb;cases hb
theorem Tk (hL:∀e∈L,C0 n e) (hs:Ba n L) {e:Ed} (he:e∈L):∃m∈blocks n L,ins (Cp m) e=true:=by
 obtain⟨m,h1,h2⟩:=Jm hL (Ip hL hs he);obtain⟨h3,h4,_⟩:=hL e he;exact⟨m,h1,by rw[ins,h2 _ h3 (by simp[Ez]),h2 _ h4 (by simp[Ez])];rfl⟩
theorem Qd2 {m:Nat} (hm:m∈blocks n L):∃e∈L,ins (Cp m) e=true:=by
 have h1:=F7 hm;have h2:=h1.1;have h3:=h1.2;unfold spn at h3;exact List.countP_pos_iff.1 (show 0<L.countP (ins (Cp m)) by omega)
def Od (o:List (List Nat)) (c:List Nat):List (List Nat):=if c∈o then o else o++[c]
theorem Kw {α:Type} (f:α→List Nat):∀(s:List α) (o:List (List Nat)),o.Nodup→(s.foldl (fun o a=>Od o (f a)) o).Nodup∧∀z,z∈s.foldl (fun o a=>Od o (f a)) o↔z∈o∨z∈s.map f
 |[],o,h=>⟨h,by simp⟩
 |a::s,o,h=>by
  have hn:(Od o (f a)).Nodup:=by
   unfold Od;split
   ·exact h
   ·rename_i hc
    rw[List.nodup_append];exact⟨h,by simp,fun x hx y hy e=>by simp at hy;subst hy;subst e;exact hc hx⟩
  have hm:∀z,z∈Od o (f a)↔z∈o∨z=f a:=fun z=>by
   unfold Od;split
   ·rename_i hc
    exact⟨.inl,fun h=>h.elim id fun e=>e ▸ hc⟩
   ·simp
  have:=Kw f s (Od o (f a)) hn;refine⟨this.1,fun z=>?_⟩;rw[List.foldl_cons,this.2 z,hm,List.map_cons,List.mem_cons];constructor
  ·rintro((h|h)|h)<;>simp[h]
  ·rintro(h|h|h)<;>simp[h]
def Jh (n:Nat) (L:List Ed):List (List Nat):=L.foldl (fun o e=>Od o (Ho n L e)) []++((List.range n).filter (B6 L)).map Fl
theorem Xs (hL:∀e∈L,C0 n e) (hs:Ba n L):(Jh n L).Nodup∧∀z,z∈Jh n L↔z∈Rm n L:=by
 have h1:=Kw (Ho n L) L [] (by simp);have hmem:∀z,z∈Jh n L↔z∈Rm n L:=fun z=>by
  unfold Jh;rw[List.mem_append,h1.2 z,N4.2 z];simp only[List.not_mem_nil,false_or,List.mem_map,List.mem_filter,List.mem_range,Fl];constructor
  ·rintro(⟨e,he,rfl⟩|⟨j,⟨hj,ha⟩,rfl⟩)
   ·obtain⟨m,hm,hi⟩:=Tk hL hs he;exact .inl ⟨m,hm,L5 hL hs (hL e he) hm hi⟩
   ·exact .inr ⟨j,hj,ha,rfl⟩
  ·rintro(⟨m,hm,rfl⟩|⟨j,hj,ha,rfl⟩)
   ·obtain⟨e,he,hi⟩:=Qd2 hm;exact .inl ⟨e,he,L5 hL hs (hL e he) hm hi⟩
   ·exact .inr ⟨j,⟨hj,ha⟩,rfl⟩
 refine⟨?_,hmem⟩;unfold Jh;rw[List.nodup_append];refine⟨h1.1,Fb (fun x _ y _ h=>by simpa[Fl]using h) (List.nodup_range.filter _),fun x hx y hy e=>?_⟩;subst e;rcases(h1.2 x).1 hx with h3 | h3
 ·simp at h3
 ·obtain⟨e,he,rfl⟩:=List.mem_map.1 h3;obtain⟨m,hm,hi⟩:=Tk hL hs he;obtain⟨j,_,e2⟩:=List.mem_map.1 hy;rw[L5 hL hs (hL e he) hm hi]at e2;have h4:=Kc n m;rw[←e2]at h4;have:=(F7 hm).1;simp[Fl]at h4;omega
theorem Qav (hL:∀e∈L,C0 n e) (hs:Ba n L) {W:List (List Nat)} (hp:W.Perm (Jh n L)) (hw:W.Pairwise fun x y=>B0 y x=false):W=Rm n L:=by
 obtain⟨h1,h2⟩:=Xs hL hs;exact Asc.eq (Asc.of_sorted (hp.nodup_iff.2 h1) hw) N4.1 fun x=>by rw[hp.mem_iff,h2]
end
end Go.Lam
end
section
namespace Go.Lam
section
variable {n:Nat} {L:List Ed}
def Qm4:Nat→Bool:=fun _=>true
theorem Qlv (n:Nat):sz n Qm4=n:=by
 have h:(List.range n).countP Qm4=(List.range n).length:=List.countP_eq_length.2 fun _ _=>rfl;rw[List.length_range]at h;exact h
theorem Qm8 (L:List Ed):spn L Qm4=L.length:=List.countP_eq_length.2 fun _ _=>rfl
theorem Qbv:sz n (fun j=>!B6 L j)+(List.range n).countP (B6 L)=n:=by
 have h:=List.length_eq_countP_add_countP (B6 L) (l:=List.range n);rw[List.length_range]at h;have e:(List.range n).countP (fun a=>decide ¬B6 L a=true)=sz n (fun j=>!B6 L j):=List.countP_congr fun v _=>by cases B6 L v<;>simp
 omega
theorem Qbu:spn L (fun j=>!B6 L j)=L.length:=List.countP_eq_length.2 fun e he=>by
 have h:∀j,e.1=j∨e.2=j→B6 L j=false:=fun j hj=>by
  cases ha:B6 L j with
  |false=>rfl
  |true =>
   have:=List.all_eq_true.1 ha e he;simp only[Bool.not_eq_true',Bool.or_eq_false_iff,beq_eq_false_iff_ne]at this;omega
 show(!B6 L e.1&&!B6 L e.2)=true
 rw[h e.1 (.inl rfl),h e.2 (.inr rfl)];rfl
theorem Vz (hL:∀e∈L,C0 n e) (hs:Ba n L):(blocks n L).length≤L.length:=by
 rw[←Uw hL hs,←Te];refine Ki fun m hm=>?_;have:=(F7 hm).1;omega
theorem Qaa (hL:∀e∈L,C0 n e) (hs:Ba n L):(Jh n L).length=(blocks n L).length+(List.range n).countP (B6 L):=by
 have h1:=Xs hL hs;have hp:(Jh n L).Perm ((blocks n L).map (Jy n)++((List.range n).filter (B6 L)).map Fl):=by
  refine(List.perm_ext_iff_of_nodup h1.1 ?_).2 fun z=>?_
  ·rw[List.nodup_append];refine⟨Fb (fun x hx y hy=>Xo (Lg hx) (Lg hy)) Hz,Fb (fun x _ y _ h=>by simpa[Fl]using h) (List.nodup_range.filter _),fun x hx y hy e=>?_⟩;subst e;obtain⟨m,hm,rfl⟩:=List.mem_map.1 hx;obtain⟨j,_,e2⟩:=List.mem_map.1 hy;have h4:=Kc n m;rw[←e2]at h4;have:=(F7 hm).1;simp[Fl]at h4;omega
  ·rw[h1.2,N4.2];simp only[List.mem_append,List.mem_map,List.mem_filter,List.mem_range,Fl];constructor
   ·rintro(⟨m,hm,rfl⟩|⟨j,hj,ha,rfl⟩)
    ·exact .inl ⟨m,hm,rfl⟩
    ·exact .inr ⟨j,⟨hj,ha⟩,rfl⟩
   ·rintro(⟨m,hm,rfl⟩|⟨j,⟨hj,ha⟩,rfl⟩)
    ·exact .inl ⟨m,hm,rfl⟩
    ·exact .inr ⟨j,hj,ha,rfl⟩
 rw[hp.length_eq,List.length_append,List.length_map,List.length_map,←List.countP_eq_length_filter]
theorem Qkf (hL:∀e∈L,C0 n e) (hs:Ba n L) (h8:n≤8):(Jh n L).length≤12:=by
 rw[Qaa hL hs];have h1:=Vz hL hs;have h2:=Qbv (n:=n) (L:=L);have h3:=Qrf n fun j=>!B6 L j;rcases Nat.lt_or_ge (sz n fun j=>!B6 L j) 2 with h4 | h4
 ·have:spn L (fun j=>!B6 L j)=0:=Td hL (by omega);rw[Qbu]at this;omega
 ·have h5:=hs _ h4;rw[Qbu]at h5;rcases Nat.lt_or_ge ((blocks n L).length+(List.range n).countP (B6 L)) 13 with h6 | h6
  ·omega
  ·-- all is one block
   have hn8:n=8∧(List.range n).countP (B6 L)=0∧L.length=13:=by omega
   have hT:Dv n L Qm4:=⟨by rw[Qlv];omega,by rw[Qm8,Qlv];omega⟩;obtain⟨m,hm,hall⟩:=Jm hL hT;have h7:∀k∈blocks n L,k=m:=fun k hk=>(Dk.1 hk).2 m (Dk.1 hm).1 (fun v hv=>hall v (Qo1 (Lg hk) hv) rfl) ▸ rfl;have h8:(blocks n L).length≤1:=by
    have hnd:=Hz (n:=n) (L:=L)
    match hb:blocks n L,hnd with
    |[],_=>simp
    |[a],_=>simp
    |a::b::t,hnd =>
     rw[hb]at h7;have ha:=h7 a (by simp);have hb':=h7 b (by simp);rw[List.nodup_cons]at hnd;exact absurd (by rw[ha,hb'];simp) hnd.1
   omega
theorem Yc (n:Nat) (X:Nat→Bool):sz (n+1) X=sz n X+if X n=true then 1 else 0:=by
 simp[sz,List.range_succ,List.countP_append,List.countP_cons]
theorem Ba.joint (hs:Ba n L) (hL:∀e∈L,C0 n e):Ba (n+1) L:=fun X hX=>by
 rw[Yc]at hX ⊢;rcases Nat.lt_or_ge (sz n X) 2 with h | h
 ·rw[Td hL (by omega)];omega
 ·have:=hs X h;omega
theorem Ba.one (hs:Ba n L) (hL:∀e∈L,C0 n e) {x:Nat} (hx:x<n) {e:Ed} (he:e=(x,n)∨e=(n,x)):Ba (n+1) (L++[e]):=fun X hX=>by
 rw[Yc]at hX ⊢;rw[H9,Tv];have hi:ins X e=(X x&&X n):=by rcases he with rfl | rfl<;>simp[ins,Bool.and_comm]
 rw[hi];show spn L X+(0+_)+3≤_
 rcases Nat.lt_or_ge (sz n X) 2 with h|h
 ·rw[Td hL (by omega)];cases h1:X n<;>cases h2:X x<;>simp[h1]at*<;> (try have:=Qla hx h2)<;>omega
 ·have:=hs X h;cases h1:X n<;>cases h2:X x<;>simp<;>omega
end
end Go.Lam
end
section
namespace Go.Av
open Go.Proofs
structure RE where
 a:Int
 b:Int
 sq:RR
def RE.av (e:RE):AV:=.agg [.int .i64 e.a,.int .i64 e.b,.bool e.sq.n1,Am e.sq.l1,.bool e.sq.n2,Am e.sq.l2]
def D3 (l:List RE):List AV:=l.map RE.av
def Bb (l:List RE):AV:=.sl 6 (D3 l)
instance:Inhabited RE:=⟨⟨0,0,default⟩⟩
def H1 (l:List RE) (i:Nat):RE:=l.getD i default
theorem Jd {l:List RE} {i:Nat} (h:i<l.length):H1 l i=l[i]:=by unfold H1;rw[List.getD_eq_getElem?_getD,List.getElem?_eq_getElem h];rfl
@[simp] theorem Vi (l:List RE):(D3 l).length=l.length:=by simp[D3]
@[simp] theorem edl_get? {l:List RE} {i:Nat} (h:i<l.length):(D3 l)[i]?=some (H1 l i).av:=by simp[D3,Jd h,h]
@[simp] theorem edl_get {l:List RE} {i:Nat} (h:i<(D3 l).length):(D3 l)[i]=(H1 l i).av:=by simp[D3,Jd (by simpa using h:i<l.length)]
@[simp] theorem Qzi {l:List Nat} {i:Nat} (h:i<(Ar l).length):(Ar l)[i]=.int .i64 (l[i]'(by simpa using h):Nat):=by simp[Ar]
@[simp] theorem Qzj (l:List Nat):(Ar l).all (fun v=>v.cells.length==1&&v.cells.all AV.one)=true:=by simp[Ar,AV.cells,AV.one]
theorem RE.av_len (e:RE):e.av.cells.length=6:=rfl
theorem RE.av_ones (e:RE):e.av.cells.all AV.one=true:=rfl
theorem Ck (e:RE):e.av.cells=[.int .i64 e.a,.int .i64 e.b,.bool e.sq.n1,Am e.sq.l1,.bool e.sq.n2,Am e.sq.l2]:=rfl
theorem Jx (l:List Nat) (i v:Nat):(Ar l).set i (.int .i64 (v:Nat))=Ar (l.set i v):=by unfold Ar;rw[List.map_set]
theorem Mm {m m':Ac} {b n:Nat} {l:List Nat} (h:m b=some ⟨3,1,Ar l⟩) (hl:l.length=n) (hb:m' b=none:=by simp):B2 m m' (.osl b 1 0 n) (.sl 1 (Ar l)) :=
 .osl b 1 0 n _ (Ar l) h hb rfl (by simpa using hl) (by simp[hl]) (fun k v v' h1 h2=>by rw[Nat.zero_add]at h1;rw[h1]at h2;cases h2;exact .same _)
theorem X3 (l:List RE) (hl:l.length≤40):Aj Tryz.prog 45 [Bb l] Ac.emp fun v m=>v=.sl 1 (Ar (List.range l.length))∧m=Ac.emp:=by
 refine Ad Tryz.func45 rfl rfl 19 rfl (Nat.le_of_ble_eq_true rfl) ?_;unfold Bb;(repeat refine AW.seq_k fun K hK=>?_);refine AW.rg ?_;simp[Ak];try (refine hK _ rfl ?_;clear hK K)
 (repeat refine AW.seq_k fun K hK=>?_);refine AW.rg ?_;simp;try (refine hK _ rfl ?_;clear hK K)
 refine⟨by omega,Af.intro fun bl hbl=>?_⟩;refine hK _ rfl ?_;clear hK K;refine AW.seq_ex (ι:=Unit) (fun _=>[(3,.osl bl 1 0 l.length)]) (fun _=>Ac.emp.set bl ⟨3,1,Ar (List.range l.length)⟩) (fun _=>True) ?_ ?_
 ·(repeat refine AW.seq_k fun K hK=>?_);refine AW.rg ?_;simp;try (refine hK _ rfl ?_;clear hK K)
  refine AW.block (AW.loopS (ι:=Nat × List Nat) (fun z=>[(3,.osl bl 1 0 l.length),(9,.int .i64 (l.length:Nat)),(10,.int .i64 (z.1:Nat))]) (fun z=>Ac.emp.set bl ⟨3,1,Ar z.2⟩)
   (fun z=>z.1≤l.length∧z.2=List.range z.1++List.replicate (l.length-z.1) 0) (fun z=>l.length-z.1) (0,List.replicate l.length 0) ⟨by simp,by simp⟩ (by simp[Ar]) (by simp) ?_)
  rintro⟨i,o⟩ ⟨g1,g2⟩;simp only at g1 g2;have hol:o.length=l.length:=by rw[g2];simp;omega
  (repeat refine AW.seq_k fun K hK=>?_);refine AW.rg ?_;simp;try (refine hK _ rfl ?_;clear hK K)
  (repeat refine AW.seq ?_);refine AW.cs (fun hi=>?_) (fun hi=>?_) rfl<;>(try simp at hi)
  ·refine AW.skip ?_;try simp
   have w1:=Ap (i+1) (by omega);(repeat refine AW.seq ?_);refine AW.block ?_;(repeat refine AW.seq_k fun K hK=>?_);refine AW.rg ?_;simp;try (refine hK _ rfl ?_;clear hK K)
   (repeat refine AW.seq_k fun K hK=>?_);refine AW.rg ?_;simp[hol,hi];try (refine hK _ rfl ?_;clear hK K)
   (repeat refine AW.seq_k fun K hK=>?_);refine AW.rg ?_;simp[-Int.natCast_add,w1];try (refine hK _ rfl ?_;clear hK K)
   refine⟨i+1,o.set i i,⟨by omega,?_⟩,by omega,by rw[Jx],rfl⟩;rw[g2,List.set_append_right _ _ (by simp),List.length_range,Nat.sub_self,show l.length-i=(l.length-(i+1))+1 by omega,List.replicate_succ,List.set_cons_zero,List.range_succ,List.append_assoc];rfl
  ·refine AW.exit ?_;try simp
   have:i=l.length:=by omega
   rw[g2,this];simp
 ·rintro _ _;(repeat refine AW.seq_k fun K hK=>?_);refine AW.rg ?_;simp;try (refine hK _ rfl ?_;clear hK K)
  exact AW.ret (Ag rfl _ (Mm (by simp) (by simp)) ⟨rfl,rfl⟩)
end Go.Av
end
section
namespace Go.Av
open Go.Proofs Go.Lam
@[simp] theorem Qwu {l:List Nat} {i:Nat} (h:i<l.length):(Ar l).getD i .any=.int .i64 (l[i]:Nat):=by simp[Ar,h]
def Ae (es:List RE):Nat→Ed:=fun i=>((H1 es i).a.toNat,(H1 es i).b.toNat)
def Li (n:Nat) (es:List RE):Prop:=∀i,i<es.length→(H1 es i).a=((Ae es i).1:Nat)∧(H1 es i).b=((Ae es i).2:Nat)∧C0 n (Ae es i)
end Go.Av
end
section
namespace Go.Av
open Go.Proofs Go.Lam
def Bw (x y:RE):Bool:=(y.a==x.a&&y.b==x.b) || (y.a==x.b&&y.b==x.a)
def okE (n:Int) (pre:List RE) (x:RE):Bool:=decide (0≤x.a)&&decide (x.a<n)&&decide (0≤x.b)&&decide (x.b<n)&&!(x.a==x.b)&&x.sq.ok&&decide (0<Dx x.sq)&&!(pre.any (Bw x))
def Pu (n:Int) (es:List RE) (i:Nat):Bool:=okE n (es.take i) (H1 es i)
def Dd (n:Int) (es:List RE):Bool:=decide (1≤n)&&decide (n≤12)&&decide (es.length≤40)&&(List.range es.length).all (Pu n es)
def Cz (n:Int) (es:List RE):AV:=.int .i64 (if Dd n es=true then 0 else 1)
def Vv (es:List RE):Prop:=∀x∈es,x.sq.Lb
theorem Vv.at {es:List RE} (h:Vv es) {i:Nat} (hi:i<es.length):(H1 es i).sq.Lb:=by rw[Jd hi];exact h _ (List.getElem_mem hi)
theorem Cr {n:Int} {es:List RE} {i:Nat} (hi:i<es.length) (h:Pu n es i=false):Dd n es=false:=by
 unfold Dd;have:(List.range es.length).all (Pu n es)=false:=List.all_eq_false.2 ⟨i,by simpa using hi,by rw[h];simp⟩;rw[this,Bool.and_false]
theorem Qhj {b:Nat} (X:RE):B2 (Ac.emp.set b ⟨46,6,[X.av]⟩) Ac.emp (.ptr b 6 0 0) (.rptr [.int .i64 X.a,.int .i64 X.b,.bool X.sq.n1,Am X.sq.l1,.bool X.sq.n2,Am X.sq.l2]) :=
 .ptr b 6 0 0 ⟨46,6,[X.av]⟩ X.av (Ac.set_same _ _ _) rfl rfl rfl
theorem Cw {n:Int} {pre:List RE} {x:RE} (h:¬(0≤x.a∧x.a<n∧0≤x.b∧x.b<n∧x.a≠x.b∧x.sq.ok=true∧0<Dx x.sq∧pre.any (Bw x)=false)):okE n pre x=false:=by
 cases hc:okE n pre x with
 |false=>rfl
 |true=>unfold okE at hc;simp only[Bool.and_eq_true,decide_eq_true_eq,Bool.not_eq_true',beq_eq_false_iff_ne]at hc;exact absurd ⟨hc.1.1.1.1.1.1.1,hc.1.1.1.1.1.1.2,hc.1.1.1.1.1.2,hc.1.1.1.1.2,hc.1.1.1.2,hc.1.1.2,hc.1.2,hc.2⟩ h
theorem Ul {n:Int} {pre:List RE} {x:RE} (h:0≤x.a∧x.a<n∧0≤x.b∧x.b<n∧x.a≠x.b∧x.sq.ok=true∧0<Dx x.sq∧pre.any (Bw x)=false):okE n pre x=true:=by
 obtain⟨h1,h2,h3,h4,h5,h6,h7,h8⟩:=h;unfold okE;rw[h6,h8];simp[h1,h2,h3,h4,h5,h7]
theorem Qe1 (n:Int) (es:List RE) (hb:Vv es):Aj Tryz.prog 12 [.int .i64 n,Bb es] Ac.emp fun v m=>v=Cz n es∧m=Ac.emp:=by
 refine Ad Tryz.func12 rfl rfl 111 rfl (Nat.le_of_ble_eq_true rfl) ?_;unfold Bb;(repeat refine AW.seq_k fun K hK=>?_);refine AW.rg ?_;simp[Ak];try (refine hK _ rfl ?_;clear hK K)
 by_cases c1:n<1
 ·have hc:Dd n es=false:=by unfold Dd;simp;omega
  (repeat refine AW.seq_k fun K hK=>?_);refine AW.rg ?_;simp[c1];try (refine hK _ rfl ?_;clear hK K)
  refine AW.yes ?_ rfl;(repeat refine AW.seq_k fun K hK=>?_);refine AW.rg ?_;simp;try (refine hK _ rfl ?_;clear hK K)
  exact AW.ret (Ag rfl _ (.same _) ⟨by unfold Cz;rw[hc];rfl,rfl⟩)
 by_cases c2:12<n
 ·have hc:Dd n es=false:=by unfold Dd;simp;omega
  (repeat refine AW.seq_k fun K hK=>?_);refine AW.rg ?_;simp[c1,c2];try (refine hK _ rfl ?_;clear hK K)
  refine AW.yes ?_ rfl;(repeat refine AW.seq_k fun K hK=>?_);refine AW.rg ?_;simp;try (refine hK _ rfl ?_;clear hK K)
  exact AW.ret (Ag rfl _ (.same _) ⟨by unfold Cz;rw[hc];rfl,rfl⟩)
 by_cases c3:(40:Int)<(es.length:Int)
 ·have hc:Dd n es=false:=by unfold Dd;simp;omega
  (repeat refine AW.seq_k fun K hK=>?_);refine AW.rg ?_;simp[c1,c2,c3];try (refine hK _ rfl ?_;clear hK K)
  refine AW.yes ?_ rfl;(repeat refine AW.seq_k fun K hK=>?_);refine AW.rg ?_;simp;try (refine hK _ rfl ?_;clear hK K)
  exact AW.ret (Ag rfl _ (.same _) ⟨by unfold Cz;rw[hc];rfl,rfl⟩)
 (repeat refine AW.seq_k fun K hK=>?_);refine AW.rg ?_;simp[c1,c2,c3];try (refine hK _ rfl ?_;clear hK K)
 refine AW.no ?_ rfl;refine AW.skip ?_;try simp
 try (refine hK _ rfl ?_;clear hK K)
 refine AW.seq_ex (ι:=Unit) (fun _=>[]) (fun _=>Ac.emp) (fun _=>Dd n es=true) ?_ ?_
 ·(repeat refine AW.seq_k fun K hK=>?_);refine AW.rg ?_;simp;try (refine hK _ rfl ?_;clear hK K)
  refine AW.block (AW.loopS (ι:=Nat) (fun i=>[(0,.int .i64 n),(1,.sl 6 (D3 es)),(5,.int .i64 (i:Nat))]) (fun _=>Ac.emp)
   (fun i=>i≤es.length∧(List.range i).all (Pu n es)=true) (fun i=>es.length-i) 0 ⟨by simp,by simp⟩ rfl (by simp) ?_)
  rintro i ⟨g1,g2⟩;(repeat refine AW.seq_k fun K hK=>?_);refine AW.rg ?_;simp;try (refine hK _ rfl ?_;clear hK K)
  (repeat refine AW.seq ?_);refine AW.cs (fun hi=>?_) (fun hi=>?_) rfl<;>(try simp at hi)
  ·refine AW.skip ?_;try simp
   try (refine hK _ rfl ?_;clear hK K)
   have w1:=Ap (i+1) (by omega);have g3:∀x,x<i→Pu n es x=true:=by simpa using g2
   have hx:=hb.at hi;have hv:=I4 (H1 es i).sq.n1 (H1 es i).sq.l1 (H1 es i).sq.n2 (H1 es i).sq.l2 hx.1 hx.2;have hs:=Qaf (H1 es i).sq hx;have hp:Pu n es i=okE n (es.take i) (H1 es i):=rfl;generalize hX:H1 es i=X at *;have fin:∀s:St,Pu n es i=false→AW Tryz.prog Code.ret (Ou Tryz.prog Tryz.f12.results.toList fun v m=>v=Cz n es∧m=Ac.emp) (S 111 ((4,.int .i64 1)::[]) Ac.emp):=fun _ hf =>
    AW.ret (Ag rfl _ (.same _) ⟨by unfold Cz;rw[Cr hi hf];rfl,rfl⟩)
   (repeat refine AW.seq ?_);refine AW.block ?_;(repeat refine AW.seq_k fun K hK=>?_);refine AW.rg ?_;simp[hi,hX,Ck];try (refine hK _ rfl ?_;clear hK K)
   refine Af.intro fun b6 hb6=>?_;refine hK _ rfl ?_;clear hK K;refine AW.toEmp [(0,.int .i64 n),(1,.sl 6 (D3 es)),(5,.int .i64 (i:Nat)),(6,.rptr [.int .i64 X.a,.int .i64 X.b,.bool X.sq.n1,Am X.sq.l1,.bool X.sq.n2,Am X.sq.l2])] (by simp;exact Qhj X) ?_;by_cases d1:X.a<0
   ·have hf:Pu n es i=false:=by rw[hp];exact Cw (by rintro⟨q1,q2,q3,q4,q5,_⟩;omega)
    (repeat refine AW.seq_k fun K hK=>?_);refine AW.rg ?_;simp[d1];try (refine hK _ rfl ?_;clear hK K)
    refine AW.yes ?_ rfl;(repeat refine AW.seq_k fun K hK=>?_);refine AW.rg ?_;simp;try (refine hK _ rfl ?_;clear hK K)
    exact AW.ret (Ag rfl _ (.same _) ⟨by unfold Cz;rw[Cr hi hf];rfl,rfl⟩)
   by_cases d2:n≤X.a
   ·have hf:Pu n es i=false:=by rw[hp];exact Cw (by rintro⟨q1,q2,q3,q4,q5,_⟩;omega)
    (repeat refine AW.seq_k fun K hK=>?_);refine AW.rg ?_;simp[d1,d2];try (refine hK _ rfl ?_;clear hK K)
    refine AW.yes ?_ rfl;(repeat refine AW.seq_k fun K hK=>?_);refine AW.rg ?_;simp;try (refine hK _ rfl ?_;clear hK K)
    exact AW.ret (Ag rfl _ (.same _) ⟨by unfold Cz;rw[Cr hi hf];rfl,rfl⟩)
   by_cases d3:X.b<0
   ·have hf:Pu n es i=false:=by rw[hp];exact Cw (by rintro⟨q1,q2,q3,q4,q5,_⟩;omega)
    (repeat refine AW.seq_k fun K hK=>?_);refine AW.rg ?_;simp[d1,d2,d3];try (refine hK _ rfl ?_;clear hK K)
    refine AW.yes ?_ rfl;(repeat refine AW.seq_k fun K hK=>?_);refine AW.rg ?_;simp;try (refine hK _ rfl ?_;clear hK K)
    exact AW.ret (Ag rfl _ (.same _) ⟨by unfold Cz;rw[Cr hi hf];rfl,rfl⟩)
   by_cases d4:n≤X.b
   ·have hf:Pu n es i=false:=by rw[hp];exact Cw (by rintro⟨q1,q2,q3,q4,q5,_⟩;omega)
    (repeat refine AW.seq_k fun K hK=>?_);refine AW.rg ?_;simp[d1,d2,d3,d4];try (refine hK _ rfl ?_;clear hK K)
    refine AW.yes ?_ rfl;(repeat refine AW.seq_k fun K hK=>?_);refine AW.rg ?_;simp;try (refine hK _ rfl ?_;clear hK K)
    exact AW.ret (Ag rfl _ (.same _) ⟨by unfold Cz;rw[Cr hi hf];rfl,rfl⟩)
   by_cases d5:X.a=X.b
   ·have hf:Pu n es i=false:=by rw[hp];exact Cw (by rintro⟨q1,q2,q3,q4,q5,_⟩;omega)
    (repeat refine AW.seq_k fun K hK=>?_);refine AW.rg ?_;simp[d1,d2,d3,d4,d5];try (refine hK _ rfl ?_;clear hK K)
    refine AW.yes ?_ rfl;(repeat refine AW.seq_k fun K hK=>?_);refine AW.rg ?_;simp;try (refine hK _ rfl ?_;clear hK K)
    exact AW.ret (Ag rfl _ (.same _) ⟨by unfold Cz;rw[Cr hi hf];rfl,rfl⟩)
   by_cases d6:X.sq.ok=false
   ·have hf:Pu n es i=false:=by rw[hp];exact Cw (fun q=>by rw[d6]at q;simp at q)
    have hok:Pp X.sq.n1 X.sq.l1 X.sq.n2 X.sq.l2=false:=d6;(repeat refine AW.seq_k fun K hK=>?_);refine AW.rg ?_;simp[d1,d2,d3,d4,d5];try (refine hK _ rfl ?_;clear hK K)
    refine Aa.val hv ?_;simp[hok];try (refine hK _ rfl ?_;clear hK K)
    refine AW.yes ?_ rfl;(repeat refine AW.seq_k fun K hK=>?_);refine AW.rg ?_;simp;try (refine hK _ rfl ?_;clear hK K)
    exact AW.ret (Ag rfl _ (.same _) ⟨by unfold Cz;rw[Cr hi hf];rfl,rfl⟩)
   replace d6:X.sq.ok=true:=by simpa using d6
   have hok:Pp X.sq.n1 X.sq.l1 X.sq.n2 X.sq.l2=true:=d6;by_cases d7:Dx X.sq≤0
   ·have hf:Pu n es i=false:=by rw[hp];exact Cw (fun q=>by have:=q.2.2.2.2.2.2.1;omega)
    (repeat refine AW.seq_k fun K hK=>?_);refine AW.rg ?_;simp[d1,d2,d3,d4,d5];try (refine hK _ rfl ?_;clear hK K)
    refine Aa.val hv ?_;simp[hok];refine Aa.val hs ?_;simp[d7];try (refine hK _ rfl ?_;clear hK K)
    refine AW.yes ?_ rfl;(repeat refine AW.seq_k fun K hK=>?_);refine AW.rg ?_;simp;try (refine hK _ rfl ?_;clear hK K)
    exact AW.ret (Ag rfl _ (.same _) ⟨by unfold Cz;rw[Cr hi hf];rfl,rfl⟩)
   (repeat refine AW.seq_k fun K hK=>?_);refine AW.rg ?_;simp[d1,d2,d3,d4,d5];try (refine hK _ rfl ?_;clear hK K)
   refine Aa.val hv ?_;simp[hok];refine Aa.val hs ?_;simp[d7];try (refine hK _ rfl ?_;clear hK K)
   refine AW.no ?_ rfl;refine AW.skip ?_;try simp
   try (refine hK _ rfl ?_;clear hK K)
   (repeat refine AW.seq_k fun K hK=>?_);refine AW.rg ?_;simp;try (refine hK _ rfl ?_;clear hK K)
   refine AW.block (AW.loopS (ι:=Nat) (fun k=>[(0,.int .i64 n),(1,.sl 6 (D3 es)),(5,.int .i64 (i:Nat)),(6,.rptr [.int .i64 X.a,.int .i64 X.b,.bool X.sq.n1,Am X.sq.l1,.bool X.sq.n2,Am X.sq.l2]),(7,.int .i64 (k:Nat))]) (fun _=>Ac.emp)
    (fun k=>k≤i∧∀q,q<k→Bw X (H1 es q)=false) (fun k=>i-k) 0 ⟨by simp,by simp⟩ rfl (by simp) ?_)
   rintro k ⟨k1,k2⟩;(repeat refine AW.seq_k fun K hK=>?_);refine AW.rg ?_;simp;try (refine hK _ rfl ?_;clear hK K)
   (repeat refine AW.seq ?_);refine AW.cs (fun hk=>?_) (fun hk=>?_) rfl<;>(try simp at hk)
   ·refine AW.skip ?_;try simp
    try (refine hK _ rfl ?_;clear hK K)
    have w2:=Ap (k+1) (by omega);have hkl:k<es.length:=by omega
    have hmem:H1 es k∈es.take i:=by rw[Jd hkl];exact List.mem_take_iff_getElem.2 ⟨k,by omega,rfl⟩
    generalize hY:H1 es k=Y at *;have hf:Bw X Y=true→Pu n es i=false:=fun hs=>by rw[hp];exact Cw (fun q=>by have:=List.any_eq_false.1 q.2.2.2.2.2.2.2 Y hmem;exact this hs)
    have hno:Bw X Y=false→∀q,q<k+1→Bw X (H1 es q)=false:=fun hs q hq=>by
     rcases Nat.lt_or_ge q k with h1|h1
     ·exact k2 q h1
     ·rw[show q=k by omega,hY];exact hs
    (repeat refine AW.seq ?_);refine AW.block ?_;by_cases e1:Y.a=X.a
    ·by_cases e2:Y.b=X.b
     ·have pe1:(Y.a=X.a)=True:=eq_true e1;have pe2:(Y.b=X.b)=True:=eq_true e2;have hs:Bw X Y=true:=by unfold Bw;simp only[BEq.beq,pe1,pe2];simp
      (repeat refine AW.seq_k fun K hK=>?_);refine AW.rd [0,1,2,3,4,5,6,7,8,9,10,11,12,13,14,15,16,17,18,19,20,21,22,23,24,25,26,27,28,29,30,31,32,33,34,35,36,37] Ds ?_;simp[hkl,hY,Ck,pe1,pe2];try (refine hK _ rfl ?_;clear hK K)
      refine AW.yes ?_ rfl;(repeat refine AW.seq_k fun K hK=>?_);refine AW.rg ?_;simp;try (refine hK _ rfl ?_;clear hK K)
      exact AW.ret (Ag rfl _ (.same _) ⟨by unfold Cz;rw[Cr hi (hf hs)];rfl,rfl⟩)
     ·by_cases e3:Y.a=X.b
      ·by_cases e4:Y.b=X.a
       ·have pe1:(Y.a=X.a)=True:=eq_true e1;have pe2:(Y.b=X.b)=False:=eq_false e2;have pe3:(Y.a=X.b)=True:=eq_true e3;have pe4:(Y.b=X.a)=True:=eq_true e4;have hs:Bw X Y=true:=by unfold Bw;simp only[BEq.beq,pe1,pe2,pe3,pe4];simp
        (repeat refine AW.seq_k fun K hK=>?_);refine AW.rd [0,1,2,3,4,5,6,7,8,9,10,11,12,13,14,15,16,17,18,19,20,21,22,23,24,25,26,27,28,29,30,31,32,33,34,35,36,37] Ds ?_;simp[hkl,hY,Ck,pe1,pe2,pe3,pe4];try (refine hK _ rfl ?_;clear hK K)
        refine AW.yes ?_ rfl;(repeat refine AW.seq_k fun K hK=>?_);refine AW.rg ?_;simp;try (refine hK _ rfl ?_;clear hK K)
        exact AW.ret (Ag rfl _ (.same _) ⟨by unfold Cz;rw[Cr hi (hf hs)];rfl,rfl⟩)
       ·have pe1:(Y.a=X.a)=True:=eq_true e1;have pe2:(Y.b=X.b)=False:=eq_false e2;have pe3:(Y.a=X.b)=True:=eq_true e3;have pe4:(Y.b=X.a)=False:=eq_false e4;have hs:Bw X Y=false:=by unfold Bw;simp only[BEq.beq,pe1,pe2,pe3,pe4];simp
        (repeat refine AW.seq_k fun K hK=>?_);refine AW.rd [0,1,2,3,4,5,6,7,8,9,10,11,12,13,14,15,16,17,18,19,20,21,22,23,24,25,26,27,28,29,30,31,32,33,34,35,36,37] Ds ?_;simp[hkl,hY,Ck,pe1,pe2,pe3,pe4];try (refine hK _ rfl ?_;clear hK K)
        refine AW.no ?_ rfl;refine AW.skip ?_;try simp
        try (refine hK _ rfl ?_;clear hK K)
        (repeat refine AW.seq_k fun K hK=>?_);refine AW.rg ?_;simp[-Int.natCast_add,w2];try (refine hK _ rfl ?_;clear hK K)
        exact⟨⟨by omega,hno hs⟩,by omega⟩
      ·have pe1:(Y.a=X.a)=True:=eq_true e1;have pe2:(Y.b=X.b)=False:=eq_false e2;have pe3:(Y.a=X.b)=False:=eq_false e3;have hs:Bw X Y=false:=by unfold Bw;simp only[BEq.beq,pe1,pe2,pe3];simp
       (repeat refine AW.seq_k fun K hK=>?_);refine AW.rd [0,1,2,3,4,5,6,7,8,9,10,11,12,13,14,15,16,17,18,19,20,21,22,23,24,25,26,27,28,29,30,31,32,33,34,35,36,37] Ds ?_;simp[hkl,hY,Ck,pe1,pe2,pe3];try (refine hK _ rfl ?_;clear hK K)
       refine AW.no ?_ rfl;refine AW.skip ?_;try simp
       try (refine hK _ rfl ?_;clear hK K)
       (repeat refine AW.seq_k fun K hK=>?_);refine AW.rg ?_;simp[-Int.natCast_add,w2];try (refine hK _ rfl ?_;clear hK K)
       exact⟨⟨by omega,hno hs⟩,by omega⟩
    ·by_cases e3:Y.a=X.b
     ·by_cases e4:Y.b=X.a
      ·have pe1:(Y.a=X.a)=False:=eq_false e1;have pe3:(Y.a=X.b)=True:=eq_true e3;have pe4:(Y.b=X.a)=True:=eq_true e4;have hs:Bw X Y=true:=by unfold Bw;simp only[BEq.beq,pe1,pe3,pe4];simp
       (repeat refine AW.seq_k fun K hK=>?_);refine AW.rd [0,1,2,3,4,5,6,7,8,9,10,11,12,13,14,15,16,17,18,19,20,21,22,23,24,25,26,27,28,29,30,31,32,33,34,35,36,37] Ds ?_;simp[hkl,hY,Ck,pe1,pe3,pe4];try (refine hK _ rfl ?_;clear hK K)
       refine AW.yes ?_ rfl;(repeat refine AW.seq_k fun K hK=>?_);refine AW.rg ?_;simp;try (refine hK _ rfl ?_;clear hK K)
       exact AW.ret (Ag rfl _ (.same _) ⟨by unfold Cz;rw[Cr hi (hf hs)];rfl,rfl⟩)
      ·have pe1:(Y.a=X.a)=False:=eq_false e1;have pe3:(Y.a=X.b)=True:=eq_true e3;have pe4:(Y.b=X.a)=False:=eq_false e4;have hs:Bw X Y=false:=by unfold Bw;simp only[BEq.beq,pe1,pe3,pe4];simp
       (repeat refine AW.seq_k fun K hK=>?_);refine AW.rd [0,1,2,3,4,5,6,7,8,9,10,11,12,13,14,15,16,17,18,19,20,21,22,23,24,25,26,27,28,29,30,31,32,33,34,35,36,37] Ds ?_;simp[hkl,hY,Ck,pe1,pe3,pe4];try (refine hK _ rfl ?_;clear hK K)
       refine AW.no ?_ rfl;refine AW.skip ?_;try simp
       try (refine hK _ rfl ?_;clear hK K)
       (repeat refine AW.seq_k fun K hK=>?_);refine AW.rg ?_;simp[-Int.natCast_add,w2];try (refine hK _ rfl ?_;clear hK K)
       exact⟨⟨by omega,hno hs⟩,by omega⟩
     ·have pe1:(Y.a=X.a)=False:=eq_false e1;have pe3:(Y.a=X.b)=False:=eq_false e3;have hs:Bw X Y=false:=by unfold Bw;simp only[BEq.beq,pe1,pe3];simp
      (repeat refine AW.seq_k fun K hK=>?_);refine AW.rd [0,1,2,3,4,5,6,7,8,9,10,11,12,13,14,15,16,17,18,19,20,21,22,23,24,25,26,27,28,29,30,31,32,33,34,35,36,37] Ds ?_;simp[hkl,hY,Ck,pe1,pe3];try (refine hK _ rfl ?_;clear hK K)
      refine AW.no ?_ rfl;refine AW.skip ?_;try simp
      try (refine hK _ rfl ?_;clear hK K)
      (repeat refine AW.seq_k fun K hK=>?_);refine AW.rg ?_;simp[-Int.natCast_add,w2];try (refine hK _ rfl ?_;clear hK K)
      exact⟨⟨by omega,hno hs⟩,by omega⟩
   ·refine AW.exit ?_;try simp
    have hki:k=i:=by omega
    have hany:(es.take i).any (Bw X)=false:=by
     rw[List.any_eq_false];intro y hy;obtain⟨q,hq,rfl⟩:=List.mem_take_iff_getElem.1 hy;have:=k2 q (by omega);rw[Jd (by omega)]at this;rw[this];simp
    (repeat refine AW.seq_k fun K hK=>?_);refine AW.rg ?_;simp[-Int.natCast_add,w1];try (refine hK _ rfl ?_;clear hK K)
    exact⟨⟨by omega,by intro q hq;rcases Nat.lt_or_ge q i with h1 | h1;exact g3 q h1;rw[show q=i by omega,hp];exact Ul ⟨by omega,by omega,by omega,by omega,d5,d6,by omega,hany⟩⟩,by omega⟩
  ·refine AW.exit ?_;try simp
   have:i=es.length:=by omega
   unfold Dd;rw[←this,g2];simp;omega
 ·rintro _ h;(repeat refine AW.seq_k fun K hK=>?_);refine AW.rg ?_;simp;try (refine hK _ rfl ?_;clear hK K)
  exact AW.ret (Ag rfl _ (.same _) ⟨by unfold Cz;rw[h];rfl,rfl⟩)
end Go.Av
end
section
namespace Go.Av
open Go.Proofs Go.Lam
def Vp (pre:List RE) (c:Nat):Bool:=pre.any fun y=>(y.a.toNat*12+y.b.toNat==c) || (y.b.toNat*12+y.a.toNat==c)
def Jb (pre:List RE):List AV:=(List.range 144).map fun c=>.bool (Vp pre c)
@[simp] theorem O7 (pre:List RE):(Jb pre).length=144:=by simp[Jb]
theorem Qg (pre:List RE) {c:Nat} (hc:c<144):(Jb pre)[c]?=some (.bool (Vp pre c)):=by simp[Jb,hc]
theorem Qgp (pre:List RE):(Jb pre).all AV.one=true:=by simp[Jb,AV.one]
def RE.inB (x:RE):Prop:=0≤x.a∧x.a<12∧0≤x.b∧x.b<12
theorem Gy (pre:List RE) (x:RE) (hx:x.inB):((Jb pre).set (x.a.toNat*12+x.b.toNat) (.bool true)).set (x.b.toNat*12+x.a.toNat) (.bool true)=Jb (pre++[x]):=by
 obtain⟨h1,h2,h3,h4⟩:=hx;refine List.ext_getElem? fun c=>?_;by_cases hc:c<144
 ·rw[Qg _ hc,List.getElem?_set,List.length_set,O7];by_cases e1:x.b.toNat*12+x.a.toNat=c
  ·rw[if_pos e1,if_pos (by omega)];simp[Vp,e1]
  ·rw[if_neg e1,List.getElem?_set,O7];by_cases e2:x.a.toNat*12+x.b.toNat=c
   ·rw[if_pos e2,if_pos (by omega)];simp[Vp,e2]
   ·rw[if_neg e2,Qg _ hc];simp[Vp,e1,e2]
 ·rw[List.getElem?_eq_none (by simp;omega),List.getElem?_eq_none (by simp;omega)]
theorem Qdd {pre:List RE} {x:RE} (hp:∀y∈pre,y.inB) (hx:x.inB):Vp pre (x.a.toNat*12+x.b.toNat)=pre.any (Bw x):=by
 unfold Vp;rw[Bool.eq_iff_iff,List.any_eq_true,List.any_eq_true];obtain⟨h1,h2,h3,h4⟩:=hx;refine exists_congr fun y=>and_congr_right fun hy=>?_;obtain⟨q1,q2,q3,q4⟩:=hp y hy;unfold Bw;simp only[Bool.or_eq_true,beq_iff_eq,Bool.and_eq_true];omega
theorem T6 {cs:List AV} {j:Nat} (v:Bool) (h:j<cs.length) (hl:cs.length=144):B7 144 1 (.agg cs) (.bool v) j=.agg (cs.set j (.bool v)):=by
 unfold B7;rw[if_neg (by omega)];show AV.agg (cs.take j++[.bool v]++cs.drop (j+1))=_
 rw[List.set_eq_take_append_cons_drop,if_pos h];simp
theorem Qdg (bu:Nat) (pre:List RE):∀c y,Ac.emp.set bu ⟨73,144,[.agg (Jb pre)]⟩ c=some y→∀v∈y.l,v.cells.all AV.one=true:=by
 intro c y hy v hv;simp only[A9,Ay]at hy;split at hy
 ·cases hy;simp only[List.mem_singleton]at hv;subst hv;exact Qgp pre
 ·cases hy
theorem Qd0 {m':Ac} {bu b:Nat} {x:Fi} (X:RE) (h:m' b=none):B2 ((Ac.emp.set bu x).set b ⟨46,6,[X.av]⟩) m' (.ptr b 6 0 0) (.rptr [.int .i64 X.a,.int .i64 X.b,.bool X.sq.n1,Am X.sq.l1,.bool X.sq.n2,Am X.sq.l2]) :=
 .ptr b 6 0 0 ⟨46,6,[X.av]⟩ X.av (Ac.set_same _ _ _) h rfl rfl
set_option maxRecDepth 8000 in
theorem P4 (n:Int) (es:List RE) (hb:Vv es):Aj Tryz.prog 18 [.int .i64 n,Bb es] Ac.emp fun v m=>v=Cz n es∧m=Ac.emp:=by
 refine Ad Tryz.func18 rfl rfl 84 rfl (Nat.le_of_ble_eq_true rfl) ?_;unfold Bb;(repeat refine AW.seq_k fun K hK=>?_);refine AW.rg ?_;simp[Ak];try (refine hK _ rfl ?_;clear hK K)
 by_cases c1:n<1
 ·have hc:Dd n es=false:=by unfold Dd;simp;omega
  (repeat refine AW.seq_k fun K hK=>?_);refine AW.rg ?_;simp[c1];try (refine hK _ rfl ?_;clear hK K)
  refine AW.yes ?_ rfl;(repeat refine AW.seq_k fun K hK=>?_);refine AW.rg ?_;simp;try (refine hK _ rfl ?_;clear hK K)
  exact AW.ret (Ag rfl _ (.same _) ⟨by unfold Cz;rw[hc];rfl,rfl⟩)
 by_cases c2:12<n
 ·have hc:Dd n es=false:=by unfold Dd;simp;omega
  (repeat refine AW.seq_k fun K hK=>?_);refine AW.rg ?_;simp[c1,c2];try (refine hK _ rfl ?_;clear hK K)
  refine AW.yes ?_ rfl;(repeat refine AW.seq_k fun K hK=>?_);refine AW.rg ?_;simp;try (refine hK _ rfl ?_;clear hK K)
  exact AW.ret (Ag rfl _ (.same _) ⟨by unfold Cz;rw[hc];rfl,rfl⟩)
 by_cases c3:(40:Int)<(es.length:Int)
 ·have hc:Dd n es=false:=by unfold Dd;simp;omega
  (repeat refine AW.seq_k fun K hK=>?_);refine AW.rg ?_;simp[c1,c2,c3];try (refine hK _ rfl ?_;clear hK K)
  refine AW.yes ?_ rfl;(repeat refine AW.seq_k fun K hK=>?_);refine AW.rg ?_;simp;try (refine hK _ rfl ?_;clear hK K)
  exact AW.ret (Ag rfl _ (.same _) ⟨by unfold Cz;rw[hc];rfl,rfl⟩)
 (repeat refine AW.seq_k fun K hK=>?_);refine AW.rg ?_;simp[c1,c2,c3];try (refine hK _ rfl ?_;clear hK K)
 refine AW.no ?_ rfl;refine AW.skip ?_;try simp
 try (refine hK _ rfl ?_;clear hK K)
 (repeat refine AW.seq_k fun K hK=>?_);refine AW.rg ?_;simp;try (refine hK _ rfl ?_;clear hK K)
 refine Af.intro fun bu hbu=>?_;refine hK _ rfl ?_;clear hK K;refine AW.seq_ex (ι:=Unit) (fun _=>[]) (fun _=>Ac.emp.set bu ⟨73,144,[.agg (Jb es)]⟩) (fun _=>Dd n es=true) ?_ ?_
 ·(repeat refine AW.seq_k fun K hK=>?_);refine AW.rg ?_;simp;try (refine hK _ rfl ?_;clear hK K)
  refine AW.block (AW.loopS (ι:=Nat) (fun i=>[(0,.int .i64 n),(1,.sl 6 (D3 es)),(5,.ptr bu 144 0 0),(19,.sl 6 (D3 es)),(20,.int .i64 (es.length:Nat)),(21,.int .i64 (i:Nat))]) (fun i=>Ac.emp.set bu ⟨73,144,[.agg (Jb (es.take i))]⟩)
   (fun i=>i≤es.length∧(List.range i).all (Pu n es)=true) (fun i=>es.length-i) 0 ⟨by simp,by simp⟩ (by rfl) (by simp) ?_)
  rintro i ⟨g1,g2⟩;(repeat refine AW.seq_k fun K hK=>?_);refine AW.rg ?_;simp;try (refine hK _ rfl ?_;clear hK K)
  (repeat refine AW.seq ?_);refine AW.cs (fun hi=>?_) (fun hi=>?_) rfl<;>(try simp at hi)
  ·refine AW.skip ?_;try simp
   try (refine hK _ rfl ?_;clear hK K)
   have w1:=Ap (i+1) (by omega);have g3:∀x,x<i→Pu n es x=true:=by simpa using g2
   have hx:=hb.at hi;have hv:=F3 (H1 es i).sq hx;have hs:=N3 (H1 es i).sq hx;have hp:Pu n es i=okE n (es.take i) (H1 es i):=rfl;have htk:es.take (i+1)=es.take i++[H1 es i]:=by rw[Jd hi,List.take_add_one,List.getElem?_eq_getElem hi];rfl
   have hpre:∀y∈es.take i,y.inB:=by
    intro y hy;obtain⟨q,hq,rfl⟩:=List.mem_take_iff_getElem.1 hy;have h1:=g3 q (by omega);unfold Pu okE at h1;rw[Jd (by omega)]at h1;simp only[Bool.and_eq_true,decide_eq_true_eq]at h1;exact⟨by omega,by omega,by omega,by omega⟩
   generalize hX:H1 es i=X at *;(repeat refine AW.seq ?_);refine AW.block ?_;(repeat refine AW.seq_k fun K hK=>?_);refine AW.rg ?_;simp[hi,hX,Ck];try (refine hK _ rfl ?_;clear hK K)
   refine Af.intro fun b6 hb6=>?_;simp only[An,Ay,and_true]at hb6;have hb6':=hb6.1;have hb6'':=hb6.2;refine hK _ rfl ?_;clear hK K;refine AW.turn [(0,.int .i64 n),(1,.sl 6 (D3 es)),(5,.ptr bu 144 0 0),(7,.rptr [.int .i64 X.a,.int .i64 X.b,.bool X.sq.n1,Am X.sq.l1,.bool X.sq.n2,Am X.sq.l2]),(19,.sl 6 (D3 es)),(20,.int .i64 (es.length:Nat)),(21,.int .i64 (i:Nat))] (Ac.emp.set bu ⟨73,144,[.agg (Jb (es.take i))]⟩) (Bn.drop (by simp[hb6',hb6'']) (Qdg bu (es.take i))) ?_ ?_
   ·simp;exact Qd0 X (by simp[hb6'])
   by_cases d1:X.a<0
   ·have hf:Pu n es i=false:=by rw[hp];exact Cw (by rintro⟨q1,q2,q3,q4,q5,_⟩;omega)
    (repeat refine AW.seq_k fun K hK=>?_);refine AW.rdL [bu] [0,1,2,3,4,5,6,7,8,9,10,11,12,13,14,15,16,17,18,19,20,21,22,23,24,25,26,27,28,29,30,31,32,33,34,35] Ds (by simp) ?_;simp[d1];try (refine hK _ rfl ?_;clear hK K)
    refine AW.yes ?_ rfl;(repeat refine AW.seq_k fun K hK=>?_);refine AW.rg ?_;simp;try (refine hK _ rfl ?_;clear hK K)
    exact AW.ret (Ag rfl _ (.same _) ⟨by unfold Cz;rw[Cr hi hf];rfl,rfl⟩)
   by_cases d2:n≤X.a
   ·have hf:Pu n es i=false:=by rw[hp];exact Cw (by rintro⟨q1,q2,q3,q4,q5,_⟩;omega)
    (repeat refine AW.seq_k fun K hK=>?_);refine AW.rdL [bu] [0,1,2,3,4,5,6,7,8,9,10,11,12,13,14,15,16,17,18,19,20,21,22,23,24,25,26,27,28,29,30,31,32,33,34,35] Ds (by simp) ?_;simp[d1,d2];try (refine hK _ rfl ?_;clear hK K)
    refine AW.yes ?_ rfl;(repeat refine AW.seq_k fun K hK=>?_);refine AW.rg ?_;simp;try (refine hK _ rfl ?_;clear hK K)
    exact AW.ret (Ag rfl _ (.same _) ⟨by unfold Cz;rw[Cr hi hf];rfl,rfl⟩)
   by_cases d3:X.b<0
   ·have hf:Pu n es i=false:=by rw[hp];exact Cw (by rintro⟨q1,q2,q3,q4,q5,_⟩;omega)
    (repeat refine AW.seq_k fun K hK=>?_);refine AW.rdL [bu] [0,1,2,3,4,5,6,7,8,9,10,11,12,13,14,15,16,17,18,19,20,21,22,23,24,25,26,27,28,29,30,31,32,33,34,35] Ds (by simp) ?_;simp[d1,d2,d3];try (refine hK _ rfl ?_;clear hK K)
    refine AW.yes ?_ rfl;(repeat refine AW.seq_k fun K hK=>?_);refine AW.rg ?_;simp;try (refine hK _ rfl ?_;clear hK K)
    exact AW.ret (Ag rfl _ (.same _) ⟨by unfold Cz;rw[Cr hi hf];rfl,rfl⟩)
   by_cases d4:n≤X.b
   ·have hf:Pu n es i=false:=by rw[hp];exact Cw (by rintro⟨q1,q2,q3,q4,q5,_⟩;omega)
    (repeat refine AW.seq_k fun K hK=>?_);refine AW.rdL [bu] [0,1,2,3,4,5,6,7,8,9,10,11,12,13,14,15,16,17,18,19,20,21,22,23,24,25,26,27,28,29,30,31,32,33,34,35] Ds (by simp) ?_;simp[d1,d2,d3,d4];try (refine hK _ rfl ?_;clear hK K)
    refine AW.yes ?_ rfl;(repeat refine AW.seq_k fun K hK=>?_);refine AW.rg ?_;simp;try (refine hK _ rfl ?_;clear hK K)
    exact AW.ret (Ag rfl _ (.same _) ⟨by unfold Cz;rw[Cr hi hf];rfl,rfl⟩)
   by_cases d5:X.a=X.b
   ·have hf:Pu n es i=false:=by rw[hp];exact Cw (by rintro⟨q1,q2,q3,q4,q5,_⟩;omega)
    (repeat refine AW.seq_k fun K hK=>?_);refine AW.rdL [bu] [0,1,2,3,4,5,6,7,8,9,10,11,12,13,14,15,16,17,18,19,20,21,22,23,24,25,26,27,28,29,30,31,32,33,34,35] Ds (by simp) ?_;simp[d1,d2,d3,d4,d5];try (refine hK _ rfl ?_;clear hK K)
    refine AW.yes ?_ rfl;(repeat refine AW.seq_k fun K hK=>?_);refine AW.rg ?_;simp;try (refine hK _ rfl ?_;clear hK K)
    exact AW.ret (Ag rfl _ (.same _) ⟨by unfold Cz;rw[Cr hi hf];rfl,rfl⟩)
   have hin:X.inB:=⟨by omega,by omega,by omega,by omega⟩;have hug:=Qg (es.take i) (c:=X.a.toNat*12+X.b.toNat) (by obtain⟨q1,q2,q3,q4⟩:=hin;omega);have hus:=Qdd (pre:=es.take i) (x:=X) hpre hin;have l1:X.a<12:=by omega
   have l2:X.b<12:=by omega
   have l3:0≤X.a:=by omega
   have l4:0≤X.b:=by omega
   by_cases d0:(es.take i).any (Bw X)=true
   ·have hf:Pu n es i=false:=by rw[hp];exact Cw (fun q=>by have:=q.2.2.2.2.2.2.2;rw[d0]at this;cases this)
    rw[hus,d0]at hug;(repeat refine AW.seq_k fun K hK=>?_);refine AW.rdL [bu] [0,1,2,3,4,5,6,7,8,9,10,11,12,13,14,15,16,17,18,19,20,21,22,23,24,25,26,27,28,29,30,31,32,33,34,35] Ds (by simp) ?_;simp[d1,d2,d3,d4,d5,l1,l2,l3,l4,hug];try (refine hK _ rfl ?_;clear hK K)
    refine AW.yes ?_ rfl;(repeat refine AW.seq_k fun K hK=>?_);refine AW.rg ?_;simp;try (refine hK _ rfl ?_;clear hK K)
    exact AW.ret (Ag rfl _ (.same _) ⟨by unfold Cz;rw[Cr hi hf];rfl,rfl⟩)
   replace d0:(es.take i).any (Bw X)=false:=by simpa using d0
   rw[hus,d0]at hug;(repeat refine AW.seq_k fun K hK=>?_);refine AW.rdL [bu] [0,1,2,3,4,5,6,7,8,9,10,11,12,13,14,15,16,17,18,19,20,21,22,23,24,25,26,27,28,29,30,31,32,33,34,35] Ds (by simp) ?_;simp[d1,d2,d3,d4,d5,l1,l2,l3,l4,hug];try (refine hK _ rfl ?_;clear hK K)
   refine AW.no ?_ rfl;refine AW.skip ?_;try simp
   try (refine hK _ rfl ?_;clear hK K)
   by_cases d6:X.sq.ok=false
   ·have hf:Pu n es i=false:=by rw[hp];exact Cw (fun q=>by rw[d6]at q;simp at q)
    (repeat refine AW.seq_k fun K hK=>?_);refine AW.rg ?_;simp;try (refine hK _ rfl ?_;clear hK K)
    refine Aa.val hv ?_;simp[d6];try (refine hK _ rfl ?_;clear hK K)
    refine AW.yes ?_ rfl;(repeat refine AW.seq_k fun K hK=>?_);refine AW.rg ?_;simp;try (refine hK _ rfl ?_;clear hK K)
    exact AW.ret (Ag rfl _ (.same _) ⟨by unfold Cz;rw[Cr hi hf];rfl,rfl⟩)
   replace d6:X.sq.ok=true:=by simpa using d6
   by_cases d7:Dx X.sq≤0
   ·have hf:Pu n es i=false:=by rw[hp];exact Cw (fun q=>by have:=q.2.2.2.2.2.2.1;omega)
    (repeat refine AW.seq_k fun K hK=>?_);refine AW.rg ?_;simp;try (refine hK _ rfl ?_;clear hK K)
    refine Aa.val hv ?_;simp[d6];refine Aa.val hs ?_;simp[d7];try (refine hK _ rfl ?_;clear hK K)
    refine AW.yes ?_ rfl;(repeat refine AW.seq_k fun K hK=>?_);refine AW.rg ?_;simp;try (refine hK _ rfl ?_;clear hK K)
    exact AW.ret (Ag rfl _ (.same _) ⟨by unfold Cz;rw[Cr hi hf];rfl,rfl⟩)
   (repeat refine AW.seq_k fun K hK=>?_);refine AW.rg ?_;simp;try (refine hK _ rfl ?_;clear hK K)
   refine Aa.val hv ?_;simp[d6];refine Aa.val hs ?_;simp[d7];try (refine hK _ rfl ?_;clear hK K)
   refine AW.no ?_ rfl;refine AW.skip ?_;try simp
   try (refine hK _ rfl ?_;clear hK K)
   have st1:=T6 (cs:=Jb (es.take i)) (j:=X.a.toNat*12+X.b.toNat) true (by simp;obtain⟨q1,q2,q3,q4⟩:=hin;omega) (by simp);have st2:=T6 (cs:=(Jb (es.take i)).set (X.a.toNat*12+X.b.toNat) (.bool true)) (j:=X.b.toNat*12+X.a.toNat) true (by simp;obtain⟨q1,q2,q3,q4⟩:=hin;omega) (by simp);have pj1:X.a.toNat*12+X.b.toNat<144:=by omega
   have pj2:X.b.toNat*12+X.a.toNat<144:=by omega
   (repeat refine AW.seq_k fun K hK=>?_);refine AW.rdT [] [7,71,73,75,77] [] [] [0,1,2,3,4,5,6,7,8,9,11,10,12,13] Ds (by simp[l1,l2,l3,l4,st1,st2,Gy _ _ hin,pj1,pj2]) (by simp[l1,l2,l3,l4,st1,st2,Gy _ _ hin,pj1,pj2]) (by simp[l1,l2,l3,l4,st1,st2,Gy _ _ hin,pj1,pj2]) (by simp[l1,l2,l3,l4,st1,st2,Gy _ _ hin,pj1,pj2]) (by simp[l1,l2,l3,l4,st1,st2,Gy _ _ hin,pj1,pj2]) ?_;simp[l1,l2,l3,l4,st1,st2,Gy _ _ hin,pj1,pj2];try (refine hK _ rfl ?_;clear hK K)
   refine⟨by omega,by omega,?_⟩;(repeat refine AW.seq_k fun K hK=>?_);refine AW.rg ?_;simp[-Int.natCast_add,w1];try (refine hK _ rfl ?_;clear hK K)
   exact⟨i+1,⟨by omega,by intro q hq;rcases Nat.lt_or_ge q i with h1 | h1;exact g3 q h1;rw[show q=i by omega,hp];exact Ul ⟨by omega,by omega,by omega,by omega,d5,d6,by omega,d0⟩⟩,by omega,by rw[htk],rfl⟩
  ·refine AW.exit ?_;try simp
   have:i=es.length:=by omega
   refine⟨?_,?_⟩
   ·unfold Dd;rw[←this,g2];simp;omega
   ·rw[List.take_of_length_le (by omega)]
 ·rintro _ h;(repeat refine AW.seq_k fun K hK=>?_);refine AW.rg ?_;simp;try (refine hK _ rfl ?_;clear hK K)
  exact AW.ret (Ag rfl _ (.same _) ⟨by unfold Cz;rw[h];rfl,rfl⟩)
end Go.Av
end
section
namespace Go.Av
open Go.Proofs Go.Lam
theorem E2 {n:Int} {es:List RE} (h:Dd n es=true):(1≤n∧n≤12∧es.length≤40)∧∀i,i<es.length→okE n (es.take i) (H1 es i)=true:=by
 unfold Dd at h;simp only[Bool.and_eq_true,decide_eq_true_eq,List.all_eq_true,List.mem_range]at h;exact⟨⟨h.1.1.1,h.1.1.2,h.1.2⟩,h.2⟩
theorem P6 {n:Int} {pre:List RE} {x:RE} (h:okE n pre x=true):0≤x.a∧x.a<n∧0≤x.b∧x.b<n∧x.a≠x.b∧x.sq.ok=true∧0<Dx x.sq∧pre.any (Bw x)=false:=by
 unfold okE at h;simp only[Bool.and_eq_true,decide_eq_true_eq,Bool.not_eq_true',beq_eq_false_iff_ne]at h;exact⟨h.1.1.1.1.1.1.1,h.1.1.1.1.1.1.2,h.1.1.1.1.1.2,h.1.1.1.1.2,h.1.1.1.2,h.1.1.2,h.1.2,h.2⟩
theorem Mt {n:Int} {es:List RE} (h:Dd n es=true):Li n.toNat es:=by
 obtain⟨⟨h1,h2,h3⟩,h4⟩:=E2 h;intro i hi;obtain⟨q1,q2,q3,q4,q5,_⟩:=P6 (h4 i hi);unfold Ae C0;simp only;omega
def Gq (n:Int) (es:List RE):List Nat:=if Dd n es=true then Bx n.toNat (Ae es) [] (List.range es.length) else []
theorem Li.at {n:Nat} {es:List RE} (h:Li n es) {s:List Nat} (hs:∀i∈s,i<es.length):∀i∈s,C0 n (Ae es i):=fun i hi=>(h i (hs i hi)).2.2
theorem Qh5 {n:Nat} {E:Nat→Ed} {i k:Nat} (h:k∈Bx n E [] (List.range i)):k<i:=by
 rcases Kg h with h1|h1
 ·simp at h1
 ·simpa using h1
theorem Qiq (n:Nat) (E:Nat→Ed) (i:Nat):(Bx n E [] (List.range i)).length≤i:=by
 have:=Gz (n:=n) (E:=E) (List.range i) [];simpa using this
def O2 (n:Int) (es:List RE):AV:=.int .i64 (if Dd n es=true then (if n=1 then 0 else 2*n-3-((Gq n es).length:Int)) else 0)
theorem S3 {n:Int} {es:List RE} (h:Dd n es=true):(Gq n es).length≤40:=by
 obtain⟨⟨h1,h2,h3⟩,_⟩:=E2 h;unfold Gq;rw[if_pos h];have:=Qiq n.toNat (Ae es) es.length;omega
end Go.Av
end
section
namespace Go.Av
open Go.Proofs Go.Lam
theorem Qa7 (l:List Nat) (e:Nat) (hl:l.length<2^40):Aj Tryz.prog 89 [.sl 1 (Ar l),.int .i64 (e:Nat)] Ac.emp fun v m=>(∃t:Int,v=.int .i64 t∧(0≤t↔e∈l))∧m=Ac.emp:=by
 refine Ad Tryz.func89 rfl rfl 19 rfl (Nat.le_of_ble_eq_true rfl) ?_;(repeat refine AW.seq_k fun K hK=>?_);refine AW.rg ?_;simp[Ak];try (refine hK _ rfl ?_;clear hK K)
 refine AW.seq_ex (ι:=Unit) (fun _=>[]) (fun _=>Ac.emp) (fun _=>e ∉ l) ?_ ?_
 ·(repeat refine AW.seq_k fun K hK=>?_);refine AW.rg ?_;simp;try (refine hK _ rfl ?_;clear hK K)
  refine AW.block (AW.loopS (ι:=Nat) (fun i=>[(0,.sl 1 (Ar l)),(1,.int .i64 (e:Nat)),(7,.int .i64 (l.length:Nat)),(8,.int .i64 (i:Nat))]) (fun i=>Ac.emp)
   (fun i=>i≤l.length∧∀k,(h:k<l.length)→k<i→l[k]≠e) (fun i=>l.length-i) 0 ⟨by simp,by omega⟩ rfl (by simp) ?_)
  rintro i ⟨g1,g2⟩;(repeat refine AW.seq_k fun K hK=>?_);refine AW.rg ?_;simp;try (refine hK _ rfl ?_;clear hK K)
  (repeat refine AW.seq ?_);refine AW.cs (fun hi=>?_) (fun hi=>?_) rfl<;>(try simp at hi)
  ·refine AW.skip ?_;try simp
   try (refine hK _ rfl ?_;clear hK K)
   have w1:=Ap (i+1) (by omega);(repeat refine AW.seq ?_);refine AW.block ?_;(repeat refine AW.seq_k fun K hK=>?_);refine AW.rg ?_;simp;try (refine hK _ rfl ?_;clear hK K)
   (repeat refine AW.seq_k fun K hK=>?_);refine AW.rg ?_;simp[hi];try (refine hK _ rfl ?_;clear hK K)
   (repeat refine AW.seq ?_);refine AW.cs (fun he=>?_) (fun he=>?_) rfl<;>(try simp at he)
   ·(repeat refine AW.seq_k fun K hK=>?_);refine AW.rg ?_;simp;try (refine hK _ rfl ?_;clear hK K)
    exact AW.ret (Ag rfl _ (.same _) ⟨⟨i,rfl,⟨fun _=>(by rw[he];exact List.getElem_mem hi),fun _=>(by omega)⟩⟩,rfl⟩)
   ·refine AW.skip ?_;try simp
    try (refine hK _ rfl ?_;clear hK K)
    (repeat refine AW.seq_k fun K hK=>?_);refine AW.rg ?_;simp[-Int.natCast_add,w1];try (refine hK _ rfl ?_;clear hK K)
    refine⟨⟨by omega,fun k h hk=>?_⟩,by omega⟩;rcases Nat.lt_or_ge k i with h1 | h1
    ·exact g2 k h h1
    ·have:k=i:=by omega
     subst this;exact fun h=>he h.symm
  ·refine AW.exit ?_;try simp
   intro hm;obtain⟨k,hk,rfl⟩:=List.mem_iff_getElem.1 hm;exact g2 k hk (by omega) rfl
 ·rintro _ h;(repeat refine AW.seq_k fun K hK=>?_);refine AW.rg ?_;simp;try (refine hK _ rfl ?_;clear hK K)
  exact AW.ret (Ag rfl _ (.same _) ⟨⟨-1,rfl,⟨fun h=>(by omega),fun h'=>absurd h' h⟩⟩,rfl⟩)
theorem Tg (l:List Nat) (e:Nat) (hl:l.length<2^40):Aj Tryz.prog 50 [.sl 1 (Ar l),.int .i64 (e:Nat)] Ac.emp fun v m=>v=.bool (decide (e∈l))∧m=Ac.emp:=by
 have hc:=Qa7 l e hl;refine Ad Tryz.func50 rfl rfl 9 rfl (Nat.le_of_ble_eq_true rfl) ?_;(repeat refine AW.seq_k fun K hK=>?_);refine AW.rg ?_;simp[Ak];try (refine hK _ rfl ?_;clear hK K)
 (repeat refine AW.seq_k fun K hK=>?_);refine AW.rg ?_;simp;try (refine hK _ rfl ?_;clear hK K)
 refine Aa.pure hc ?_;rintro _ ⟨t,rfl,ht⟩;simp;try (refine hK _ rfl ?_;clear hK K)
 exact AW.ret (Ag rfl _ (.same _) ⟨by show AV.bool (decide (0≤t))=_;rw[decide_eq_decide.2 ht],rfl⟩)
theorem Xt (b:Nat) (l:List Nat):∀c y,Ac.emp.set b ⟨3,1,Ar l⟩ c=some y→∀v∈y.l,v.cells.all AV.one=true:=by
 intro c y hy v hv;simp only[A9,Ay]at hy;split at hy
 ·cases hy;exact C3 _ v hv
 ·cases hy
theorem Zz (l:List Nat) (hl:l.length<2^40) (h0:l≠[]):Aj Tryz.prog 52 [.sl 1 (Ar l)] Ac.emp fun v m=>∃b,v=.osl b 1 0 l.length∧m=Ac.emp.set b ⟨3,1,Ar l⟩:=by
 have hi:Ar l≠[]:=by intro h;have:=Lr l;rw[h]at this;exact h0 (List.eq_nil_of_length_eq_zero this.symm)
 refine Ad Tryz.func52 rfl rfl 8 rfl (Nat.le_of_ble_eq_true rfl) ?_;(repeat refine AW.seq_k fun K hK=>?_);refine AW.rg ?_;simp[Ak];try (refine hK _ rfl ?_;clear hK K)
 (repeat refine AW.seq_k fun K hK=>?_);refine AW.rg ?_;simp[Lx,hi];try (refine hK _ rfl ?_;clear hK K)
 refine AW.no ?_ rfl;refine AW.skip ?_;try simp
 try (refine hK _ rfl ?_;clear hK K)
 (repeat refine AW.seq_k fun K hK=>?_);refine AW.rg ?_;simp;try (refine hK _ rfl ?_;clear hK K)
 refine Af.intro fun b5 _=>⟨by omega,by unfold maxLen;omega,Af.intro fun b7 _=>?_⟩;refine hK _ rfl ?_;clear hK K;exact AW.ret (B9 rfl (Xt b7 l) ⟨b7,rfl,rfl⟩)
theorem Pv (b:Nat) (l:List Nat) (k:Nat) (hk:k<l.length) (hl:l.length<2^40):Aj Tryz.prog 51 [.osl b 1 0 l.length,.int .i64 (k:Nat),.int .i64 ((k+1:Nat):Int)] (Ac.emp.set b ⟨3,1,Ar l⟩) fun v m=>v=.osl b 1 0 (l.length-1)∧m=Ac.emp.set b ⟨3,1,Ar (l.eraseIdx k)⟩:=by
 have hkn:¬(k:Int)=((k+1:Nat):Int):=by omega
 refine Ad Tryz.func51 rfl rfl 33 rfl (Nat.le_of_ble_eq_true rfl) ?_;(repeat refine AW.seq_k fun K hK=>?_);refine AW.rg ?_;simp[-Int.natCast_add,Ak];try (refine hK _ rfl ?_;clear hK K)
 have w0:((l.length:Int)).toNat=l.length:=by simp
 have c0:(0:Int)≤(l.length:Int):=by omega
 have c1:((k+1:Nat):Int)≤(l.length:Int):=by omega
 have c2:(k:Int)≤((k+1:Nat):Int):=by omega
 have c3:¬l.length=k:=by omega
 (repeat refine AW.seq_k fun K hK=>?_);refine AW.rg ?_;simp[-Int.natCast_add,c0,c1,c2,c3];try (refine hK _ rfl ?_;clear hK K)
 (repeat refine AW.seq_k fun K hK=>?_);refine AW.rg ?_;simp[-Int.natCast_add,hkn];try (refine hK _ rfl ?_;clear hK K)
 refine AW.no ?_ rfl;refine AW.skip ?_;try simp[-Int.natCast_add]
 try (refine hK _ rfl ?_;clear hK K)
 (repeat refine AW.seq_k fun K hK=>?_);refine AW.rg ?_;simp[-Int.natCast_add];try (refine hK _ rfl ?_;clear hK K)
 have key:(Ar l).take k++(Ar l).drop (k+1)++(Ar l).drop (l.length-1)=Ar (l.eraseIdx k++l.drop (l.length-1)):=by
  rw[List.eraseIdx_eq_take_drop_succ];simp[Ar,List.map_take,List.map_drop]
 have hel:(l.eraseIdx k).length=l.length-1:=by rw[List.length_eraseIdx,if_pos hk]
 have hdl:(l.drop (l.length-1)).length=1:=by simp;omega
 have key2:(Ar (l.eraseIdx k++l.drop (l.length-1))).take (l.length-1)=Ar (l.eraseIdx k):=by
  unfold Ar;rw[←List.map_take,List.take_append_of_le_length (by omega),List.take_of_length_le (by omega)]
 refine AW.seq_has [(0,.osl b 1 0 (l.length-1)),(7,.int .i64 (l.length:Nat))] (Ac.emp.set b ⟨3,1,Ar (l.eraseIdx k++l.drop (l.length-1))⟩) ?_ ?_
 ·refine AW.rdLR [26] [] [0,1,2,3,4,5,6,7] Ds (by simp[-Int.natCast_add]) ?_;by_cases hlast:k+1=l.length
  ·have hne:¬l=[]:=by rintro rfl;simp at hk
   simp[c0,c1,c2,hlast,Xn,hne];refine⟨by omega,by omega,by unfold maxLen;omega,by omega,?_,by omega⟩;have hd:(Ar l).drop (k+1)=[]:=List.drop_of_length_le (by simp;omega);rw[hd,List.append_nil,show l.length-1=k by omega]at key;rw[List.take_append_drop]at key;rw[show l.length-1=k by omega,←key]
  ·have c5:¬l.length=k+1:=by omega
   simp[-Int.natCast_add,c0,c1,c2,c5,Xn];have ht:List.take (l.length-(k+1)) (List.drop (k+1) (Ar l))=List.drop (k+1) (Ar l):=List.take_of_length_le (by simp);refine⟨by omega,by omega,fun x hx=>?_,by omega,by unfold maxLen;omega,by omega,?_,by omega⟩
   ·have hm:x∈Ar l:=List.mem_of_mem_drop (List.mem_of_mem_take hx);unfold Ar at hm;obtain⟨y,_,rfl⟩:=List.mem_map.1 hm;exact⟨rfl,by simp[AV.cells,AV.one]⟩
   ·rw[ht,show k+(l.length-(k+1))=l.length-1 by omega,←List.append_assoc,key]
 (repeat refine AW.seq_k fun K hK=>?_);refine AW.rgY ?_;simp[Qhs,isY,Qm2];refine⟨b,0,⟨rfl,rfl⟩,_,⟨rfl,rfl⟩,rfl,.i64,.i64,l.length-1,⟨rfl,rfl⟩,l.length,⟨rfl,rfl⟩,by omega,by simp[hel,hdl];omega,b,_,_,⟨rfl,rfl,rfl⟩,_,⟨rfl,rfl⟩,by omega,by simp[hel,hdl];omega,?_⟩;refine hK _ rfl ?_;clear hK K;(repeat refine AW.seq_k fun K hK=>?_);refine AW.rg ?_;simp;try (refine hK _ rfl ?_;clear hK K)
 refine AW.shrink (b:=b) (e:=3) (z:=1) (by simp only[A9,if_true];rfl) (l.length-1) ?_;simp;rw[List.take_append_of_le_length (by simp[hel,hdl]),List.take_take,Nat.min_self,key2];exact AW.ret (B9 rfl (Xt b _) ⟨rfl,rfl⟩)
end Go.Av
end
section
namespace Go.Av
section
variable {P:Program} {cf:D7} {ops:Array Oper} {K:St→Prop}
def C2 (ops:Array Oper) (a b:Nat):Array Oper:=ops.modify b fun o=>{o with after:=o.after.push ⟨a,.data⟩}
theorem H0 (ops:Array Oper) (a b:Nat):(C2 ops a b).size=ops.size:=by simp[C2]
theorem D8 (ops:Array Oper) (a b i:Nat):(C2 ops a b)[i]?=(ops[i]?).map fun o=>if i=b then {o with after:=o.after.push ⟨a,.data⟩} else o:=by
 unfold C2;rw[Array.getElem?_modify];by_cases h:b=i
 ·subst h;simp
 ·rw[if_neg h];cases ops[i]? with
  |none=>rfl
  |some o=>simp[Ne.symm h]
theorem Z7 (ops:Array Oper) (a b j:Nat):((C2 ops a b)[j]?).bind (·.dst)=(ops[j]?).bind (·.dst):=by
 rw[D8];cases ops[j]? with
 |none=>rfl
 |some o=>simp only[Option.map_some,Option.bind_some];split<;>rfl
theorem Ht (a b:Nat) (o:Oper) (i:Nat) (K:St→Prop) (s:St):Cm P cf (C2 ops a b) (if i=b then {o with after:=o.after.push ⟨a,.data⟩} else o) K s↔Cm P cf ops o K s:=by
 have key:∀o':Oper,o'.op=o.op→o'.dst=o.dst→o'.guard=o.guard→(Cm P cf (C2 ops a b) o' K s↔Cm P cf ops o K s):=by
  intro o' h1 h2 h3;have he:∀(s:St) (k:AV→Ac→Prop),Ew P cf o' s k↔Ew P cf o s k:=by
   intro s k;unfold Ew Qz;rw[h1,h2]
  unfold Cm C8;rw[h2,h3];cases o.guard with
  |none=>exact he _ _
  |some g =>
   obtain⟨j,want⟩:=g;simp only[Z7];cases (ops[j]?).bind (·.dst)with
   |none=>exact Iff.rfl
   |some d =>
    refine exists_congr fun t=>and_congr_right fun _=>?_;split
    ·exact he _ _
    ·exact Iff.rfl
 split
 ·exact key _ rfl rfl rfl
 ·exact key _ rfl rfl rfl
theorem N8 (a b:Nat):∀(plan:List Nat) (s:St),Cg P cf ops plan K s→Cg P cf (C2 ops a b) plan K s
 |[],_,h=>h
 |i::rest,s,h=>by
  unfold Cg at h ⊢;rw[D8];cases ho:ops[i]? with
  |none=>rw[ho]at h;exact h
  |some o =>
   rw[ho]at h;simp only[Option.map_some];rw[Ht];unfold Cm at h ⊢;exact Br (fun v m hk=>N8 a b rest _ hk) h
theorem Gv {a b:Nat} {listed:Array Bool} {i:Nat} (h:i∈Region.ready .any ops listed) (hi:i≠b∨listed.getD a false=true):i∈Region.ready .any (C2 ops a b) listed:=by
 rw[D6]at h ⊢;obtain⟨h1,h2,h3⟩:=h;refine⟨by rw[H0];exact h1,h2,fun o ho e he hb=>?_⟩;rw[D8]at ho;cases hx:ops[i]? with
 |none=>rw[hx]at ho;cases ho
 |some o' =>
  rw[hx]at ho;simp only[Option.map_some,Option.some.injEq]at ho;subst ho;split at he
  ·rename_i hib
   simp only[Array.toList_push,List.mem_append,List.mem_singleton]at he;rcases he with he | rfl
   ·exact h3 o' hx e he hb
   ·rcases hi with hi|hi
    ·exact absurd hib hi
    ·exact hi
  ·exact h3 o' hx e he hb
theorem Qp {a b:Nat}:∀(fuel:Nat) (listed:Array Bool) (s:St),listed.size=ops.size→listed.getD a false=true→Mx P cf (C2 ops a b) K fuel listed s→Mx P cf ops K fuel listed s
 |0,listed,s,_,ha,h=>by
  refine⟨?_,h.2⟩;cases hr:Region.ready .any ops listed with
  |nil=>rfl
  |cons i l =>
   have:=Gv (a:=a) (b:=b) (show i∈Region.ready .any ops listed by rw[hr];simp) (.inr ha);rw[h.1]at this;cases this
 |fuel+1,listed,s,hsz,ha,h=>by
  refine⟨fun he=>h.1 ?_,fun i hi=>?_⟩
  ·cases hr:Region.ready .any (C2 ops a b) listed with
   |nil=>rfl
   |cons i l =>
    have hi:i∈Region.ready .any (C2 ops a b) listed:=by rw[hr];simp
    have:i∈Region.ready .any ops listed:=by
     rw[D6]at hi ⊢;refine⟨by rw[←H0 ops a b];exact hi.1,hi.2.1,fun o ho e he' hb=>hi.2.2 _ (by rw[D8,ho];rfl) e ?_ hb⟩;split
     ·simp[he']
     ·exact he'
    rw[he]at this;cases this
  ·have h2:=h.2 i (Gv hi (.inr ha));rw[D8]at h2;have hlt:=(D6.1 hi).1;cases ho:ops[i]? with
   |none=>rw[ho]at h2;exact h2
   |some o =>
    rw[ho]at h2;simp only[Option.map_some]at h2 ⊢;rw[Ht]at h2;unfold Cm at h2 ⊢;refine Br (fun v m hk=>Qp fuel _ _ (by simpa using hsz) ?_ hk) h2;rw[F0 (by rw[hsz];exact hlt),ha];simp
def S7 (o:Oper):Bool:=match o.op with
 |.store _ _ _=>true
 |_=>false
def Qoi (o:Oper):Bool:=S7 o || match Bl o with
 |.q | .l | .a | .z=>true
 |_=>false
theorem Qdc {o:Oper} (ho:S7 o=true) {s:St} {k k':AV→Ac→Prop} (h1:C8 P cf ops o s k) (h2:C8 P cf ops o s k'):C8 P cf ops o s fun v m=>k v m∧k' v m:=by
 have key:∀{k k':AV→Ac→Prop},Ew P cf o s k→Ew P cf o s k'→Ew P cf o s fun v m=>k v m∧k' v m:=by
  intro k k' h1 h2;unfold S7 at ho;unfold Ew at *;split at ho
  ·rename_i t a x hop
   simp only[hop]at h1 h2 ⊢;obtain⟨ti,b,z,i,j,blk,old,q1,q2,q3,q4,q5,q6,q7,q8,q9⟩:=h1;obtain⟨ti',b',z',i',j',blk',old',r1,r2,r3,r4,r5,r6,r7,r8,r9⟩:=h2;rw[q1]at r1;cases r1;rw[q2]at r2;cases r2;rw[q3]at r3;cases r3;rw[q5]at r5;cases r5;exact⟨ti,b,z,i,j,blk,old,q1,q2,q3,q4,q5,q6,q7,q8,q9,r9⟩
  ·cases ho
 unfold C8 at *;cases hg:o.guard with
 |none=>rw[hg]at h1 h2;exact key h1 h2
 |some g =>
  obtain⟨j,want⟩:=g;rw[hg]at h1 h2;simp only at h1 h2 ⊢;cases hd:(ops[j]?).bind (·.dst)with
  |none=>rw[hd]at h1;exact h1
  |some d =>
   rw[hd]at h1 h2;simp only at h1 h2 ⊢;obtain⟨t,t1,t2⟩:=h1;obtain⟨t',t3,t4⟩:=h2;rw[t1]at t3;cases t3;refine⟨t,t1,?_⟩;cases t with
   |true=>simp only[if_true]at t2 t4 ⊢;exact key t2 t4
   |false=>simp only[Bool.false_eq_true,if_false]at t2 t4 ⊢;exact⟨t2,t4⟩
theorem Qel (hdm:cf.dm=true) {o:Oper} (ho:Qoi o=true) {X Y:St→Prop} {s:St} (h1:Cm P cf ops o X s) (h2:Cm P cf ops o Y s):Cm P cf ops o (fun s'=>X s'∧Y s') s:=by
 by_cases hst:S7 o=true
 ·exact Qdc hst h1 h2
 unfold Qoi at ho;rw[Bool.not_eq_true]at hst;rw[hst,Bool.false_or]at ho;have hb:Bl o≠.b:=by intro e;rw[e]at ho;cases ho
 have hx:Bl o≠.x:=by intro e;rw[e]at ho;cases ho
 have hc:Bl o≠.c:=by intro e;rw[e]at ho;cases ho
 obtain⟨fo,f1,f2⟩:=Mf (P:=P) (cf:=cf) (ops:=ops) hb hx hdm s;unfold Cm at *;have e:({s with m:=s.m}:St)=s:=rfl;rw[←e,f2]at h1 h2 ⊢;cases fo with
 |no=>exact h1
 |quiet ev =>
  obtain⟨v,q1,q2⟩:=h1;obtain⟨v',q3,q4⟩:=h2;rw[q1]at q3;cases q3;exact⟨v,q1,q2,q4⟩
 |new fv x=>exact fun b p1 p2=>⟨h1 b p1 p2,h2 b p1 p2⟩
 |call f args=>exact absurd f1 hc
theorem Qbc (hdm:cf.dm=true) (hsoft:∀(i:Nat) (o:Oper),ops[i]?=some o→Qoi o=true) {a b:Nat} (hab:a≠b):∀(fuel:Nat) (listed:Array Bool) (s:St),listed.size=ops.size→Mx P cf (C2 ops a b) K fuel listed s→Mx P cf (C2 ops b a) K fuel listed s→Mx P cf ops K fuel listed s
 |0,listed,s,_,h1,h2=>by
  refine⟨?_,h1.2⟩;cases hr:Region.ready .any ops listed with
  |nil=>rfl
  |cons i l =>
   have hi:i∈Region.ready .any ops listed:=by rw[hr];simp
   by_cases hib:i=b
   ·have:=Gv (a:=b) (b:=a) hi (.inl (by rw[hib];exact Ne.symm hab));rw[h2.1]at this;cases this
   ·have:=Gv (a:=a) (b:=b) hi (.inl hib);rw[h1.1]at this;cases this
 |fuel+1,listed,s,hsz,h1,h2=>by
  refine⟨fun he=>h1.1 ?_,fun i hi=>?_⟩
  ·cases hr:Region.ready .any (C2 ops a b) listed with
   |nil=>rfl
   |cons i l =>
    have hi:i∈Region.ready .any (C2 ops a b) listed:=by rw[hr];simp
    have:i∈Region.ready .any ops listed:=by
     rw[D6]at hi ⊢;refine⟨by rw[←H0 ops a b];exact hi.1,hi.2.1,fun o ho e he' hb=>hi.2.2 _ (by rw[D8,ho];rfl) e ?_ hb⟩;split
     ·simp[he']
     ·exact he'
    rw[he]at this;cases this
  ·have hlt:=(D6.1 hi).1;cases ho:ops[i]? with
   |none=>have:=(Array.getElem?_eq_none_iff.1 ho);omega
   |some o =>
    simp only;have g1:i≠b→Cm P cf ops o (Mx P cf (C2 ops a b) K fuel (listed.setIfInBounds i true)) s:=fun hib=>by
     have:=h1.2 i (Gv hi (.inl hib));rw[D8,ho]at this;simp only[Option.map_some]at this
     rwa [Ht]at this
    have g2:i≠a→Cm P cf ops o (Mx P cf (C2 ops b a) K fuel (listed.setIfInBounds i true)) s:=fun hia=>by
     have:=h2.2 i (Gv hi (.inl hia));rw[D8,ho]at this;simp only[Option.map_some]at this
     rwa [Ht]at this
    have hsz':(listed.setIfInBounds i true).size=ops.size:=by simpa using hsz
    by_cases hib:i=b
    ·have:=g2 (by rw[hib];exact Ne.symm hab);unfold Cm at this ⊢;refine Br (fun v m hk=>Qp fuel _ _ hsz' ?_ hk) this;rw[F0 (by rw[hsz];exact hlt),if_pos hib.symm]
    ·by_cases hia:i=a
     ·have:=g1 hib;unfold Cm at this ⊢;refine Br (fun v m hk=>Qp fuel _ _ hsz' ?_ hk) this;rw[F0 (by rw[hsz];exact hlt),if_pos hia.symm]
     ·have:=Qel hdm (hsoft i o ho) (g1 hib) (g2 hia);unfold Cm at this ⊢;exact Br (fun v m hk=>Qbc hdm hsoft hab fuel _ _ hsz' hk.1 hk.2) this
theorem Qgg {Q:Exit→St→Prop} {s:St} (ro:Nat→Bool) (av:Nat→Prop) (plan:List Nat) (hp:Iw P ro ops plan=true) (h:Cg P ⟨ro,av,true⟩ ops plan (Q .normal) s) :
  Mx P ⟨ro,av,true⟩ ops (Q .normal) ops.size (Array.replicate ops.size false) s:=by
 unfold Iw at hp;have hp0:=hp;unfold Hu at hp;simp only[Bool.and_eq_true]at hp;have hfil:(plan.filter fun i=>!(Array.replicate ops.size false).getD i true)=plan:=by
  refine List.filter_eq_self.2 fun i hi=>?_;have hlt:i<ops.size:=by
   have:=List.all_eq_true.1 hp.2.1.1.1.2 i hi;simpa[Nat.blt_eq]using this
  simp[hlt]
 have hcl:Mu ops (Array.replicate ops.size false):=fun i o ho hl e he hb=>by
  have hi:i<ops.size:=(Array.getElem?_eq_some_iff.1 ho).1;rw[Array.getD_eq_getD_getElem?,Array.getElem?_replicate,if_pos hi]at hl;cases hl
 refine Sa (cf:=⟨ro,av,true⟩) (q:=Hv.no) (blk:=fun r=>r) rfl hp0 ops.size _ s ⟨fun _ h=>(by cases h),fun _ _ h=>(by cases h),fun _ h=>(by cases h),fun _ h=>(by cases h)⟩ Array.size_replicate hcl ?_ ?_
 ·rw[hfil];exact(of_decide_eq_true hp.2.1.1.2).2
 ·rw[hfil];exact h
theorem AW.rd2 {Q:Exit→St→Prop} {s:St} {id:Nat} (a b:Nat) (plan plan2:List Nat) (hm:P.follows .mixedOrders=true)
  (h1:Cg P ⟨fun _=>false,fun _=>False,true⟩ ops plan (Q .normal) s) (h2:Cg P ⟨fun _=>false,fun _=>False,true⟩ ops plan2 (Q .normal) s)
  (hok:B3 s.n ops=true:=by kernel_rfl) (hp1:Iw P (fun _=>false) (C2 ops a b) plan=true:=by kernel_rfl) (hp2:Iw P (fun _=>false) (C2 ops b a) plan2=true:=by kernel_rfl)
  (hab:Nat.beq a b=false:=by rfl) (hs:ops.toList.all Qoi=true:=by kernel_rfl):AW P (.region id ops true) Q s:=by
 intro F G w0 act w hr;refine wp_region_any hm ?_;have hok':∀i o,ops[i]?=some o→(Gp s.n o&&I5 ops s.n o)=true:=fun i o ho=>by
  unfold B3 at hok;exact List.all_eq_true.1 hok o (List.mem_of_getElem? (by rw[Array.getElem?_toList];exact ho))
 have hne:a≠b:=by intro e;subst e;simp at hab
 have q1:=Qgg (Q:=Q) (ops:=C2 ops a b) _ _ plan hp1 (N8 a b plan s h1);have q2:=Qgg (Q:=Q) (ops:=C2 ops b a) _ _ plan2 hp2 (N8 b a plan2 s h2);rw[H0]at q1 q2;have hany:=Qbc rfl (fun i o ho=>List.all_eq_true.1 hs o (List.mem_of_getElem? (by rw[Array.getElem?_toList];exact ho))) hne ops.size _ s Array.size_replicate q1 q2;have hd:Ec F G w0 s act {w with drawn:=w.drawn+1}:=hr.drew;exact Kv (F:=F) (G:=G) (w0:=w0) (cf:=⟨fun _=>false,fun _=>False,true⟩) s.n w.heap.size (fun _ h=>h.elim) (fun a w h=>h) hok' ops.size _ s act {w with drawn:=w.drawn+1} (Nat.le_refl _) rfl hd hany
end
end Go.Av
end
section
namespace Go.Av
open Go.Proofs Go.Lam
def hdO (o:Option Nat) (l:List Nat):AV:=match o with
 |none=>.nil
 |some b=>.osl b 1 0 l.length
def Hj (bs:List (Option Nat)) (cl:List (List Nat)):List AV:=List.zipWith hdO bs cl
def En (fl:List Nat):Nat→Nat:=fun v=>fl.getD v 0
def Dm (cl:List (List Nat)):Nat→List Nat:=fun v=>cl.getD v []
def C6 (es:List RE) (bf bc n:Nat):Fi:=⟨105,3,[.agg [.sl 6 (D3 es),.osl bf 1 0 n,.osl bc 1 0 n]]⟩
structure Dp (M:Ac) (n bg bf bc:Nat) (es:List RE) (fl:List Nat) (bs:List (Option Nat)) (cl:List (List Nat)):Prop where
 g:M bg=some (C6 es bf bc n)
 f:M bf=some ⟨3,1,Ar fl⟩
 c:M bc=some ⟨25,1,Hj bs cl⟩
 fll:fl.length=n
 bsl:bs.length=n
 cll:cl.length=n
 row:∀(i b:Nat),bs[i]?=some (some b)→M b=some ⟨3,1,Ar (Dm cl i)⟩
 nil:∀(i:Nat),bs[i]?=some none→Dm cl i=[]
 nd:bg≠bf∧bg≠bc∧bf≠bc
 ndr:∀(i b:Nat),bs[i]?=some (some b)→b≠bg∧b≠bf∧b≠bc
 inj:∀(i j b:Nat),bs[i]?=some (some b)→bs[j]?=some (some b)→i=j
def Bf (bg bf bc:Nat) (bs:List (Option Nat)):List Nat:=bg::bf::bc::bs.filterMap id
def Ft (M:Ac) (l:List Nat):Prop:=∀k,M k≠none→k∈l
theorem Bi {bg bf bc k:Nat} {bs:List (Option Nat)}:k∈Bf bg bf bc bs↔k=bg∨k=bf∨k=bc∨∃i:Nat,bs[i]?=some (some k):=by
 unfold Bf;simp only[List.mem_cons,List.mem_filterMap,id_eq,exists_eq_right];refine or_congr_right (or_congr_right (or_congr_right ?_));exact List.mem_iff_getElem?
section
variable {M:Ac} {n bg bf bc:Nat} {es:List RE} {fl:List Nat} {bs:List (Option Nat)} {cl:List (List Nat)}
theorem G9 (h:Dp M n bg bf bc es fl bs cl):(Hj bs cl).length=n:=by simp[Hj,h.bsl,h.cll]
theorem L6 (h:Dp M n bg bf bc es fl bs cl) {i:Nat} (hi:i<n):∃o,bs[i]?=some o∧(Hj bs cl)[i]?=some (hdO o (Dm cl i)):=by
 have h1:i<bs.length:=by rw[h.bsl];exact hi
 have h2:i<cl.length:=by rw[h.cll];exact hi
 refine⟨bs[i],List.getElem?_eq_getElem h1,?_⟩;unfold Hj;rw[List.getElem?_zipWith,List.getElem?_eq_getElem h1,List.getElem?_eq_getElem h2];simp[Dm,h2]
theorem Yf {i x:Nat} (hi:i<fl.length):En (fl.set i x)=Fk (En fl) i x:=by
 funext v
 unfold En Fk;rw[List.getD_eq_getElem?_getD,List.getElem?_set];by_cases h:i=v
 ·subst h;simp[hi]
 ·rw[if_neg h,if_neg (Ne.symm h),←List.getD_eq_getElem?_getD]
theorem O9 {i:Nat} {x:List Nat} (hi:i<cl.length):Dm (cl.set i x)=Fk (Dm cl) i x:=by
 funext v
 unfold Dm Fk;rw[List.getD_eq_getElem?_getD,List.getElem?_set];by_cases h:i=v
 ·subst h;simp[hi]
 ·rw[if_neg h,if_neg (Ne.symm h),←List.getD_eq_getElem?_getD]
theorem Dp.setF (h:Dp M n bg bf bc es fl bs cl) (i x:Nat):Dp (M.set bf ⟨3,1,Ar (fl.set i x)⟩) n bg bf bc es (fl.set i x) bs cl where
 g:=by rw[Ac.set_other _ _ h.nd.1];exact h.g
 f:=Ac.set_same _ _ _
 c:=by rw[Ac.set_other _ _ (Ne.symm h.nd.2.2)];exact h.c
 fll:=by rw[List.length_set,h.fll]
 bsl:=h.bsl
 cll:=h.cll
 row:=fun i b hb=>by rw[Ac.set_other _ _ (h.ndr i b hb).2.1];exact h.row i b hb
 nil:=h.nil
 nd:=h.nd
 ndr:=h.ndr
 inj:=h.inj
theorem Dp.setC (h:Dp M n bg bf bc es fl bs cl) {i b':Nat} {l':List Nat} (hi:i<n) (hf:b'≠bg∧b'≠bf∧b'≠bc) (hr:∀j:Nat,j≠i→bs[j]?≠some (some b')) {M':Ac} (h1:M' bg=M bg) (h2:M' bf=M bf)
  (h3:M' bc=some ⟨25,1,(Hj bs cl).set i (.osl b' 1 0 l'.length)⟩) (h4:M' b'=some ⟨3,1,Ar l'⟩) (h5:∀(j b:Nat),j≠i→bs[j]?=some (some b)→M' b=M b):Dp M' n bg bf bc es fl (bs.set i (some b')) (cl.set i l') where
 g:=by rw[h1];exact h.g
 f:=by rw[h2];exact h.f
 c:=by
  rw[h3]
  congr 2
  refine List.ext_getElem? fun k=>?_;unfold Hj;rw[List.getElem?_set,List.length_zipWith,List.getElem?_zipWith,List.getElem?_zipWith,List.getElem?_set,List.getElem?_set,h.bsl,h.cll];by_cases hk:i=k
  ·subst hk;simp[hi,hdO]
  ·simp[hk]
 fll:=h.fll
 bsl:=by rw[List.length_set,h.bsl]
 cll:=by rw[List.length_set,h.cll]
 row:=fun j b hb=>by
  rw[O9 (by rw[h.cll];exact hi)];unfold Fk;rw[List.getElem?_set]at hb;by_cases hj:i=j
  ·subst hj;rw[if_pos rfl,if_pos (by rw[h.bsl];exact hi)]at hb;cases hb;rw[if_pos rfl,h4]
  ·rw[if_neg hj]at hb;rw[if_neg (Ne.symm hj),h5 j b (Ne.symm hj) hb,h.row j b hb]
 nil:=fun j hb=>by
  rw[O9 (by rw[h.cll];exact hi)];unfold Fk;rw[List.getElem?_set]at hb;by_cases hj:i=j
  ·subst hj;rw[if_pos rfl,if_pos (by rw[h.bsl];exact hi)]at hb;cases hb
  ·rw[if_neg hj]at hb;rw[if_neg (Ne.symm hj)];exact h.nil j hb
 nd:=h.nd
 ndr:=fun j b hb=>by
  rw[List.getElem?_set]at hb;by_cases hj:i=j
  ·subst hj;rw[if_pos rfl,if_pos (by rw[h.bsl];exact hi)]at hb;cases hb;exact hf
  ·rw[if_neg hj]at hb;exact h.ndr j b hb
 inj:=fun j k b hj hk=>by
  rw[List.getElem?_set]at hj hk;by_cases e1:i=j<;>by_cases e2:i=k
  ·omega
  ·subst e1;rw[if_pos rfl,if_pos (by rw[h.bsl];exact hi)]at hj;rw[if_neg e2]at hk;cases hj;exact absurd hk (hr k (Ne.symm e2))
  ·subst e2;rw[if_pos rfl,if_pos (by rw[h.bsl];exact hi)]at hk;rw[if_neg e1]at hj;cases hk;exact absurd hj (hr j (Ne.symm e1))
  ·rw[if_neg e1]at hj;rw[if_neg e2]at hk;exact h.inj j k b hj hk
theorem Dp.congr (h:Dp M n bg bf bc es fl bs cl) {M':Ac} (hm:∀k∈Bf bg bf bc bs,M' k=M k):Dp M' n bg bf bc es fl bs cl where
 g:=by rw[hm bg (Bi.2 (.inl rfl))];exact h.g
 f:=by rw[hm bf (Bi.2 (.inr (.inl rfl)))];exact h.f
 c:=by rw[hm bc (Bi.2 (.inr (.inr (.inl rfl))))];exact h.c
 fll:=h.fll
 bsl:=h.bsl
 cll:=h.cll
 row:=fun i b hb=>by rw[hm b (Bi.2 (.inr (.inr (.inr ⟨i,hb⟩))))];exact h.row i b hb
 nil:=h.nil
 nd:=h.nd
 ndr:=h.ndr
 inj:=h.inj
end
theorem Qey (bg:Nat) (es:List RE) (bf bc n:Nat):∀c y,Ac.emp.set bg (C6 es bf bc n) c=some y→∀v∈y.l,v.cells.all AV.one=true:=by
 intro c y hy v hv;simp only[A9,Ay]at hy;split at hy
 ·cases hy;simp only[C6,List.mem_singleton]at hv;subst hv;rfl
 ·cases hy
theorem Vc (bg bf bc n:Nat) (es:List RE) (e j:Nat) (he:e<es.length) (hes:Li 12 es) (hj:j=(Ae es e).1∨j=(Ae es e).2) :
  Aj Tryz.prog 125 [.ptr bg 3 0 0,.int .i64 (e:Nat),.int .i64 (j:Nat)] (Ac.emp.set bg (C6 es bf bc n)) fun v m=>∃x',(v=.int .i64 (Gl (Ae es) e j:Nat)∧x'=C6 es bf bc n)∧m=Ac.emp.set bg x':=by
 obtain⟨e1,e2,e3⟩:=hes e he;have hlt:=e3.1;have hlt2:=e3.2.1;have ho:(Gl (Ae es) e j:Int)=((Ae es e).1:Int)+((Ae es e).2:Int)-(j:Int):=by unfold Gl;omega
 refine Ad Tryz.func125 rfl rfl 26 rfl (Nat.le_of_ble_eq_true rfl) ?_;(repeat refine AW.seq_k fun K hK=>?_);refine AW.rg ?_;simp[Ak];try (refine hK _ rfl ?_;clear hK K)
 unfold C6;(repeat refine AW.seq_k fun K hK=>?_);refine AW.rdL [bg] [0,1,2,3,4,5,6,7,8,9,10,11,12,13,14,15,16,17,18,19] Ds (by simp) ?_;have w1:IntKind.i64.wrap ((H1 es e).a+(H1 es e).b)=(H1 es e).a+(H1 es e).b:=Ok (by omega);have w2:IntKind.i64.wrap ((H1 es e).a+(H1 es e).b-(j:Int))=(H1 es e).a+(H1 es e).b-(j:Int):=Ok (by omega);simp[he,Ck,w1,w2];try (refine hK _ rfl ?_;clear hK K)
 exact AW.ret (B9 rfl (Qey bg es bf bc n) ⟨C6 es bf bc n,⟨by rw[ho,←e1,←e2];rfl,rfl⟩,rfl⟩)
end Go.Av
end
section
namespace Go.Av
open Go.Proofs Go.Lam
theorem Qku (n:Nat):Hj (List.replicate n none) (List.replicate n [])=List.replicate n .nil:=by
 simp[Hj,hdO,List.zipWith_replicate]
theorem S6 (n i:Nat):Dm (List.replicate n []) i=[]:=by
 unfold Dm;rw[List.getD_eq_getElem?_getD,List.getElem?_replicate];split<;>rfl
theorem Qat {M:Ac} {n bg bf bc:Nat} {es:List RE} (h1:M bg=some (C6 es bf bc n)) (h2:M bf=some ⟨3,1,Ar (List.replicate n 0)⟩) (h3:M bc=some ⟨25,1,List.replicate n .nil⟩) (hd:bg≠bf∧bg≠bc∧bf≠bc) :
  Dp M n bg bf bc es (List.replicate n 0) (List.replicate n none) (List.replicate n []) where
 g:=h1
 f:=h2
 c:=by rw[Qku];exact h3
 fll:=List.length_replicate
 bsl:=List.length_replicate
 cll:=List.length_replicate
 row:=fun i b hb=>by rw[List.getElem?_replicate]at hb;split at hb<;>simp at hb
 nil:=fun i _=>S6 n i
 nd:=hd
 ndr:=fun i b hb=>by rw[List.getElem?_replicate]at hb;split at hb<;>simp at hb
 inj:=fun i j b hb _=>by rw[List.getElem?_replicate]at hb;split at hb<;>simp at hb
theorem Ft.set {M:Ac} {l:List Nat} (h:Ft M l) {b:Nat} (x:Fi) (hb:b∈l):Ft (M.set b x) l:=fun k hk=>by
 by_cases e:k=b
 ·rw[e];exact hb
 ·rw[Ac.set_other _ _ e]at hk;exact h k hk
theorem J3 (bs:List (Option Nat)) (cl:List (List Nat)):∀v∈Hj bs cl,v.cells.all AV.one=true:=by
 intro v hv;unfold Hj at hv;obtain⟨i,hi⟩:=List.getElem?_of_mem hv;rw[List.getElem?_zipWith]at hi;split at hi
 ·rename_i o l _ _
  cases hi;cases o<;>rfl
 ·cases hi
theorem H3 {M:Ac} {n bg bf bc:Nat} {es:List RE} {fl:List Nat} {bs:List (Option Nat)} {cl:List (List Nat)} (h:Dp M n bg bf bc es fl bs cl) (ho:Ft M (Bf bg bf bc bs)):∀c y,M c=some y→∀v∈y.l,v.cells.all AV.one=true:=by
 intro c y hy v hv;rcases Bi.1 (ho c (by rw[hy];simp))with rfl | rfl | rfl | ⟨i,hi⟩
 ·rw[h.g]at hy;cases hy;simp only[C6,List.mem_singleton]at hv;subst hv;rfl
 ·rw[h.f]at hy;cases hy;exact C3 _ v hv
 ·rw[h.c]at hy;cases hy;exact J3 _ _ v hv
 ·rw[h.row i c hi]at hy;cases hy;exact C3 _ v hv
theorem Dp.dom {M:Ac} {n bg bf bc:Nat} {es:List RE} {fl:List Nat} {bs:List (Option Nat)} {cl:List (List Nat)} (h:Dp M n bg bf bc es fl bs cl) {k:Nat} (hk:k∈Bf bg bf bc bs):M k≠none:=by
 rcases Bi.1 hk with rfl|rfl|rfl|⟨i,hi⟩
 ·rw[h.g];simp
 ·rw[h.f];simp
 ·rw[h.c];simp
 ·rw[h.row i k hi];simp
theorem Qra {M:Ac} {bg bf bc:Nat} {bs:List (Option Nat)} (h:∀k,M k≠none→k=bg∨k=bf∨k=bc):Ft M (Bf bg bf bc bs):=fun k hk=>by
 rw[Bi];rcases h k hk with h | h | h
 ·exact .inl h
 ·exact .inr (.inl h)
 ·exact .inr (.inr (.inl h))
theorem Qde (n:Nat) (es:List RE) (hn:n≤12):Aj Tryz.prog 81 [.int .i64 (n:Nat),Bb es] Ac.emp fun v m=>∃bg bf bc,v=.ptr bg 3 0 0∧Dp m n bg bf bc es (List.replicate n 2) (List.replicate n none) (List.replicate n [])∧Ft m (Bf bg bf bc (List.replicate n none)):=by
 refine Ad Tryz.func81 rfl rfl 26 rfl (Nat.le_of_ble_eq_true rfl) ?_;unfold Bb;(repeat refine AW.seq_k fun K hK=>?_);refine AW.rg ?_;simp[Ak];try (refine hK _ rfl ?_;clear hK K)
 refine AW.seq_ex (ι:=Ac × Nat × Nat × Nat) (fun z=>[(0,.int .i64 (n:Nat)),(5,.ptr z.2.1 3 0 0)]) (fun z=>z.1) (fun z=>Dp z.1 n z.2.1 z.2.2.1 z.2.2.2 es (List.replicate n 0) (List.replicate n none) (List.replicate n [])∧Ft z.1 (Bf z.2.1 z.2.2.1 z.2.2.2 (List.replicate n none))) ?_ ?_
 ·refine AW.rd2 2 4 [0,1,3,2,4,5,6,7] [0,1,3,4,2,5,6,7] Ds ?_ ?_
  ·simp;refine⟨by omega,Af.intro fun bf h1=>⟨by omega,Af.intro fun bc h2=>Af.intro fun bg h3=>?_⟩⟩;simp only[An,Ay,and_true]at h2 h3;exact⟨bf,bc,Qat (by simp[C6]) (by simp[A9,h2,h3,Ar]) (by simp[A9,h2,h3]) ⟨h3.2.1,h3.1.1,h2.2⟩,Qra (fun k hk=>by
    simp only[A9,Ay]at hk;split at hk
    ·exact .inl (by assumption)
    ·split at hk
     ·exact .inr (.inr (by assumption))
     ·split at hk
      ·exact .inr (.inl (by assumption))
      ·exact absurd rfl hk)⟩
  ·simp;refine⟨by omega,Af.intro fun bc h1=>⟨by omega,Af.intro fun bf h2=>Af.intro fun bg h3=>?_⟩⟩;simp only[An,Ay,and_true]at h2 h3;exact⟨bf,bc,Qat (by simp[C6]) (by simp[A9,h2,h3,Ar]) (by simp[A9,h2,h3]) ⟨h3.1.1,h3.2.1,h2.1⟩,Qra (fun k hk=>by
    simp only[A9,Ay]at hk;split at hk
    ·exact .inl (by assumption)
    ·split at hk
     ·exact .inr (.inl (by assumption))
     ·split at hk
      ·exact .inr (.inr (by assumption))
      ·exact absurd rfl hk)⟩
 rintro⟨M,bg,bf,bc⟩ ⟨hg,ho⟩;simp only at hg ho ⊢;refine AW.seq_ex (ι:=Ac) (fun _=>[(5,.ptr bg 3 0 0)]) (fun M=>M) (fun M=>Dp M n bg bf bc es (List.replicate n 2) (List.replicate n none) (List.replicate n [])∧Ft M (Bf bg bf bc (List.replicate n none))) ?_ ?_
 ·(repeat refine AW.seq_k fun K hK=>?_);refine AW.rg ?_;simp;try (refine hK _ rfl ?_;clear hK K)
  refine AW.block (AW.loopS (ι:=Ac × Nat) (fun z=>[(5,.ptr bg 3 0 0),(14,.int .i64 (n:Nat)),(15,.int .i64 (z.2:Nat))]) (fun z=>z.1)
   (fun z=>z.2≤n∧Dp z.1 n bg bf bc es (List.replicate z.2 2++List.replicate (n-z.2) 0) (List.replicate n none) (List.replicate n [])∧Ft z.1 (Bf bg bf bc (List.replicate n none))) (fun z=>n-z.2) (M,0) ⟨by simp,by simpa using hg,ho⟩ rfl (by simp) ?_)
  rintro⟨M,i⟩ ⟨g1,g2,g3⟩;simp only at g1 g2 g3;(repeat refine AW.seq_k fun K hK=>?_);refine AW.rg ?_;simp;try (refine hK _ rfl ?_;clear hK K)
  (repeat refine AW.seq ?_);refine AW.cs (fun hi=>?_) (fun hi=>?_) rfl<;>(try simp at hi)
  ·refine AW.skip ?_;try simp
   try (refine hK _ rfl ?_;clear hK K)
   have w1:=Ap (i+1) (by omega);have m1:=g2.g;have m2:=g2.f;have hfl:=g2.fll;have g4:=g2.setF i 2;rw[List.set_append_right _ _ (by simp),List.length_replicate,Nat.sub_self,show n-i=(n-(i+1))+1 by omega,List.replicate_succ,List.set_cons_zero]at g4;unfold C6 at m1;(repeat refine AW.seq ?_);refine AW.block ?_;(repeat refine AW.seq_k fun K hK=>?_);refine AW.rg ?_;simp;try (refine hK _ rfl ?_;clear hK K)
   (repeat refine AW.seq_k fun K hK=>?_);refine AW.rg ?_;simp[m1,m2,hi,hfl];try (refine hK _ rfl ?_;clear hK K)
   (repeat refine AW.seq_k fun K hK=>?_);refine AW.rg ?_;simp[-Int.natCast_add,w1];try (refine hK _ rfl ?_;clear hK K)
   have e:List.replicate i 2++2::List.replicate (n-(i+1)) 0=List.replicate (i+1) 2++List.replicate (n-(i+1)) 0:=by rw[List.replicate_succ',List.append_assoc];rfl
   rw[e]at g4;refine⟨_,i+1,⟨by omega,g4,g3.set _ (Bi.2 (.inr (.inl rfl)))⟩,by omega,?_,rfl⟩;rw[←e]
   congr 2
   show(Ar (List.replicate i 2++List.replicate (n-i) 0)).set i (.int .i64 ((2:Nat):Int))=_
   rw[Jx,List.set_append_right _ _ (by simp),List.length_replicate,Nat.sub_self,show n-i=(n-(i+1))+1 by omega,List.replicate_succ,List.set_cons_zero]
  ·refine AW.exit ?_;try simp
   rw[show i=n by omega,Nat.sub_self,List.replicate_zero,List.append_nil]at g2;exact⟨g2,g3⟩
 rintro M ⟨hg,ho⟩;(repeat refine AW.seq_k fun K hK=>?_);refine AW.rg ?_;simp;try (refine hK _ rfl ?_;clear hK K)
 exact AW.ret (B9 rfl (H3 hg ho) ⟨bg,bf,bc,rfl,hg,ho⟩)
end Go.Av
end
section
namespace Go.Av
open Go.Proofs Go.Lam
def bools (l:List Bool):List AV:=l.map .bool
@[simp] theorem Qmx (l:List Bool):(bools l).length=l.length:=by simp[bools]
@[simp] theorem Qwk {l:List Bool} {i:Nat} (h:i<(bools l).length):(bools l)[i]=.bool (l[i]'(by simpa using h)):=by simp[bools]
theorem F6 (l:List Bool) (i:Nat) (x:Bool):(bools l).set i (.bool x)=bools (l.set i x):=by unfold bools;rw[List.map_set]
theorem Mj (l:List Bool):∀v∈bools l,v.cells.all AV.one=true:=by
 intro v hv;obtain⟨x,_,rfl⟩:=List.mem_map.1 hv;rfl
def Fy (sn:List Bool):Nat→Bool:=fun v=>sn.getD v false
theorem Kn {sn:List Bool} {i:Nat} {x:Bool} (hi:i<sn.length):Fy (sn.set i x)=Fk (Fy sn) i x:=by
 funext v
 unfold Fy Fk;rw[List.getD_eq_getElem?_getD,List.getElem?_set];by_cases h:i=v
 ·subst h;simp[hi]
 ·rw[if_neg h,if_neg (Ne.symm h),←List.getD_eq_getElem?_getD]
theorem Ta {sn:List Bool} {i:Nat} (hi:i<sn.length):Fy sn i=sn[i]:=by unfold Fy;rw[List.getD_eq_getElem?_getD,List.getElem?_eq_getElem hi];rfl
theorem Fw {fl:List Nat} {i:Nat} (hi:i<fl.length):fl[i]=En fl i:=by unfold En;rw[List.getD_eq_getElem?_getD,List.getElem?_eq_getElem hi];rfl
def Gc (sn:List Bool):Nat:=sn.countP fun b=>!b
theorem U2 {sn:List Bool} {i:Nat} (hi:i<sn.length) (h:sn[i]=false):Gc (sn.set i true)+1=Gc sn:=by
 unfold Gc;rw[List.countP_set hi];have hp:0<sn.countP fun b=>!b:=List.countP_pos_iff.2 ⟨sn[i],List.getElem_mem hi,by rw[h];rfl⟩;simp[h];omega
def Quf (bg bx c3 n:Nat):AV:=.fn 195 [.rptr [.ptr bg 3 0 0],.rptr [.osl bx 1 0 n],.ptr c3 1 0 0]
structure Ji (M:Ac) (n bg bf bc bx c3:Nat) (es:List RE) (fl:List Nat) (bs:List (Option Nat)) (cl:List (List Nat)) (sn:List Bool):Prop where
 game:Dp M n bg bf bc es fl bs cl
 seen:M bx=some ⟨4,1,bools sn⟩
 snl:sn.length=n
 cell:M c3=some ⟨100,1,[Quf bg bx c3 n]⟩
 off:∀k∈Bf bg bf bc bs,k≠bx∧k≠c3
 xc:bx≠c3
 only:Ft M (bx::c3::Bf bg bf bc bs)
section
variable {M:Ac} {n bg bf bc bx c3:Nat} {es:List RE} {fl:List Nat} {bs:List (Option Nat)} {cl:List (List Nat)} {sn:List Bool}
theorem Ji.look (h:Ji M n bg bf bc bx c3 es fl bs cl sn) (i:Nat):Ji (M.set bx ⟨4,1,bools (sn.set i true)⟩) n bg bf bc bx c3 es fl bs cl (sn.set i true) where
 game:=h.game.congr fun k hk=>Ac.set_other _ _ (h.off k hk).1
 seen:=Ac.set_same _ _ _
 snl:=by rw[List.length_set,h.snl]
 cell:=by rw[Ac.set_other _ _ (Ne.symm h.xc)];exact h.cell
 off:=h.off
 xc:=h.xc
 only:=h.only.set _ (by simp)
theorem Ji.setF (h:Ji M n bg bf bc bx c3 es fl bs cl sn) (i x:Nat):Ji (M.set bf ⟨3,1,Ar (fl.set i x)⟩) n bg bf bc bx c3 es (fl.set i x) bs cl sn where
 game:=h.game.setF i x
 seen:=by rw[Ac.set_other _ _ (Ne.symm (h.off bf (Bi.2 (.inr (.inl rfl)))).1)];exact h.seen
 snl:=h.snl
 cell:=by rw[Ac.set_other _ _ (Ne.symm (h.off bf (Bi.2 (.inr (.inl rfl)))).2)];exact h.cell
 off:=h.off
 xc:=h.xc
 only:=h.only.set _ (by simp[Bf])
theorem Qll {i b' k:Nat} (hi:i<bs.length) (hk:k∈Bf bg bf bc (bs.set i (some b'))):k=b'∨k∈Bf bg bf bc bs:=by
 rcases Bi.1 hk with h|h|h|⟨j,hj⟩
 ·exact .inr (Bi.2 (.inl h))
 ·exact .inr (Bi.2 (.inr (.inl h)))
 ·exact .inr (Bi.2 (.inr (.inr (.inl h))))
 ·rw[List.getElem?_set]at hj;by_cases e:i=j
  ·rw[if_pos e,if_pos hi]at hj;cases hj;exact .inl rfl
  ·rw[if_neg e]at hj;exact .inr (Bi.2 (.inr (.inr (.inr ⟨j,hj⟩))))
theorem Ji.dom (h:Ji M n bg bf bc bx c3 es fl bs cl sn) {k:Nat} (hk:k∈bx::c3::Bf bg bf bc bs):M k≠none:=by
 simp only[List.mem_cons]at hk;rcases hk with rfl | rfl | hk
 ·rw[h.seen];simp
 ·rw[h.cell];simp
 ·rcases Bi.1 hk with rfl|rfl|rfl|⟨i,hi⟩
  ·rw[h.game.g];simp
  ·rw[h.game.f];simp
  ·rw[h.game.c];simp
  ·rw[h.game.row i k hi];simp
theorem Ji.ones (h:Ji M n bg bf bc bx c3 es fl bs cl sn):∀c y,M c=some y→∀v∈y.l,v.cells.all AV.one=true:=by
 intro c y hy v hv;have hc:=h.only c (by rw[hy];simp);simp only[List.mem_cons]at hc;rcases hc with rfl | rfl | hc
 ·rw[h.seen]at hy;cases hy;exact Mj _ v hv
 ·rw[h.cell]at hy;cases hy;simp only[List.mem_singleton]at hv;subst hv;rfl
 ·rcases Bi.1 hc with rfl|rfl|rfl|⟨i,hi⟩
  ·rw[h.game.g]at hy;cases hy;simp only[C6,List.mem_singleton]at hv;subst hv;rfl
  ·rw[h.game.f]at hy;cases hy;exact C3 _ v hv
  ·rw[h.game.c]at hy;cases hy;exact J3 _ _ v hv
  ·rw[h.game.row i c hi]at hy;cases hy;exact C3 _ v hv
theorem Ji.setC (h:Ji M n bg bf bc bx c3 es fl bs cl sn) {i b':Nat} {l':List Nat} (hi:i<n) (hf:b' ∉ bx::c3::Bf bg bf bc bs∨bs[i]?=some (some b')) {M':Ac}
  (h3:M' bc=some ⟨25,1,(Hj bs cl).set i (.osl b' 1 0 l'.length)⟩) (h4:M' b'=some ⟨3,1,Ar l'⟩) (h5:∀k∈bx::c3::Bf bg bf bc bs,k≠b'→k≠bc→bs[i]?≠some (some k)→M' k=M k)
  (h6:∀k,M' k≠none→k=b'∨k∈bx::c3::Bf bg bf bc bs∧(bs[i]?=some (some k)→k=b')):Ji M' n bg bf bc bx c3 es fl (bs.set i (some b')) (cl.set i l') sn:=by
 have hib:i<bs.length:=by rw[h.game.bsl];exact hi
 have hb':b'≠bg∧b'≠bf∧b'≠bc∧b'≠bx∧b'≠c3:=by
  rcases hf with hf|hf
  ·simp only[Bf,List.mem_cons,not_or]at hf;exact⟨hf.2.2.1,hf.2.2.2.1,hf.2.2.2.2.1,hf.1,hf.2.1⟩
  ·have h1:=h.game.ndr i b' hf;have h2:=h.off b' (Bi.2 (.inr (.inr (.inr ⟨i,hf⟩))));exact⟨h1.1,h1.2.1,h1.2.2,h2.1,h2.2⟩
 have hn1:bs[i]?≠some (some bg):=fun e=>(h.game.ndr i bg e).1 rfl;have hn2:bs[i]?≠some (some bf):=fun e=>(h.game.ndr i bf e).2.1 rfl;have hn3:bs[i]?≠some (some bx):=fun e=>(h.off bx (Bi.2 (.inr (.inr (.inr ⟨i,e⟩))))).1 rfl;have hn4:bs[i]?≠some (some c3):=fun e=>(h.off c3 (Bi.2 (.inr (.inr (.inr ⟨i,e⟩))))).2 rfl;have hbc:=h.off bc (Bi.2 (.inr (.inr (.inl rfl))));have hrow:∀j,j≠i→bs[j]?≠some (some b'):=fun j hj e=>by
  rcases hf with hf|hf
  ·exact hf (by simp only[List.mem_cons];exact .inr (.inr (Bi.2 (.inr (.inr (.inr ⟨j,e⟩))))))
  ·exact hj (h.game.inj j i b' e hf)
 refine⟨h.game.setC hi ⟨hb'.1,hb'.2.1,hb'.2.2.1⟩ hrow ?_ ?_ h3 h4 ?_,?_,h.snl,?_,?_,h.xc,?_⟩
 ·exact h5 bg (by simp[Bf]) (Ne.symm hb'.1) h.game.nd.2.1 hn1
 ·exact h5 bf (by simp[Bf]) (Ne.symm hb'.2.1) h.game.nd.2.2 hn2
 ·intro j b hj hb;have hm:b∈Bf bg bf bc bs:=Bi.2 (.inr (.inr (.inr ⟨j,hb⟩)));exact h5 b (by simp only[List.mem_cons];exact .inr (.inr hm)) (fun e=>hrow j hj (e ▸ hb)) (h.game.ndr j b hb).2.2 (fun e=>hj (h.game.inj j i b hb e))
 ·rw[h5 bx (by simp) (Ne.symm hb'.2.2.2.1) (Ne.symm hbc.1) hn3];exact h.seen
 ·rw[h5 c3 (by simp) (Ne.symm hb'.2.2.2.2) (Ne.symm hbc.2) hn4];exact h.cell
 ·intro k hk;rcases Qll hib hk with rfl | hk
  ·exact⟨hb'.2.2.2.1,hb'.2.2.2.2⟩
  ·exact h.off k hk
 ·intro k hk;simp only[List.mem_cons];rcases h6 k hk with rfl | ⟨hk,hk2⟩
  ·exact .inr (.inr (Bi.2 (.inr (.inr (.inr ⟨i,by rw[List.getElem?_set,if_pos rfl,if_pos hib]⟩)))))
  ·simp only[List.mem_cons]at hk;rcases hk with hk | hk | hk
   ·exact .inl hk
   ·exact .inr (.inl hk)
   ·refine .inr (.inr (Bi.2 ?_));rcases Bi.1 hk with hk | hk | hk | ⟨j,hj⟩
    ·exact .inl hk
    ·exact .inr (.inl hk)
    ·exact .inr (.inr (.inl hk))
    ·by_cases hij:i=j
     ·subst hij;rw[hk2 hj];exact .inr (.inr (.inr ⟨i,by rw[List.getElem?_set,if_pos rfl,if_pos hib]⟩))
     ·exact .inr (.inr (.inr ⟨j,by rw[List.getElem?_set,if_neg hij];exact hj⟩))
end
end Go.Av
end
section
namespace Go.Av
open Go.Proofs Go.Lam
structure VSt where
 M:Ac
 fl:List Nat
 bs:List (Option Nat)
 cl:List (List Nat)
 sn:List Bool
def Qzm (n bg bf bc bx c3:Nat) (es:List RE) (A:List Nat) (fl:List Nat) (bs:List (Option Nat)) (cl:List (List Nat)) (sn:List Bool) (j:Nat) (v:AV) (M':Ac):Prop :=
 ∃ok:Bool,v=.bool ok∧∃(fl':List Nat) (bs':List (Option Nat)) (cl':List (List Nat)) (sn':List Bool),Ji M' n bg bf bc bx c3 es fl' bs' cl' sn' ∧
  (ok=false→fl'=fl∧bs'=bs∧cl'=cl∧Ld n (Ae es) (En fl) (Dm cl) (Fy sn) (Fy sn')∧∀e∈Dm cl j,Fy sn' (Gl (Ae es) e j)=true) ∧
  (ok=true→Got n (Ae es) A (Fy sn) j (En fl) (Dm cl) (En fl') (Dm cl')∧∀v,Fy sn v=true→Fy sn' v=true)
theorem set_self {m:Ac} {b:Nat} {x:Fi} (h:m b=some x):m.set b x=m:=by
 funext k
 by_cases e:k=b
 ·subst e;rw[Ac.set_same,h]
 ·rw[Ac.set_other _ _ e]
theorem Ww {n:Nat} {E:Nat→Ed} {fr:Nat→Nat} {cv:Nat→List Nat} {s t:List Bool} (h:Ld n E fr cv (Fy s) (Fy t)) (hs:s.length=n) (ht:t.length=n):Gc t≤Gc s:=by
 have key:∀{s t:List Bool},s.length=t.length→(∀i,Fy s i=true→Fy t i=true)→Gc t≤Gc s:=by
  intro s
  induction s with
  |nil=>intro t hl _;cases t with
   |nil=>exact Nat.le_refl _
   |cons b t=>simp at hl
  |cons a s ih=>intro t hl hi;cases t with
   |nil=>simp at hl
   |cons b t =>
    have h1:=ih (t:=t) (by simpa using hl) (fun i hi'=>by have:=hi (i+1);simp[Fy]at this;simpa[Fy]using this (by simpa[Fy]using hi'));have h2:=hi 0;simp[Fy]at h2;unfold Gc at *;rw[List.countP_cons,List.countP_cons];cases a<;>cases b<;>simp_all
    omega
 exact key (by rw[hs,ht]) h.sub
theorem Jw {l:List Nat} {i e:Nat} (hi:i<l.length) (he:l[i]=e):l.take (i+1)=l.take i++[e]:=by
 rw[List.take_add_one,List.getElem?_eq_getElem hi,he];rfl
theorem Qd8 (n bg bf bc bx c3:Nat) (es:List RE) (A:List Nat) (hn:n≤12) (hes:Li n es) (hA:∀e∈A,e<es.length) :
  ∀(fuel:Nat) (M:Ac) (fl:List Nat) (bs:List (Option Nat)) (cl:List (List Nat)) (sn:List Bool) (j:Nat),Gc sn≤fuel→Ji M n bg bf bc bx c3 es fl bs cl sn→Inv n (Ae es) A (En fl) (Dm cl)→j<n→Fy sn j=true →
   Aj Tryz.prog 195 [.int .i64 (j:Nat),.rptr [.ptr bg 3 0 0],.rptr [.osl bx 1 0 n],.ptr c3 1 0 0] M (Qzm n bg bf bc bx c3 es A fl bs cl sn j):=by
 have hes12:Li 12 es:=fun i hi=>⟨(hes i hi).1,(hes i hi).2.1,by have:=(hes i hi).2.2;exact⟨by have:=this.1;omega,by have:=this.2.1;omega,this.2.2⟩⟩;intro fuel
 induction fuel using Nat.strongRecOn with
 |ind fuel IH =>
 intro M fl bs cl sn j hu hV hI hj hjs;refine Ad Tryz.func195 rfl rfl 99 rfl (Nat.le_of_ble_eq_true rfl) ?_;(repeat refine AW.seq_k fun K hK=>?_);refine AW.rg ?_;simp[Ak];try (refine hK _ rfl ?_;clear hK K)
 have m1:=hV.game.g;have m3:=hV.game.c;have hhl:=G9 hV.game;obtain⟨o,ho,hget⟩:=L6 hV.game hj;unfold C6 at m1;have hjh:j<(Hj bs cl).length:=by rw[hhl];exact hj
 have hgel:(Hj bs cl)[j]=hdO o (Dm cl j):=by rw[List.getElem?_eq_getElem hjh]at hget;exact Option.some.inj hget
 cases o with
 |none =>
  have hc0:=hV.game.nil j ho;simp only[hdO]at hgel;have hone:=hV.ones;refine AW.seq_ex (ι:=Unit) (fun _=>[]) (fun _=>M) (fun _=>True) ?_ ?_
  ·(repeat refine AW.seq_k fun K hK=>?_);refine AW.rg ?_;simp[m1,m3,hj,hhl,hgel];try (refine hK _ rfl ?_;clear hK K)
   refine AW.block (AW.loopS (ι:=Unit) (fun _=>[(16,.int .i64 0),(17,.int .i64 0)]) (fun _=>M) (fun _=>True) (fun _=>0) () trivial rfl (by simp) ?_);intro _ _;(repeat refine AW.seq_k fun K hK=>?_);refine AW.rg ?_;simp;try (refine hK _ rfl ?_;clear hK K)
   (repeat refine AW.seq ?_);refine AW.no ?_ rfl;refine AW.exit ?_;try simp
  ·rintro _ _;(repeat refine AW.seq_k fun K hK=>?_);refine AW.rg ?_;simp;try (refine hK _ rfl ?_;clear hK K)
   exact AW.ret (B9 rfl hone ⟨false,rfl,fl,bs,cl,sn,hV,fun _=>⟨rfl,rfl,rfl,Ld.refl _,fun e he=>by rw[hc0]at he;cases he⟩,fun h=>by cases h⟩)
 |some b =>
  simp only[hdO]at hgel;have hrow:=hV.game.row j b ho;have hlen2:(Dm cl j).length≤2:=by have:=hI.two j hj;omega
  refine AW.seq_ex (ι:=Ac × List Bool) (fun _=>[]) (fun z=>z.1) (fun z=>Ji z.1 n bg bf bc bx c3 es fl bs cl z.2∧Ld n (Ae es) (En fl) (Dm cl) (Fy sn) (Fy z.2)∧∀e∈Dm cl j,Fy z.2 (Gl (Ae es) e j)=true) ?_ ?_
  ·(repeat refine AW.seq_k fun K hK=>?_);refine AW.rg ?_;simp[m1,m3,hj,hhl,hgel];try (refine hK _ rfl ?_;clear hK K)
   refine AW.block (AW.loopS (ι:=Ac × List Bool × Nat) (fun z=>[(0,.int .i64 (j:Nat)),(1,.rptr [.ptr bg 3 0 0]),(2,.rptr [.osl bx 1 0 n]),(3,.ptr c3 1 0 0),(15,.osl b 1 0 (Dm cl j).length),(16,.int .i64 ((Dm cl j).length:Nat)),(17,.int .i64 (z.2.2:Nat))]) (fun z=>z.1)
    (fun z=>z.2.2≤(Dm cl j).length∧Ji z.1 n bg bf bc bx c3 es fl bs cl z.2.1∧Ld n (Ae es) (En fl) (Dm cl) (Fy sn) (Fy z.2.1)∧∀e∈(Dm cl j).take z.2.2,Fy z.2.1 (Gl (Ae es) e j)=true)
    (fun z=>(Dm cl j).length-z.2.2) (M,sn,0) ⟨by simp,hV,Ld.refl _,by simp⟩ rfl (by simp) ?_)
   rintro⟨M1,s1,i⟩ ⟨g1,g2,g3,g4⟩;simp only at g1 g2 g3 g4;(repeat refine AW.seq_k fun K hK=>?_);refine AW.rg ?_;simp;try (refine hK _ rfl ?_;clear hK K)
   (repeat refine AW.seq ?_);refine AW.cs (fun hi=>?_) (fun hi=>?_) rfl<;>(try simp at hi)
   ·refine AW.skip ?_;try simp
    try (refine hK _ rfl ?_;clear hK K)
    have w1:=Ap (i+1) (by omega);have r1:=g2.game.row j b ho;have r2:=g2.seen;have hsl:=g2.snl;obtain⟨e,he⟩:∃e,(Dm cl j)[i]=e:=⟨_,rfl⟩;have heM:e∈Dm cl j:=he ▸ List.getElem_mem hi;have hei:(Dm cl j)[i]?=some e:=by rw[List.getElem?_eq_getElem hi,he]
    have hel:e<es.length:=hA e (hI.mem hj heM);have hend:=hI.ends j hj e heM;obtain⟨hn1,hn2⟩:=hI.oth_lt hj heM;have htk:=Jw hi he;(repeat refine AW.seq ?_);refine AW.block ?_;(repeat refine AW.seq_k fun K hK=>?_);refine AW.rg ?_;simp[r1,hi,he];try (refine hK _ rfl ?_;clear hK K)
    (repeat refine AW.seq_k fun K hK=>?_);refine AW.rg ?_;simp;try (refine hK _ rfl ?_;clear hK K)
    refine Aa.grant bg (C6 es bf bc n) g2.game.g (fun h=>h) (Vc bg bf bc n es e j hel hes12 (by rcases hend with h | h;exact .inl h.symm;exact .inr h.symm)) ?_;rintro _ _ ⟨rfl,rfl⟩;rw[set_self g2.game.g];simp;try (refine hK _ rfl ?_;clear hK K)
    obtain⟨n1,hn⟩:∃n1,Gl (Ae es) e j=n1:=⟨_,rfl⟩;rw[hn]at hn1 hn2;simp only[hn];have hs1:n1<s1.length:=by rw[hsl];exact hn1
    cases hseen:s1[n1]with
    |true =>
     (repeat refine AW.seq_k fun K hK=>?_);refine AW.rg ?_;simp[r2,hn1,hsl,hseen];try (refine hK _ rfl ?_;clear hK K)
     refine AW.yes ?_ rfl;refine AW.exit ?_;try simp
     (repeat refine AW.seq_k fun K hK=>?_);refine AW.rg ?_;simp[-Int.natCast_add,w1];try (refine hK _ rfl ?_;clear hK K)
     refine⟨M1,s1,i+1,⟨by omega,g2,g3,fun x hx=>?_⟩,by omega,rfl,rfl⟩;rw[htk]at hx;rcases List.mem_append.1 hx with hx | hx
     ·exact g4 x hx
     ·simp only[List.mem_singleton]at hx;subst hx;rw[hn,Ta hs1,hseen]
    |false =>
     have hS1:Fy s1 n1=false:=by rw[Ta hs1,hseen]
     have hS:Fy sn n1=false:=by
      cases hc:Fy sn n1 with
      |false=>rfl
      |true=>rw[g3.sub n1 hc]at hS1;cases hS1
     (repeat refine AW.seq_k fun K hK=>?_);refine AW.rg ?_;simp[r2,hn1,hsl,hseen];try (refine hK _ rfl ?_;clear hK K)
     refine AW.no ?_ rfl;refine AW.skip ?_;try simp
     try (refine hK _ rfl ?_;clear hK K)
     (repeat refine AW.seq_k fun K hK=>?_);refine AW.rg ?_;simp[r2,hn1,hsl];try (refine hK _ rfl ?_;clear hK K)
     rw[F6];have V2:=g2.look n1;have hsn2:Fy (s1.set n1 true)=Fk (Fy s1) n1 true:=Kn hs1;have hu2:=U2 hs1 hseen;generalize M1.set bx ⟨4,1,bools (s1.set n1 true)⟩=M2 at V2 ⊢;refine AW.seq_ex (ι:=VSt) (fun z=>[(0,.int .i64 (j:Nat)),(1,.rptr [.ptr bg 3 0 0]),(2,.rptr [.osl bx 1 0 n]),(3,.ptr c3 1 0 0),(15,.osl b 1 0 (Dm cl j).length),(6,.int .i64 (i:Nat)),(7,.int .i64 (e:Nat)),(8,.int .i64 (n1:Nat))]) (fun z=>z.M)
      (fun z=>Ji z.M n bg bf bc bx c3 es z.fl z.bs z.cl z.sn∧Inv n (Ae es) A (En z.fl) (Dm z.cl)∧Dm z.cl j=Dm cl j∧0<En z.fl n1 ∧
       Got n (Ae es) A (Fy sn) j (En fl) (Dm cl) (Fk (Fk (En z.fl) n1 (En z.fl n1-1)) j (En z.fl j+1)) (Fk (Fk (Dm z.cl) n1 (Dm z.cl n1++[e])) j ((Dm z.cl j).eraseIdx i))∧∀v,Fy sn v=true→Fy z.sn v=true) ?_ ?_
     ·have q1:=V2.game.g;have q2:=V2.game.f;have q3:=V2.cell;have q4:=V2.game.fll;have hf1:n1<fl.length:=by rw[q4];exact hn1
      unfold C6 at q1;unfold Quf at q3;have hsub2:∀v,Fy sn v=true→Fy (s1.set n1 true) v=true:=fun v hv=>by
       rw[hsn2];unfold Fk;split;rfl;exact g3.sub v hv
      by_cases hz:fl[n1]=0
      ·have ih:=IH (Gc (s1.set n1 true)) (by have h1:=hu2;have h2:=Ww g3 hV.snl g2.snl;omega) _ fl bs cl (s1.set n1 true) n1 (Nat.le_refl _) V2 hI hn1 (by rw[hsn2,Ek]);(repeat refine AW.seq_k fun K hK=>?_);refine AW.rg ?_;simp[q1,q2,q3,hn1,q4,hz];try (refine hK _ rfl ?_;clear hK K)
       refine⟨195,_,⟨rfl,rfl⟩,?_⟩;refine Aa.whole (fun _ h=>h) ih ?_;rintro _ g ⟨ok,rfl,fl',bs',cl',sn',hV',hF,hT⟩;cases ok with
       |false =>
        obtain⟨rfl,rfl,rfl,hL,hsh⟩:=hF rfl;simp;try (refine hK _ rfl ?_;clear hK K)
        refine AW.yes ?_ rfl;refine AW.exit ?_;try simp
        (repeat refine AW.seq_k fun K hK=>?_);refine AW.rg ?_;simp[-Int.natCast_add,w1];try (refine hK _ rfl ?_;clear hK K)
        refine⟨g,sn',i+1,⟨by omega,hV',?_,fun x hx=>?_⟩,by omega,rfl,rfl⟩
        ·rw[hsn2]at hL;exact g3.step (by rw[←Fw hf1];exact hz) hL hsh
        ·rw[htk]at hx;have hm:∀v,Fy s1 v=true→Fy sn' v=true:=fun v hv=>hL.sub v (by rw[hsn2];unfold Fk;split;rfl;exact hv);rcases List.mem_append.1 hx with hx | hx
         ·exact hm _ (g4 x hx)
         ·simp only[List.mem_singleton]at hx;subst hx;rw[hn];exact hL.sub n1 (by rw[hsn2,Ek])
       |true =>
        obtain⟨hG,hsub3⟩:=hT rfl;simp;try (refine hK _ rfl ?_;clear hK K)
        refine AW.no ?_ rfl;refine AW.skip ?_;rw[hsn2]at hG;have hGt:=Got.through (fun v hv=>g3.sub v hv) hj hjs hei (by rw[hn];exact hS1) (by rw[hn];exact hn2) (by rw[hn];exact hG);rw[hn]at hGt;have hjT:Fk (Fy s1) n1 true j=true:=by rw[Bq _ _ (Ne.symm hn2)];exact g3.sub j hjs
        refine⟨⟨g,fl',bs',cl',sn'⟩,⟨hV',hG.inv,hG.cover j hj hjT (Ne.symm hn2),by rw[hG.plus];omega,hGt,fun v hv=>hsub3 v (hsub2 v hv)⟩,rfl,rfl,by simp⟩
      ·have hpos:0<En fl n1:=by rw[←Fw hf1];omega
       (repeat refine AW.seq_k fun K hK=>?_);refine AW.rg ?_;simp[q1,q2,q3,hn1,q4,hz];try (refine hK _ rfl ?_;clear hK K)
       refine AW.no ?_ rfl;refine AW.skip ?_;have hGd:=Got.direct (S:=Fy sn) hI hj hei (by rw[hn];exact hS) (by rw[hn];exact hpos);rw[hn]at hGd;refine⟨⟨_,fl,bs,cl,s1.set n1 true⟩,⟨V2,hI,rfl,hpos,hGd,hsub2⟩,rfl,rfl,by simp⟩
     ·rintro⟨M3,fl3,bs3,cl3,s3⟩ ⟨hV3,hI3,hcj,hp3,hG3,hsub3⟩;simp only at hV3 hI3 hcj hp3 hG3 hsub3 ⊢;have q1:=hV3.game.g;have q2:=hV3.game.f;have q4:=hV3.game.fll;have hf1:n1<fl3.length:=by rw[q4];exact hn1
      have hx2:En fl3 n1≤2:=by have:=hI3.two n1 hn1;omega
      have hx1:=Fw hf1;have w2:IntKind.i64.wrap (((En fl3 n1:Nat):Int)-1)=((En fl3 n1-1:Nat):Int):=by
       rw[show((En fl3 n1:Nat):Int)-1=((En fl3 n1-1:Nat):Int) by omega];exact wi (by omega)
      unfold C6 at q1;(repeat refine AW.seq_k fun K hK=>?_);refine AW.rg ?_;simp[q1,q2,hn1,q4,hx1,w2];try (refine hK _ rfl ?_;clear hK K)
      rw[Jx];have V4:=hV3.setF n1 (En fl3 n1-1);generalize M3.set bf ⟨3,1,Ar (fl3.set n1 (En fl3 n1-1))⟩=M4 at V4 ⊢;refine AW.seq_ex (ι:=Ac × Nat) (fun _=>[(0,.int .i64 (j:Nat)),(1,.rptr [.ptr bg 3 0 0]),(2,.rptr [.osl bx 1 0 n]),(3,.ptr c3 1 0 0),(6,.int .i64 (i:Nat)),(7,.int .i64 (e:Nat)),(8,.int .i64 (n1:Nat))]) (fun z=>z.1) (fun z=>Ji z.1 n bg bf bc bx c3 es (fl3.set n1 (En fl3 n1-1)) (bs3.set n1 (some z.2)) (cl3.set n1 (Dm cl3 n1++[e])) s3) ?_ ?_
      ·have q5:=V4.game.g;have q6:=V4.game.c;have hhl4:=G9 V4.game;obtain⟨o4,ho4,hget4⟩:=L6 V4.game hn1;have hjh4:n1<(Hj bs3 cl3).length:=by rw[hhl4];exact hn1
       have hgel4:(Hj bs3 cl3)[n1]=hdO o4 (Dm cl3 n1):=by rw[List.getElem?_eq_getElem hjh4]at hget4;exact Option.some.inj hget4
       have nd:=V4.game.nd;have hbcn:bc≠bg:=Ne.symm nd.2.1;unfold C6 at q5;have hl3:(Dm cl3 n1).length≤2:=by have:=hI3.two n1 hn1;omega
       cases o4 with
       |none =>
        have hc0:=V4.game.nil n1 ho4;simp only[hdO]at hgel4;(repeat refine AW.seq_k fun K hK=>?_);refine AW.rdLR [69] [bg,bc] [0,1,2,3,4,5,6,7,8,9,10,11,12,13,14,15,16] Ds (by simp[q5,q6]) ?_;simp[q5,q6,hn1,hhl4,hgel4];refine⟨by unfold maxLen;omega,fun b6 h6 _=>?_⟩;have hfresh:b6 ∉ bx::c3::Bf bg bf bc bs3:=fun hm=>V4.dom hm h6;have e1:¬bc=b6:=fun h=>hfresh (by rw[←h];simp[Bf]);simp[e1,hn1,hhl4];refine⟨b6,V4.setC hn1 (.inl hfresh) (by rw[Ac.set_same,hc0];rfl) (by rw[Ac.set_other _ _ (Ne.symm e1),Ac.set_same,hc0];rfl) (fun k _ hk1 hk2 _=>by rw[Ac.set_other _ _ hk2,Ac.set_other _ _ hk1]) (fun k hk=>?_)⟩
        by_cases k1:k=b6
        ·exact .inl k1
        ·refine .inr ⟨?_,fun h=>by rw[ho4]at h;cases h⟩;by_cases k2:k=bc
         ·rw[k2];simp[Bf]
         ·rw[Ac.set_other _ _ k2,Ac.set_other _ _ k1]at hk;exact V4.only k hk
       |some b4 =>
        simp only[hdO]at hgel4;have q7:=V4.game.row n1 b4 ho4;have hnd4:=V4.game.ndr n1 b4 ho4;(repeat refine AW.seq_k fun K hK=>?_);refine AW.rdLR [69] [bg,bc] [0,1,2,3,4,5,6,7,8,9,10,11,12,13,14,15,16] Ds (by simp[q5,q6]) ?_;simp[q5,q6,q7,hn1,hhl4,hgel4,hnd4];refine⟨by omega,by unfold maxLen;omega,fun b6 h6 _=>?_⟩;have hf6:b6 ∉ bx::c3::Bf bg bf bc bs3∨bs3[n1]?=some (some b6):=by
         by_cases e:b6=b4
         ·exact .inr (by rw[e];exact ho4)
         ·exact .inl fun hm=>V4.dom hm (by rwa [Ac.del_other _ e]at h6)
        have e1:¬bc=b6:=by
         intro h;rcases hf6 with hf6 | hf6
         ·exact hf6 (by rw[←h];simp[Bf])
         ·exact(V4.game.ndr n1 b6 hf6).2.2 h.symm
        have e2:¬bc=b4:=Ne.symm hnd4.2.2;simp[e1,e2,hn1,hhl4];refine⟨b6,V4.setC hn1 hf6 (by rw[Ac.set_same];simp) (by rw[Ac.set_other _ _ (Ne.symm e1),Ac.set_same,Em]) (fun k _ hk1 hk2 hk3=>?_) (fun k hk=>?_)⟩
        ·have:k≠b4:=fun h=>hk3 (by rw[h];exact ho4);rw[Ac.set_other _ _ hk2,Ac.set_other _ _ hk1,Ac.del_other _ this]
        ·by_cases k1:k=b6
         ·exact .inl k1
         ·by_cases k2:k=bc
          ·exact .inr ⟨by rw[k2];simp[Bf],fun h=>absurd k2 (V4.game.ndr n1 k h).2.2⟩
          ·rw[Ac.set_other _ _ k2,Ac.set_other _ _ k1]at hk;by_cases k3:k=b4
           ·rw[k3,Ac.del_same]at hk;exact absurd rfl hk
           ·rw[Ac.del_other _ k3]at hk;exact .inr ⟨V4.only k hk,fun h=>by rw[ho4]at h;cases h;exact absurd rfl k3⟩
      ·rintro⟨M5,b5⟩ V5;simp only at V5 ⊢;have hcv5:Dm (cl3.set n1 (Dm cl3 n1++[e]))=Fk (Dm cl3) n1 (Dm cl3 n1++[e]):=O9 (by rw[hV3.game.cll];exact hn1);have hcj5:Dm (cl3.set n1 (Dm cl3 n1++[e])) j=Dm cl j:=by rw[hcv5,Bq _ _ (Ne.symm hn2),hcj]
       have hfr5:En (fl3.set n1 (En fl3 n1-1))=Fk (En fl3) n1 (En fl3 n1-1):=Yf hf1;have hfj5:En (fl3.set n1 (En fl3 n1-1)) j=En fl3 j:=by rw[hfr5,Bq _ _ (Ne.symm hn2)]
       have hfl5:(fl3.set n1 (En fl3 n1-1)).length=n:=V5.game.fll;have hcl5:(cl3.set n1 (Dm cl3 n1++[e])).length=n:=V5.game.cll;have hfj2:En fl3 j≤2:=by have:=hI3.two j hj;omega
       have hdone:∀(M:Ac) (bs':List (Option Nat)),Ji M n bg bf bc bx c3 es ((fl3.set n1 (En fl3 n1-1)).set j (En fl3 j+1)) bs' ((cl3.set n1 (Dm cl3 n1++[e])).set j ((Dm cl j).eraseIdx i)) s3 →
         Qzm n bg bf bc bx c3 es A fl bs cl sn j (.bool true) M:=fun M bs' hV=>⟨true,rfl,_,bs',_,s3,hV,(fun h=>by cases h),fun _=>⟨by
        rw[Yf (by rw[hfl5];exact hj),O9 (by rw[hcl5];exact hj),hfr5,hcv5];rw[hcj]at hG3;exact hG3,hsub3⟩⟩
       generalize fl3.set n1 (En fl3 n1-1)=fl5 at *;generalize cl3.set n1 (Dm cl3 n1++[e])=cl5 at *;generalize bs3.set n1 (some b5)=bs5 at *;obtain⟨o5,ho5,hget5⟩:=L6 V5.game hj;cases o5 with
       |none =>
        have:=V5.game.nil j ho5;rw[hcj5]at this;rw[this]at hi;simp at hi
       |some bj =>
        simp only[hdO]at hget5;have q5:=V5.game.g;have q6:=V5.game.c;have q7:=V5.game.row j bj ho5;have hnd5:=V5.game.ndr j bj ho5;have hhl5:=G9 V5.game;have hjh5:j<(Hj bs5 cl5).length:=by rw[hhl5];exact hj
        rw[hcj5]at hget5 q7;have hgel5:(Hj bs5 cl5)[j]=.osl bj 1 0 (Dm cl j).length:=by rw[List.getElem?_eq_getElem hjh5]at hget5;exact Option.some.inj hget5
        have nd:=V5.game.nd;have hbcn:bc≠bg:=Ne.symm nd.2.1;unfold C6 at q5;(repeat refine AW.seq_k fun K hK=>?_);refine AW.rdL [bg,bc] [0,1,2,3,4,5,6,7,8,9,10,11,12,13,14,15,16,17] Ds (by simp[q5,q6]) ?_;simp[-Int.natCast_add,q5,q6,hj,hhl5,hgel5,w1];refine Aa.grant (R:=fun v x'=>v=.osl bj 1 0 ((Dm cl j).length-1)∧x'=⟨3,1,Ar ((Dm cl j).eraseIdx i)⟩) bj ⟨3,1,Ar (Dm cl j)⟩ q7 (fun h=>by rcases h with h | h;exact hnd5.1 h;exact hnd5.2.2 h)
         ((Pv bj (Dm cl j) i hi (by omega)).mono fun v m hm=>⟨_,⟨hm.1,rfl⟩,hm.2⟩) ?_
        rintro _ _ ⟨rfl,rfl⟩;have e2:¬bc=bj:=Ne.symm hnd5.2.2;simp[-Int.natCast_add,q6,e2,hj,hhl5];try (refine hK _ rfl ?_;clear hK K)
        have hle:((Dm cl j).eraseIdx i).length=(Dm cl j).length-1:=by rw[List.length_eraseIdx,if_pos hi]
        have V6:=V5.setC (l':=(Dm cl j).eraseIdx i) (M':=(M5.set bj ⟨3,1,Ar ((Dm cl j).eraseIdx i)⟩).set bc ⟨25,1,(Hj bs5 cl5).set j (.osl bj 1 0 ((Dm cl j).length-1))⟩) hj (.inr ho5) (by rw[Ac.set_same,hle]) (by rw[Ac.set_other _ _ (Ne.symm e2),Ac.set_same])
         (fun k _ hk1 hk2 _=>by rw[Ac.set_other _ _ hk2,Ac.set_other _ _ hk1]) (fun k hk=>by
          by_cases k1:k=bj
          ·exact .inl k1
          ·refine .inr ⟨?_,fun h=>by rw[ho5]at h;cases h;exact absurd rfl k1⟩;by_cases k2:k=bc
           ·rw[k2];simp[Bf]
           ·rw[Ac.set_other _ _ k2,Ac.set_other _ _ k1]at hk;exact V5.only k hk)
        generalize(M5.set bj ⟨3,1,Ar ((Dm cl j).eraseIdx i)⟩).set bc ⟨25,1,(Hj bs5 cl5).set j (.osl bj 1 0 ((Dm cl j).length-1))⟩=M6 at V6 ⊢;have p1:=V6.game.g;have p2:=V6.game.f;unfold C6 at p1;have hjf:j<fl5.length:=by rw[hfl5];exact hj
        have hxj:fl5[j]=En fl3 j:=by rw[Fw hjf,hfj5]
        have w3:=Ap (En fl3 j+1) (by omega);(repeat refine AW.seq_k fun K hK=>?_);refine AW.rg ?_;simp[-Int.natCast_add,p1,p2,hj,hfl5,hxj,w3];try (refine hK _ rfl ?_;clear hK K)
        rw[Jx];have V7:=V6.setF j (En fl3 j+1);generalize M6.set bf ⟨3,1,Ar (fl5.set j (En fl3 j+1))⟩=M7 at V7 ⊢;(repeat refine AW.seq_k fun K hK=>?_);refine AW.rg ?_;simp[-Int.natCast_add];try (refine hK _ rfl ?_;clear hK K)
        exact AW.ret (B9 rfl V7.ones (hdone _ _ V7))
   ·refine AW.exit ?_;try simp
    have hil:i=(Dm cl j).length:=by omega
    exact⟨s1,g2,g3,fun e he=>g4 e (by rw[hil,List.take_length];exact he)⟩
  ·rintro⟨M1,s1⟩ ⟨g1,g2,g3⟩;simp only at g1 g2 g3;(repeat refine AW.seq_k fun K hK=>?_);refine AW.rg ?_;simp;try (refine hK _ rfl ?_;clear hK K)
   exact AW.ret (B9 rfl g1.ones ⟨false,rfl,fl,bs,cl,s1,g1,fun _=>⟨rfl,rfl,rfl,g2,g3⟩,fun h=>by cases h⟩)
end Go.Av
end
section
namespace Go.Av
open Go.Proofs Go.Lam
def Q0r (n bg bf bc:Nat) (es:List RE) (A:List Nat) (fl:List Nat) (bs:List (Option Nat)) (cl:List (List Nat)) (to keep:Nat) (v:AV) (M':Ac):Prop :=
 ∃ok:Bool,v=.bool ok∧∃(fl':List Nat) (bs':List (Option Nat)) (cl':List (List Nat)),Dp M' n bg bf bc es fl' bs' cl'∧Ft M' (Bf bg bf bc bs') ∧
  (ok=false→fl'=fl∧bs'=bs∧cl'=cl∧∃X:Nat→Bool,X to=true∧X keep=true∧(∀v,v<n→X v=true→v≠to→v≠keep→En fl v=0)∧(∀v,v<n→X v=true→(v=to∨v≠keep)→∀e∈Dm cl v,X (Gl (Ae es) e v)=true)) ∧
  (ok=true→Got n (Ae es) A (fun v=>v==to || v==keep) to (En fl) (Dm cl) (En fl') (Dm cl'))
theorem Vo (n bg bf bc:Nat) (es:List RE) (A:List Nat) (hn:n≤12) (hes:Li n es) (hA:∀e∈A,e<es.length) (M:Ac) (fl:List Nat) (bs:List (Option Nat)) (cl:List (List Nat)) (to keep:Nat)
  (hG:Dp M n bg bf bc es fl bs cl) (ho:Ft M (Bf bg bf bc bs)) (hI:Inv n (Ae es) A (En fl) (Dm cl)) (ht:to<n) (hk:keep<n) :
  Aj Tryz.prog 162 [.ptr bg 3 0 0,.int .i64 (to:Nat),.int .i64 (keep:Nat)] M (Q0r n bg bf bc es A fl bs cl to keep):=by
 have q1:=hG.g;have q4:=hG.fll;have hone:=H3 hG ho;refine Ad Tryz.func162 rfl rfl 25 rfl (Nat.le_of_ble_eq_true rfl) ?_;(repeat refine AW.seq_k fun K hK=>?_);refine AW.rgR [3] ?_;simp[Ak];try (refine hK _ rfl ?_;clear hK K)
 unfold C6 at q1;(repeat refine AW.seq_k fun K hK=>?_);refine AW.rg ?_;simp[q1];try (refine hK _ rfl ?_;clear hK K)
 refine⟨by omega,Af.intro fun bx hx=>Af.intro fun c2 h2=>?_⟩;simp only[An]at h2;refine hK _ rfl ?_;clear hK K;have hrep:List.replicate n (AV.bool false)=bools (List.replicate n false):=by simp[bools]
 rw[hrep];have ones1:∀c y,M.set bx ⟨4,1,bools (List.replicate n false)⟩ c=some y→∀v∈y.l,v.cells.all AV.one=true:=by
  intro c y hy v hv;by_cases e:c=bx
  ·rw[e,Ac.set_same]at hy;cases hy;exact Mj _ v hv
  ·rw[Ac.set_other _ _ e]at hy;exact hone c y hy v hv
 have hc2:M.set bx ⟨4,1,bools (List.replicate n false)⟩ c2=none:=by rw[Ac.set_other _ _ h2.1.1];exact h2.2
 refine AW.turn [(1,.int .i64 (to:Nat)),(2,.int .i64 (keep:Nat)),(3,.rptr [.ptr bg 3 0 0]),(6,.bool false),(7,.rptr [.osl bx 1 0 n])] (M.set bx ⟨4,1,bools (List.replicate n false)⟩) (Bn.drop hc2 ones1)
  (by simp;exact .ptr c2 1 0 0 ⟨137,1,[.osl bx 1 0 n]⟩ (.osl bx 1 0 n) (Ac.set_same _ _ _) hc2 rfl rfl) ?_
 have hl0:(bools (List.replicate n false)).length=n:=by simp
 (repeat refine AW.seq_k fun K hK=>?_);refine AW.rdT [] [7] [] [] [0,1,2,3,4,5,6,7] Ds (by simp[ht,hk,hl0]) (by simp[ht,hk,hl0]) (by simp[ht,hk,hl0]) (by simp[ht,hk,hl0]) (by simp[ht,hk,hl0]) ?_;simp[ht,hk,hl0];try (refine hK _ rfl ?_;clear hK K)
 rw[F6,F6];have hsl:(((List.replicate n false).set to true).set keep true).length=n:=by simp
 have hS:Fy (((List.replicate n false).set to true).set keep true)=fun v=>v==to || v==keep:=by
  rw[Kn (by simp;exact hk),Kn (by simp;exact ht)]
  funext v
  unfold Fk;have h0:Fy (List.replicate n false) v=false:=by unfold Fy;rw[List.getD_eq_getElem?_getD,List.getElem?_replicate];split<;>rfl
  by_cases e1:v=keep<;>by_cases e2:v=to<;>simp[e1,e2,h0]
 generalize((List.replicate n false).set to true).set keep true=sn at hsl hS ⊢;(repeat refine AW.seq_k fun K hK=>?_);refine AW.rg ?_;simp;try (refine hK _ rfl ?_;clear hK K)
 refine⟨rfl,by simp[AV.cells,AV.one],Af.intro fun c3 h3=>?_⟩;simp only[An]at h3;refine hK _ rfl ?_;clear hK K;(repeat refine AW.seq_k fun K hK=>?_);refine AW.rg ?_;simp;try (refine hK _ rfl ?_;clear hK K)
 have hnx:∀k∈Bf bg bf bc bs,k≠bx∧k≠c3:=fun k hk=>⟨fun e=>hG.dom hk (by rw[e];exact hx),fun e=>hG.dom hk (by rw[e];exact h3.2)⟩;have hV:Ji ((M.set bx ⟨4,1,bools sn⟩).set c3 ⟨100,1,[.fn 195 [.rptr [.ptr bg 3 0 0],.rptr [.osl bx 1 0 n],.ptr c3 1 0 0]]⟩) n bg bf bc bx c3 es fl bs cl sn :=
  {game:=hG.congr fun k hk=>by rw[Ac.set_other _ _ (hnx k hk).2,Ac.set_other _ _ (hnx k hk).1]
   seen:=by rw[Ac.set_other _ _ h3.1.2,Ac.set_same]
   snl:=hsl
   cell:=Ac.set_same _ _ _
   off:=hnx
   xc:=h3.1.2
   only:=fun k hk=>by
    simp only[List.mem_cons];by_cases e1:k=c3
    ·exact .inr (.inl e1)
    ·by_cases e2:k=bx
     ·exact .inl e2
     ·rw[Ac.set_other _ _ e1,Ac.set_other _ _ e2]at hk;exact .inr (.inr (ho k hk))}
 have hc3:=hV.cell;unfold Quf at hc3;have ih:=Qd8 n bg bf bc bx c3 es A hn hes hA (Gc sn) _ fl bs cl sn to (Nat.le_refl _) hV hI ht (by rw[hS];simp);generalize(M.set bx ⟨4,1,bools sn⟩).set c3 ⟨100,1,[.fn 195 [.rptr [.ptr bg 3 0 0],.rptr [.osl bx 1 0 n],.ptr c3 1 0 0]]⟩=M2 at hV hc3 ih ⊢;(repeat refine AW.seq_k fun K hK=>?_);refine AW.rg ?_;simp[hc3];try (refine hK _ rfl ?_;clear hK K)
 refine⟨195,_,⟨rfl,rfl⟩,?_⟩;refine Aa.whole (fun _ h=>h) ih ?_;rintro _ g ⟨ok,rfl,fl',bs',cl',sn',hV',hF,hT⟩;simp;try (refine hK _ rfl ?_;clear hK K)
 have hrec:Bn g (g.only (Bf bg bf bc bs')):=Bn.sub fun b x hb=>by
  by_cases hm:b∈Bf bg bf bc bs'
  ·rw[B8 hm]at hb;exact⟨hb,hV'.ones b x hb⟩
  ·rw[B1 hm]at hb;cases hb
 refine AW.ret ⟨[.bool ok],rfl,.bool ok,_,hrec,.same _,ok,rfl,fl',bs',cl',hV'.game.congr fun k hk=>B8 hk,fun k hk=>?_,fun h=>?_,fun h=>?_⟩
 ·rcases Decidable.em (k∈Bf bg bf bc bs')with hm|hm
  ·exact hm
  ·exact absurd (B1 hm) hk
 ·obtain⟨r1,r2,r3,hL,hsh⟩:=hF h;rw[hS]at hL;refine⟨r1,r2,r3,Fy sn',hL.sub to (by simp),hL.sub keep (by simp),fun v hv hx h1 h2=>hL.zero v hv (by simp[h1,h2]) hx,fun v hv hx h1=>?_⟩;by_cases e:v=to
  ·rw[e];exact hsh
  ·exact hL.shut v hv (by simp[e];exact h1.resolve_left e) hx
 ·have:=(hT h).1;rw[hS]at this;exact this
end Go.Av
end
section
namespace Go.Av
open Go.Proofs Go.Lam
structure GSt where
 M:Ac
 fl:List Nat
 bs:List (Option Nat)
 cl:List (List Nat)
structure Jf (n bg bf bc:Nat) (es:List RE) (A:List Nat) (M:Ac) (fl:List Nat) (bs:List (Option Nat)) (cl:List (List Nat)):Prop where
 mem:Dp M n bg bf bc es fl bs cl
 only:Ft M (Bf bg bf bc bs)
 inv:Inv n (Ae es) A (En fl) (Dm cl)
def Q06 (n bg bf bc:Nat) (es:List RE) (A:List Nat) (a b:Nat) (v:AV) (M':Ac):Prop :=
 ∃(fl':List Nat) (bs':List (Option Nat)) (cl':List (List Nat)),v=.int .i64 ((En fl' a+En fl' b:Nat):Int)∧Jf n bg bf bc es A M' fl' bs' cl'∧En fl' a=2 ∧
  (En fl' b=2∨En fl' b=1∧∃X,Dv n (A.map (Ae es)) X∧X a=true∧X b=true)
theorem Rx (n bg bf bc:Nat) (es:List RE) (A:List Nat) (hn:n≤12) (hes:Li n es) (hA:∀e∈A,e<es.length) (hsp:Ba n (A.map (Ae es))) (M:Ac) (fl:List Nat) (bs:List (Option Nat)) (cl:List (List Nat)) (a b:Nat)
  (hG:Jf n bg bf bc es A M fl bs cl) (ha:a<n) (hb:b<n) (hab:a≠b) :
  Aj Tryz.prog 119 [.ptr bg 3 0 0,.int .i64 (a:Nat),.int .i64 (b:Nat)] M (Q06 n bg bf bc es A a b):=by
 refine Ad Tryz.func119 rfl rfl 50 rfl (Nat.le_of_ble_eq_true rfl) ?_;(repeat refine AW.seq_k fun K hK=>?_);refine AW.rg ?_;simp[Ak];try (refine hK _ rfl ?_;clear hK K)
 refine AW.seq_ex (ι:=GSt) (fun _=>[(0,.ptr bg 3 0 0),(1,.int .i64 (a:Nat)),(2,.int .i64 (b:Nat))]) (fun z=>z.M) (fun z=>Jf n bg bf bc es A z.M z.fl z.bs z.cl∧En z.fl a=2) ?_ ?_
 ·refine AW.block (AW.loopS (ι:=GSt) (fun _=>[(0,.ptr bg 3 0 0),(1,.int .i64 (a:Nat)),(2,.int .i64 (b:Nat))]) (fun z=>z.M) (fun z=>Jf n bg bf bc es A z.M z.fl z.bs z.cl) (fun z=>2-En z.fl a) ⟨M,fl,bs,cl⟩ hG rfl (by simp) ?_);rintro⟨M,fl,bs,cl⟩ hG;simp only at hG ⊢;have q1:=hG.mem.g;have q2:=hG.mem.f;have q4:=hG.mem.fll;have hal:a<fl.length:=by rw[q4];exact ha
  have hx:=Fw hal;have h2:=hG.inv.two a ha;unfold C6 at q1;by_cases hlt:fl[a]<2
  ·have hc:=Vo n bg bf bc es A hn hes hA M fl bs cl a a hG.mem hG.only hG.inv ha ha;have hlt':((fl[a]:Nat):Int)<2:=by omega
   (repeat refine AW.seq_k fun K hK=>?_);refine AW.rg ?_;simp[q1,q2,ha,q4,hlt];try (refine hK _ rfl ?_;clear hK K)
   refine Aa.whole (fun _ h=>h) hc ?_;rintro _ g ⟨ok,rfl,fl',bs',cl',hM,ho,hF,hT⟩;cases ok with
   |true =>
    have hg:=hT rfl;simp;try (refine hK _ rfl ?_;clear hK K)
    refine AW.yes ?_ rfl;refine AW.skip ?_;try simp
    try (refine hK _ rfl ?_;clear hK K)
    (repeat refine AW.seq ?_);refine AW.block ?_;refine AW.skip ?_;try simp
    exact⟨⟨g,fl',bs',cl'⟩,⟨hM,ho,hg.inv⟩,by simp only;rw[hg.plus];omega,rfl⟩
   |false =>
    obtain⟨r1,r2,r3,X,x1,x2,hz,hsh⟩:=hF rfl;have:=hG.inv.first hsp ha (X:=X) (fun v hv hx e he=>hsh v hv hx (Decidable.em (v=a)) e he) x1 (fun v hv hx h=>hz v hv hx h h);omega
  ·(repeat refine AW.seq_k fun K hK=>?_);refine AW.rg ?_;simp[q1,q2,ha,q4,hlt];try (refine hK _ rfl ?_;clear hK K)
   (repeat refine AW.seq ?_);refine AW.no ?_ rfl;refine AW.exit ?_;try simp
   exact⟨⟨M,fl,bs,cl⟩,⟨hG,by simp only;omega⟩,rfl⟩
 rintro⟨M,fl,bs,cl⟩ ⟨hG,h2⟩;simp only at hG h2 ⊢;refine AW.seq_ex (ι:=GSt) (fun _=>[(0,.ptr bg 3 0 0),(1,.int .i64 (a:Nat)),(2,.int .i64 (b:Nat))]) (fun z=>z.M) (fun z=>Jf n bg bf bc es A z.M z.fl z.bs z.cl∧En z.fl a=2∧(En z.fl b=2∨En z.fl b=1∧∃X,Dv n (A.map (Ae es)) X∧X a=true∧X b=true)) ?_ ?_
 ·refine AW.block (AW.loopS (ι:=GSt) (fun _=>[(0,.ptr bg 3 0 0),(1,.int .i64 (a:Nat)),(2,.int .i64 (b:Nat))]) (fun z=>z.M) (fun z=>Jf n bg bf bc es A z.M z.fl z.bs z.cl∧En z.fl a=2) (fun z=>2-En z.fl b) ⟨M,fl,bs,cl⟩ ⟨hG,h2⟩ rfl (by simp) ?_);rintro⟨M,fl,bs,cl⟩ ⟨hG,h2⟩;simp only at hG h2 ⊢;have q1:=hG.mem.g;have q2:=hG.mem.f;have q4:=hG.mem.fll;have hbl:b<fl.length:=by rw[q4];exact hb
  have hx:=Fw hbl;have h3:=hG.inv.two b hb;have h4:=hG.inv.two a ha;unfold C6 at q1;by_cases hlt:fl[b]<2
  ·have hc:=Vo n bg bf bc es A hn hes hA M fl bs cl b a hG.mem hG.only hG.inv hb ha;(repeat refine AW.seq_k fun K hK=>?_);refine AW.rg ?_;simp[q1,q2,hb,q4,hlt];try (refine hK _ rfl ?_;clear hK K)
   refine Aa.whole (fun _ h=>h) hc ?_;rintro _ g ⟨ok,rfl,fl',bs',cl',hM,ho,hF,hT⟩;cases ok with
   |true =>
    have hg:=hT rfl;simp;try (refine hK _ rfl ?_;clear hK K)
    refine AW.yes ?_ rfl;refine AW.skip ?_;try simp
    try (refine hK _ rfl ?_;clear hK K)
    (repeat refine AW.seq ?_);refine AW.block ?_;refine AW.skip ?_;try simp
    exact⟨⟨g,fl',bs',cl'⟩,⟨⟨hM,ho,hg.inv⟩,by simp only;rw[hg.free a ha (by simp) hab];exact h2⟩,by simp only;rw[hg.plus];omega,rfl⟩
   |false =>
    obtain⟨r1,r2,r3,X,x1,x2,hz,hsh⟩:=hF rfl;subst r1;subst r2;subst r3;have hc0:Dm cl' a=[]:=List.eq_nil_of_length_eq_zero (by omega);obtain⟨k1,k2⟩:=hG.inv.second hsp ha hb hab h2 (X:=X) (fun v hv hx e he=>by
     by_cases e1:v=a
     ·subst e1;rw[hc0]at he;cases he
     ·exact hsh v hv hx (.inr e1) e he) x2 x1 (fun v hv hx h h'=>hz v hv hx h' h) (by omega)
    simp;try (refine hK _ rfl ?_;clear hK K)
    refine AW.no ?_ rfl;refine AW.exit ?_;try simp
    exact⟨⟨g,fl',bs',cl'⟩,⟨⟨hM,ho,hG.inv⟩,h2,.inr ⟨k1,X,k2,x2,x1⟩⟩,rfl⟩
  ·(repeat refine AW.seq_k fun K hK=>?_);refine AW.rg ?_;simp[q1,q2,hb,q4,hlt];try (refine hK _ rfl ?_;clear hK K)
   (repeat refine AW.seq ?_);refine AW.no ?_ rfl;refine AW.exit ?_;try simp
   exact⟨⟨M,fl,bs,cl⟩,⟨hG,h2,.inl (by simp only;omega)⟩,rfl⟩
 rintro⟨M,fl,bs,cl⟩ ⟨hG,h2,h3⟩;simp only at hG h2 h3 ⊢;have q1:=hG.mem.g;have q2:=hG.mem.f;have q4:=hG.mem.fll;have hal:a<fl.length:=by rw[q4];exact ha
 have hbl:b<fl.length:=by rw[q4];exact hb
 have hx:=Fw hal;have hy:=Fw hbl;unfold C6 at q1;have w1:IntKind.i64.wrap ((En fl a+En fl b:Nat):Int)=((En fl a+En fl b:Nat):Int):=wi (by rcases h3 with h3 | h3;omega;have:=h3.1;omega);(repeat refine AW.seq_k fun K hK=>?_);refine AW.rdL [bg,bf] [0,1,2,3,4,5,6,7,8,9,10,11,12,13,14,15] Ds (by simp[q1,q2]) ?_;simp[-Int.natCast_add,q1,q2,ha,hb,q4,hx,hy,w1];try (refine hK _ rfl ?_;clear hK K)
 exact AW.ret (B9 rfl (H3 hG.mem hG.only) ⟨fl,bs,cl,rfl,hG,h2,h3⟩)
end Go.Av
end
section
namespace Go.Lam
section
variable {n:Nat} {E:Nat→Ed} {A:List Nat} {fr:Nat→Nat} {cv:Nat→List Nat}
def Far (n:Nat) (E:Nat→Ed) (fr:Nat→Nat) (cv:Nat→List Nat) (S:Nat→Bool) (j:Nat):Prop:=∀X,X j=true→Qh0 n E cv X→∃w,w<n∧X w=true∧S w=false∧0<fr w
theorem Far.direct {S T:Nat→Bool} {j e:Nat} (hsub:∀v,S v=true→T v=true) (hj:j<n) (he:e∈cv j) (hk:Gl E e j<n) (hT:T (Gl E e j)=false) (hf:0<fr (Gl E e j)):Far n E fr cv S j:=fun X hX hs=>by
 refine⟨Gl E e j,hk,hs j hj hX e he,?_,hf⟩;cases h:S (Gl E e j)with
 |false=>rfl
 |true=>rw[hsub _ h]at hT;cases hT
theorem Far.through {S T:Nat→Bool} {j e:Nat} (hsub:∀v,S v=true→T v=true) (hj:j<n) (he:e∈cv j) (h:Far n E fr cv T (Gl E e j)):Far n E fr cv S j:=fun X hX hs=>by
 obtain⟨w,h1,h2,h3,h4⟩:=h X (hs j hj hX e he) hs;refine⟨w,h1,h2,?_,h4⟩;cases hc:S w with
 |false=>rfl
 |true=>rw[hsub _ hc]at h3;cases h3
theorem Qk1 (h:Inv n E A fr cv) {a b v:Nat} (ha:a<n) (hb:b<n) (hab:a≠b) (hv:v<n) (h3:3≤fr a+fr b) {S:Nat→Bool} (hSa:S a=true) (hSb:S b=true) (hF:Far n E fr cv S v) {X:Nat→Bool} (hX:Dv n (A.map E) X) (hXa:X a=true) (hXb:X b=true):X v=false:=by
 cases hXv:X v with
 |false=>rfl
 |true =>
  exfalso
  have e2:Vt n fr (Ez a b)≤Vt n fr X:=Qkb fun v _ hv=>by
   simp only[Ez,Bool.or_eq_true,beq_iff_eq]at hv;rcases hv with rfl | rfl<;>assumption
  rw[Oo ha hb hab]at e2;have hS:=h.shut (X:=X) (by have:=hX.2;omega);obtain⟨w,w1,w2,w3,w4⟩:=hF X hXv hS;have hwa:w≠a:=fun e=>by rw[e,hSa]at w3;cases w3
  have hwb:w≠b:=fun e=>by rw[e,hSb]at w3;cases w3
  have e3:Vt n fr (Ez a b)+Vt n fr (fun v=>v==w)≤Vt n fr X:=by
   unfold Vt;rw[←Ke];refine Wk fun v hv=>?_;by_cases h1:v=w
   ·subst h1;have:Ez a b v=false:=by simp[Ez,hwa,hwb]
    simp[this,w2]
   ·by_cases h2:Ez a b v=true
    ·have:X v=true:=by
      simp only[Ez,Bool.or_eq_true,beq_iff_eq]at h2;rcases h2 with rfl | rfl<;>assumption
     simp[h2,h1,this]
    ·simp[h1,h2]
  rw[Oo ha hb hab,Ty w1]at e3;have:=h.le X;have:=hX.2;omega
theorem Qhg (h:Inv n E A fr cv) (hs:Ba n (A.map E)) {a b v e:Nat} (ha:a<n) (hb:b<n) (hab:a≠b) (hv:v<n) (heA:e∈A) (he:(E e).1=a∧(E e).2=b) (h2:fr a=2) (h1:fr b=1) (hfv:fr v=0) {T:Nat→Bool}
  (hL:Ld n E fr cv (Fk (Fk (Fk (fun _=>false) a true) b true) v true) T) (hc:∀e∈cv v,T (Gl E e v)=true):Dv n (A.map E) T∧T a=true∧T b=true∧T v=true:=by
 have hS:∀w,Fk (Fk (Fk (fun _=>false) a true) b true) v true w=true↔w=v∨w=b∨w=a:=fun w=>by
  unfold Fk;by_cases h1:w=v
  ·simp[h1]
  ·by_cases h2:w=b
   ·simp[h2]
   ·by_cases h3:w=a<;>simp[h1,h2,h3]
 have hTa:=hL.sub a ((hS a).2 (.inr (.inr rfl)));have hTb:=hL.sub b ((hS b).2 (.inr (.inl rfl)));have hTv:=hL.sub v ((hS v).2 (.inl rfl));have hca:cv a=[]:=List.eq_nil_of_length_eq_zero (by have:=h.two a ha;omega);have hcb:∀x∈cv b,x=e:=by
  have hm:e∈(List.range n).flatMap cv:=h.perm.mem_iff.2 heA;obtain⟨u,hu,hu2⟩:=List.mem_flatMap.1 hm;have hun:=List.mem_range.1 hu;have hub:u=b:=by
   rcases h.ends u hun e hu2 with h3|h3
   ·rw[he.1]at h3;rw[←h3,hca]at hu2;cases hu2
   ·rw[he.2]at h3;exact h3.symm
  subst hub;have hl:=h.two u hb;intro x hx
  match hcu:cv u,hx,hu2 with
  |[y],hx,hu2=>simp at hx hu2;rw[hx,hu2]
  |[],hx,_=>cases hx
  |y::z::t,_,_=>rw[hcu]at hl;simp at hl;omega
 have hSh:Qh0 n E cv T:=fun u hu hTu x hx=>by
  by_cases hu2:Fk (Fk (Fk (fun _=>false) a true) b true) v true u=true
  ·rcases(hS u).1 hu2 with rfl|rfl|rfl
   ·exact hc x hx
   ·rw[hcb x hx];have:Gl E e u=a:=by unfold Gl;omega
    rw[this];exact hTa
   ·rw[hca]at hx;cases hx
  ·exact hL.shut u hu (by simpa using hu2) hTu x hx
 have:=h.second hs ha hb hab h2 hSh hTa hTb (fun u hu hTu hua hub=>by
  by_cases huv:u=v
  ·rw[huv];exact hfv
  ·refine hL.zero u hu ?_ hTu;cases hq:Fk (Fk (Fk (fun _=>false) a true) b true) v true u with
   |false=>rfl
   |true=>rcases(hS u).1 hq with h' | h' | h'<;>contradiction) (by omega)
 exact⟨this.2,hTa,hTb,hTv⟩
end
end Go.Lam
end
section
namespace Go.Av
open Go.Proofs Go.Lam
def Qs6 (bg bx c3 n:Nat):AV:=.fn 124 [.rptr [.ptr bg 3 0 0],.rptr [.osl bx 1 0 n],.ptr c3 1 0 0]
structure V3 (M:Ac) (n bg bf bc bx c3:Nat) (es:List RE) (fl:List Nat) (bs:List (Option Nat)) (cl:List (List Nat)) (sn:List Bool):Prop where
 game:Dp M n bg bf bc es fl bs cl
 seen:M bx=some ⟨4,1,bools sn⟩
 snl:sn.length=n
 cell:M c3=some ⟨100,1,[Qs6 bg bx c3 n]⟩
 off:∀k∈Bf bg bf bc bs,k≠bx∧k≠c3
 xc:bx≠c3
 only:Ft M (bx::c3::Bf bg bf bc bs)
section
variable {M:Ac} {n bg bf bc bx c3:Nat} {es:List RE} {fl:List Nat} {bs:List (Option Nat)} {cl:List (List Nat)} {sn:List Bool}
theorem V3.look (h:V3 M n bg bf bc bx c3 es fl bs cl sn) (i:Nat):V3 (M.set bx ⟨4,1,bools (sn.set i true)⟩) n bg bf bc bx c3 es fl bs cl (sn.set i true) where
 game:=h.game.congr fun k hk=>Ac.set_other _ _ (h.off k hk).1
 seen:=Ac.set_same _ _ _
 snl:=by rw[List.length_set,h.snl]
 cell:=by rw[Ac.set_other _ _ (Ne.symm h.xc)];exact h.cell
 off:=h.off
 xc:=h.xc
 only:=h.only.set _ (by simp)
theorem V3.ones (h:V3 M n bg bf bc bx c3 es fl bs cl sn):∀c y,M c=some y→∀v∈y.l,v.cells.all AV.one=true:=by
 intro c y hy v hv;have hc:=h.only c (by rw[hy];simp);simp only[List.mem_cons]at hc;rcases hc with rfl | rfl | hc
 ·rw[h.seen]at hy;cases hy;exact Mj _ v hv
 ·rw[h.cell]at hy;cases hy;simp only[List.mem_singleton]at hv;subst hv;rfl
 ·rcases Bi.1 hc with rfl|rfl|rfl|⟨i,hi⟩
  ·rw[h.game.g]at hy;cases hy;simp only[C6,List.mem_singleton]at hv;subst hv;rfl
  ·rw[h.game.f]at hy;cases hy;exact C3 _ v hv
  ·rw[h.game.c]at hy;cases hy;exact J3 _ _ v hv
  ·rw[h.game.row i c hi]at hy;cases hy;exact C3 _ v hv
end
def Q0w (n bg bf bc bx c3:Nat) (es:List RE) (fl:List Nat) (bs:List (Option Nat)) (cl:List (List Nat)) (sn:List Bool) (j:Nat) (v:AV) (M':Ac):Prop :=
 ∃ok:Bool,v=.bool ok∧∃(sn':List Bool),V3 M' n bg bf bc bx c3 es fl bs cl sn' ∧
  (ok=false→Ld n (Ae es) (En fl) (Dm cl) (Fy sn) (Fy sn')∧∀e∈Dm cl j,Fy sn' (Gl (Ae es) e j)=true) ∧
  (ok=true→Far n (Ae es) (En fl) (Dm cl) (Fy sn) j)
theorem Qdw (n bg bf bc bx c3:Nat) (es:List RE) (A:List Nat) (hn:n≤12) (hes:Li n es) (hA:∀e∈A,e<es.length) (fl:List Nat) (bs:List (Option Nat)) (cl:List (List Nat)) (hI:Inv n (Ae es) A (En fl) (Dm cl)) :
  ∀(fuel:Nat) (M:Ac) (sn:List Bool) (j:Nat),Gc sn≤fuel→V3 M n bg bf bc bx c3 es fl bs cl sn→j<n →
   Aj Tryz.prog 124 [.int .i64 (j:Nat),.rptr [.ptr bg 3 0 0],.rptr [.osl bx 1 0 n],.ptr c3 1 0 0] M (Q0w n bg bf bc bx c3 es fl bs cl sn j):=by
 have hes12:Li 12 es:=fun i hi=>⟨(hes i hi).1,(hes i hi).2.1,by have:=(hes i hi).2.2;exact⟨by have:=this.1;omega,by have:=this.2.1;omega,this.2.2⟩⟩;intro fuel
 induction fuel using Nat.strongRecOn with
 |ind fuel IH =>
 intro M sn j hu hV hj;refine Ad Tryz.func124 rfl rfl 46 rfl (Nat.le_of_ble_eq_true rfl) ?_;(repeat refine AW.seq_k fun K hK=>?_);refine AW.rg ?_;simp[Ak];try (refine hK _ rfl ?_;clear hK K)
 have m1:=hV.game.g;have m3:=hV.game.c;have hhl:=G9 hV.game;obtain⟨o,ho,hget⟩:=L6 hV.game hj;unfold C6 at m1;have hjh:j<(Hj bs cl).length:=by rw[hhl];exact hj
 have hgel:(Hj bs cl)[j]=hdO o (Dm cl j):=by rw[List.getElem?_eq_getElem hjh]at hget;exact Option.some.inj hget
 cases o with
 |none =>
  have hc0:=hV.game.nil j ho;simp only[hdO]at hgel;have hone:=hV.ones;refine AW.seq_ex (ι:=Unit) (fun _=>[]) (fun _=>M) (fun _=>True) ?_ ?_
  ·(repeat refine AW.seq_k fun K hK=>?_);refine AW.rg ?_;simp[m1,m3,hj,hhl,hgel];try (refine hK _ rfl ?_;clear hK K)
   refine AW.block (AW.loopS (ι:=Unit) (fun _=>[(16,.int .i64 0),(17,.int .i64 0)]) (fun _=>M) (fun _=>True) (fun _=>0) () trivial rfl (by simp) ?_);intro _ _;(repeat refine AW.seq_k fun K hK=>?_);refine AW.rg ?_;simp;try (refine hK _ rfl ?_;clear hK K)
   (repeat refine AW.seq ?_);refine AW.no ?_ rfl;refine AW.exit ?_;try simp
  ·rintro _ _;(repeat refine AW.seq_k fun K hK=>?_);refine AW.rg ?_;simp;try (refine hK _ rfl ?_;clear hK K)
   exact AW.ret (B9 rfl hone ⟨false,rfl,sn,hV,fun _=>⟨Ld.refl _,fun e he=>by rw[hc0]at he;cases he⟩,fun h=>by cases h⟩)
 |some b =>
  simp only[hdO]at hgel;have hrow:=hV.game.row j b ho;have hlen2:(Dm cl j).length≤2:=by have:=hI.two j hj;omega
  refine AW.seq_ex (ι:=Ac × List Bool) (fun _=>[]) (fun z=>z.1) (fun z=>V3 z.1 n bg bf bc bx c3 es fl bs cl z.2∧Ld n (Ae es) (En fl) (Dm cl) (Fy sn) (Fy z.2)∧∀e∈Dm cl j,Fy z.2 (Gl (Ae es) e j)=true) ?_ ?_
  ·(repeat refine AW.seq_k fun K hK=>?_);refine AW.rg ?_;simp[m1,m3,hj,hhl,hgel];try (refine hK _ rfl ?_;clear hK K)
   refine AW.block (AW.loopS (ι:=Ac × List Bool × Nat) (fun z=>[(0,.int .i64 (j:Nat)),(1,.rptr [.ptr bg 3 0 0]),(2,.rptr [.osl bx 1 0 n]),(3,.ptr c3 1 0 0),(15,.osl b 1 0 (Dm cl j).length),(16,.int .i64 ((Dm cl j).length:Nat)),(17,.int .i64 (z.2.2:Nat))]) (fun z=>z.1)
    (fun z=>z.2.2≤(Dm cl j).length∧V3 z.1 n bg bf bc bx c3 es fl bs cl z.2.1∧Ld n (Ae es) (En fl) (Dm cl) (Fy sn) (Fy z.2.1)∧∀e∈(Dm cl j).take z.2.2,Fy z.2.1 (Gl (Ae es) e j)=true)
    (fun z=>(Dm cl j).length-z.2.2) (M,sn,0) ⟨by simp,hV,Ld.refl _,by simp⟩ rfl (by simp) ?_)
   rintro⟨M1,s1,i⟩ ⟨g1,g2,g3,g4⟩;simp only at g1 g2 g3 g4;(repeat refine AW.seq_k fun K hK=>?_);refine AW.rg ?_;simp;try (refine hK _ rfl ?_;clear hK K)
   (repeat refine AW.seq ?_);refine AW.cs (fun hi=>?_) (fun hi=>?_) rfl<;>(try simp at hi)
   ·refine AW.skip ?_;try simp
    try (refine hK _ rfl ?_;clear hK K)
    have w1:=Ap (i+1) (by omega);have r1:=g2.game.row j b ho;have r2:=g2.seen;have hsl:=g2.snl;obtain⟨e,he⟩:∃e,(Dm cl j)[i]=e:=⟨_,rfl⟩;have heM:e∈Dm cl j:=he ▸ List.getElem_mem hi;have hel:e<es.length:=hA e (hI.mem hj heM);have hend:=hI.ends j hj e heM;obtain⟨hn1,hn2⟩:=hI.oth_lt hj heM;have htk:=Jw hi he;(repeat refine AW.seq ?_);refine AW.block ?_;(repeat refine AW.seq_k fun K hK=>?_);refine AW.rg ?_;simp[r1,hi,he];try (refine hK _ rfl ?_;clear hK K)
    (repeat refine AW.seq_k fun K hK=>?_);refine AW.rg ?_;simp;try (refine hK _ rfl ?_;clear hK K)
    refine Aa.grant bg (C6 es bf bc n) g2.game.g (fun h=>h) (Vc bg bf bc n es e j hel hes12 (by rcases hend with h | h;exact .inl h.symm;exact .inr h.symm)) ?_;rintro _ _ ⟨rfl,rfl⟩;rw[set_self g2.game.g];simp;try (refine hK _ rfl ?_;clear hK K)
    obtain⟨n1,hn⟩:∃n1,Gl (Ae es) e j=n1:=⟨_,rfl⟩;rw[hn]at hn1 hn2;simp only[hn];have hs1:n1<s1.length:=by rw[hsl];exact hn1
    cases hseen:s1[n1]with
    |true =>
     (repeat refine AW.seq_k fun K hK=>?_);refine AW.rg ?_;simp[r2,hn1,hsl,hseen];try (refine hK _ rfl ?_;clear hK K)
     refine AW.yes ?_ rfl;refine AW.exit ?_;try simp
     (repeat refine AW.seq_k fun K hK=>?_);refine AW.rg ?_;simp[-Int.natCast_add,w1];try (refine hK _ rfl ?_;clear hK K)
     refine⟨M1,s1,i+1,⟨by omega,g2,g3,fun x hx=>?_⟩,by omega,rfl,rfl⟩;rw[htk]at hx;rcases List.mem_append.1 hx with hx | hx
     ·exact g4 x hx
     ·simp only[List.mem_singleton]at hx;subst hx;rw[hn,Ta hs1,hseen]
    |false =>
     have hS1:Fy s1 n1=false:=by rw[Ta hs1,hseen]
     (repeat refine AW.seq_k fun K hK=>?_);refine AW.rg ?_;simp[r2,hn1,hsl,hseen];try (refine hK _ rfl ?_;clear hK K)
     refine AW.no ?_ rfl;refine AW.skip ?_;try simp
     try (refine hK _ rfl ?_;clear hK K)
     (repeat refine AW.seq_k fun K hK=>?_);refine AW.rg ?_;simp[r2,hn1,hsl];try (refine hK _ rfl ?_;clear hK K)
     rw[F6];have V2:=g2.look n1;have hsn2:Fy (s1.set n1 true)=Fk (Fy s1) n1 true:=Kn hs1;have hu2:=U2 hs1 hseen;generalize M1.set bx ⟨4,1,bools (s1.set n1 true)⟩=M2 at V2 ⊢;have q1:=V2.game.g;have q2:=V2.game.f;have q3:=V2.cell;have q4:=V2.game.fll;have hf1:n1<fl.length:=by rw[q4];exact hn1
     unfold C6 at q1;unfold Qs6 at q3;have hsub2:∀v,Fy sn v=true→Fy (s1.set n1 true) v=true:=fun v hv=>by
      rw[hsn2];unfold Fk;split;rfl;exact g3.sub v hv
     by_cases hz:fl[n1]=0
     ·have ih:=IH (Gc (s1.set n1 true)) (by have h1:=hu2;have h2:=Ww g3 hV.snl g2.snl;omega) _ (s1.set n1 true) n1 (Nat.le_refl _) V2 hn1;(repeat refine AW.seq_k fun K hK=>?_);refine AW.rg ?_;simp[q1,q2,q3,hn1,q4,hz];try (refine hK _ rfl ?_;clear hK K)
      refine⟨124,_,⟨rfl,rfl⟩,?_⟩;refine Aa.whole (fun _ h=>h) ih ?_;rintro _ g ⟨ok,rfl,sn',hV',hF,hT⟩;cases ok with
      |false =>
       obtain⟨hL,hsh⟩:=hF rfl;simp;try (refine hK _ rfl ?_;clear hK K)
       refine AW.no ?_ rfl;refine AW.skip ?_;try simp
       try (refine hK _ rfl ?_;clear hK K)
       (repeat refine AW.seq_k fun K hK=>?_);refine AW.rg ?_;simp[-Int.natCast_add,w1];try (refine hK _ rfl ?_;clear hK K)
       refine⟨g,sn',i+1,⟨by omega,hV',?_,fun x hx=>?_⟩,by omega,rfl,rfl⟩
       ·rw[hsn2]at hL;exact g3.step (by rw[←Fw hf1];exact hz) hL hsh
       ·rw[htk]at hx;have hm:∀v,Fy s1 v=true→Fy sn' v=true:=fun v hv=>hL.sub v (by rw[hsn2];unfold Fk;split;rfl;exact hv);rcases List.mem_append.1 hx with hx | hx
        ·exact hm _ (g4 x hx)
        ·simp only[List.mem_singleton]at hx;subst hx;rw[hn];exact hL.sub n1 (by rw[hsn2,Ek])
      |true =>
       have hG:=hT rfl;simp;try (refine hK _ rfl ?_;clear hK K)
       refine AW.yes ?_ rfl;(repeat refine AW.seq_k fun K hK=>?_);refine AW.rg ?_;simp;try (refine hK _ rfl ?_;clear hK K)
       exact AW.ret (B9 rfl hV'.ones ⟨true,rfl,sn',hV',fun h=>(by cases h),fun _=>Far.through hsub2 hj heM (by rw[hn];exact hG)⟩)
     ·have hpos:0<En fl n1:=by rw[←Fw hf1];omega
      have hpz:0<fl[n1]:=by omega
      (repeat refine AW.seq_k fun K hK=>?_);refine AW.rg ?_;simp[q1,q2,q3,hn1,q4,hpz];try (refine hK _ rfl ?_;clear hK K)
      refine AW.yes ?_ rfl;(repeat refine AW.seq_k fun K hK=>?_);refine AW.rg ?_;simp;try (refine hK _ rfl ?_;clear hK K)
      exact AW.ret (B9 rfl V2.ones ⟨true,rfl,_,V2,fun h=>(by cases h),fun _=>Far.direct (fun v hv=>g3.sub v hv) hj heM (by rw[hn];exact hn1) (by rw[hn];exact hS1) (by rw[hn];exact hpos)⟩)
   ·refine AW.exit ?_;try simp
    have hil:i=(Dm cl j).length:=by omega
    exact⟨s1,g2,g3,fun e he=>g4 e (by rw[hil,List.take_length];exact he)⟩
  ·rintro⟨M1,s1⟩ ⟨g1,g2,g3⟩;simp only at g1 g2 g3;(repeat refine AW.seq_k fun K hK=>?_);refine AW.rg ?_;simp;try (refine hK _ rfl ?_;clear hK K)
   exact AW.ret (B9 rfl g1.ones ⟨false,rfl,s1,g1,fun _=>⟨g2,g3⟩,fun h=>by cases h⟩)
end Go.Av
end
section
namespace Go.Av
open Go.Proofs Go.Lam
def Q0v (n bg bf bc:Nat) (es:List RE) (A:List Nat) (e0 x:Nat) (v:AV) (M':Ac):Prop :=
 v=.bool (Hm n (A.map (Ae es)) (Ae es e0) x)∧∃(fl':List Nat) (bs':List (Option Nat)) (cl':List (List Nat)),Jf n bg bf bc es A M' fl' bs' cl'
theorem Qda (n bg bf bc:Nat) (es:List RE) (A:List Nat) (hn:n≤12) (hes:Li n es) (hA:∀e∈A,e<es.length) (hsp:Ba n (A.map (Ae es))) (M:Ac) (fl:List Nat) (bs:List (Option Nat)) (cl:List (List Nat)) (e0 x:Nat)
  (hG:Jf n bg bf bc es A M fl bs cl) (he0:e0∈A) (hx:x<n) (hxa:x≠(Ae es e0).1) (hxb:x≠(Ae es e0).2) :
  Aj Tryz.prog 90 [.ptr bg 3 0 0,.int .i64 ((Ae es e0).1:Nat),.int .i64 ((Ae es e0).2:Nat),.int .i64 (x:Nat)] M (Q0v n bg bf bc es A e0 x):=by
 have hL:∀e∈A.map (Ae es),C0 n e:=fun e he=>by
  obtain⟨k,hk,rfl⟩:=List.mem_map.1 he;exact(hes k (hA k hk)).2.2
 have hok:C0 n (Ae es e0):=hL _ (List.mem_map.2 ⟨e0,he0,rfl⟩);have hT0:=Ip hL hsp (List.mem_map.2 ⟨e0,he0,rfl⟩);have hW:=Jv hL hx hok;have hins:∀X:Nat→Bool,ins X (Ae es e0)=true↔X (Ae es e0).1=true∧X (Ae es e0).2=true:=fun X=>by unfold ins;simp
 simp only[hins]at hW;generalize hw:Hm n (A.map (Ae es)) (Ae es e0) x=W at hW;obtain⟨ha,hb,hab⟩:=hok;obtain⟨a,ea⟩:∃a,(Ae es e0).1=a:=⟨_,rfl⟩;obtain⟨b,eb⟩:∃b,(Ae es e0).2=b:=⟨_,rfl⟩;rw[ea,eb]at hT0 hW;rw[ea]at ha hab hxa ⊢;rw[eb]at hb hab hxb ⊢;have hgc:=Rx n bg bf bc es A hn hes hA hsp M fl bs cl a b hG ha hb hab;refine Ad Tryz.func90 rfl rfl 43 rfl (Nat.le_of_ble_eq_true rfl) ?_;(repeat refine AW.seq_k fun K hK=>?_);refine AW.rgR [4] ?_;simp[Ak];try (refine hK _ rfl ?_;clear hK K)
 (repeat refine AW.seq_k fun K hK=>?_);refine AW.rg ?_;simp;try (refine hK _ rfl ?_;clear hK K)
 refine Aa.whole (fun _ h=>h) hgc ?_;rintro _ g ⟨fl1,bs1,cl1,rfl,hG1,f1,f2⟩;have f3:En fl1 b=1:=by
  rcases f2 with f2|f2
  ·exact absurd hT0 (hG1.inv.four ha hb hab (by omega) _ (by simp[Ez]) (by simp[Ez]))
  ·exact f2.1
 clear f2;simp[-Int.natCast_add];try (refine hK _ rfl ?_;clear hK K)
 clear hG hgc;have q1:=hG1.mem.g;have q2:=hG1.mem.f;have q4:=hG1.mem.fll;have hone:=H3 hG1.mem hG1.only;have hxl:x<fl1.length:=by rw[q4];exact hx
 have hfx:=Fw hxl;unfold C6 at q1;have hno:∀S:Nat→Bool,S a=true→S b=true→Far n (Ae es) (En fl1) (Dm cl1) S x→W=false:=fun S h1 h2 h3=>by
  cases hc:W with
  |false=>rfl
  |true =>
   obtain⟨X,x1,x2,x3⟩:=hW.1 hc;rw[Qk1 hG1.inv ha hb hab hx (by omega) h1 h2 h3 x1 x2.1 x2.2]at x3;cases x3
 by_cases hz:0<fl1[x]
 ·have hWf:W=false:=hno (Ez a b) (by simp[Ez]) (by simp[Ez]) (fun X hX _=>⟨x,hx,hX,by simp[Ez,hxa,hxb],by omega⟩);(repeat refine AW.seq_k fun K hK=>?_);refine AW.rg ?_;simp[-Int.natCast_add,q1,q2,hx,q4,hz];try (refine hK _ rfl ?_;clear hK K)
  refine AW.yes ?_ rfl;(repeat refine AW.seq_k fun K hK=>?_);refine AW.rg ?_;simp[-Int.natCast_add];try (refine hK _ rfl ?_;clear hK K)
  exact AW.ret (B9 rfl hone ⟨by rw[hw,hWf];rfl,fl1,bs1,cl1,hG1⟩)
 have hz0:fl1[x]=0:=by omega
 (repeat refine AW.seq_k fun K hK=>?_);refine AW.rg ?_;simp[-Int.natCast_add,q1,q2,hx,q4,hz0];try (refine hK _ rfl ?_;clear hK K)
 refine AW.no ?_ rfl;refine AW.skip ?_;try simp[-Int.natCast_add]
 try (refine hK _ rfl ?_;clear hK K)
 (repeat refine AW.seq_k fun K hK=>?_);refine AW.rg ?_;simp[-Int.natCast_add,q1,q4];try (refine hK _ rfl ?_;clear hK K)
 refine⟨by omega,Af.intro fun bx hbx=>Af.intro fun c2 h2=>?_⟩;simp only[An]at h2;refine hK _ rfl ?_;clear hK K;have hrep:List.replicate n (AV.bool false)=bools (List.replicate n false):=by simp[bools]
 rw[hrep];have ones1:∀c y,g.set bx ⟨4,1,bools (List.replicate n false)⟩ c=some y→∀v∈y.l,v.cells.all AV.one=true:=by
  intro c y hy v hv;by_cases e:c=bx
  ·rw[e,Ac.set_same]at hy;cases hy;exact Mj _ v hv
  ·rw[Ac.set_other _ _ e]at hy;exact hone c y hy v hv
 have hc2:g.set bx ⟨4,1,bools (List.replicate n false)⟩ c2=none:=by rw[Ac.set_other _ _ h2.1.1];exact h2.2
 refine AW.turn [(1,.int .i64 (a:Nat)),(2,.int .i64 (b:Nat)),(3,.int .i64 (x:Nat)),(4,.rptr [.ptr bg 3 0 0]),(8,.bool false),(9,.rptr [.osl bx 1 0 n])] (g.set bx ⟨4,1,bools (List.replicate n false)⟩) (Bn.drop hc2 ones1)
  (by simp[-Int.natCast_add];exact .ptr c2 1 0 0 ⟨137,1,[.osl bx 1 0 n]⟩ (.osl bx 1 0 n) (Ac.set_same _ _ _) hc2 rfl rfl) ?_
 have hl0:(bools (List.replicate n false)).length=n:=by simp
 (repeat refine AW.seq_k fun K hK=>?_);refine AW.rdT [] [9] [] [] [0,1,2,3,4,5,6,7,8,9,10,11] Ds (by simp[ha,hb,hx,hl0]) (by simp[ha,hb,hx,hl0]) (by simp[ha,hb,hx,hl0]) (by simp[ha,hb,hx,hl0]) (by simp[ha,hb,hx,hl0]) ?_;simp[ha,hb,hx,hl0];try (refine hK _ rfl ?_;clear hK K)
 rw[F6,F6,F6];have hsl:((((List.replicate n false).set a true).set b true).set x true).length=n:=by simp
 have hS:Fy ((((List.replicate n false).set a true).set b true).set x true)=Fk (Fk (Fk (fun _=>false) a true) b true) x true:=by
  rw[Kn (by simp;exact hx),Kn (by simp;exact hb),Kn (by simp;exact ha)]
  congr 3
  funext v
  unfold Fy;rw[List.getD_eq_getElem?_getD,List.getElem?_replicate];split<;>rfl
 generalize(((List.replicate n false).set a true).set b true).set x true=sn at hsl hS ⊢;(repeat refine AW.seq_k fun K hK=>?_);refine AW.rg ?_;simp;try (refine hK _ rfl ?_;clear hK K)
 refine⟨rfl,by simp[AV.cells,AV.one],Af.intro fun c3 h3=>?_⟩;simp only[An]at h3;refine hK _ rfl ?_;clear hK K;(repeat refine AW.seq_k fun K hK=>?_);refine AW.rg ?_;simp;try (refine hK _ rfl ?_;clear hK K)
 have hnx:∀k∈Bf bg bf bc bs1,k≠bx∧k≠c3:=fun k hk=>⟨fun e=>hG1.mem.dom hk (by rw[e];exact hbx),fun e=>hG1.mem.dom hk (by rw[e];exact h3.2)⟩;have hV:V3 ((g.set bx ⟨4,1,bools sn⟩).set c3 ⟨100,1,[.fn 124 [.rptr [.ptr bg 3 0 0],.rptr [.osl bx 1 0 n],.ptr c3 1 0 0]]⟩) n bg bf bc bx c3 es fl1 bs1 cl1 sn :=
  {game:=hG1.mem.congr fun k hk=>by rw[Ac.set_other _ _ (hnx k hk).2,Ac.set_other _ _ (hnx k hk).1]
   seen:=by rw[Ac.set_other _ _ h3.1.2,Ac.set_same]
   snl:=hsl
   cell:=Ac.set_same _ _ _
   off:=hnx
   xc:=h3.1.2
   only:=fun k hk=>by
    simp only[List.mem_cons];by_cases e1:k=c3
    ·exact .inr (.inl e1)
    ·by_cases e2:k=bx
     ·exact .inl e2
     ·rw[Ac.set_other _ _ e1,Ac.set_other _ _ e2]at hk;exact .inr (.inr (hG1.only k hk))}
 have hc3:=hV.cell;unfold Qs6 at hc3;have ih:=Qdw n bg bf bc bx c3 es A hn hes hA fl1 bs1 cl1 hG1.inv (Gc sn) _ sn x (Nat.le_refl _) hV hx;generalize(g.set bx ⟨4,1,bools sn⟩).set c3 ⟨100,1,[.fn 124 [.rptr [.ptr bg 3 0 0],.rptr [.osl bx 1 0 n],.ptr c3 1 0 0]]⟩=M2 at hV hc3 ih ⊢;(repeat refine AW.seq_k fun K hK=>?_);refine AW.rg ?_;simp[hc3];try (refine hK _ rfl ?_;clear hK K)
 refine⟨124,_,⟨rfl,rfl⟩,?_⟩;refine Aa.whole (fun _ h=>h) ih ?_;rintro _ g' ⟨ok,rfl,sn',hV',hF,hT⟩;simp;try (refine hK _ rfl ?_;clear hK K)
 have hrec:Bn g' (g'.only (Bf bg bf bc bs1)):=Bn.sub fun b x hb=>by
  by_cases hm:b∈Bf bg bf bc bs1
  ·rw[B8 hm]at hb;exact⟨hb,hV'.ones b x hb⟩
  ·rw[B1 hm]at hb;cases hb
 have hres:(!ok)=W:=by
  cases ok with
  |true =>
   have:=hT rfl;rw[hS]at this;rw[hno _ ?_ ?_ this];rfl
   ·unfold Fk;simp[Ne.symm hxa,hab]
   ·unfold Fk;simp[Ne.symm hxb]
  |false =>
   obtain⟨hL',hsh⟩:=hF rfl;rw[hS]at hL';have:=Qhg hG1.inv hsp ha hb hab hx he0 ⟨ea,eb⟩ f1 f3 (by rw[←hfx];exact hz0) hL' hsh;exact(hW.2 ⟨_,this.1,⟨this.2.1,this.2.2.1⟩,this.2.2.2⟩).symm
 refine AW.ret ⟨[.bool (!ok)],rfl,.bool (!ok),_,hrec,.same _,by rw[hw,hres],fl1,bs1,cl1,hV'.game.congr fun k hk=>B8 hk,fun k hk=>?_,hG1.inv⟩;rcases Decidable.em (k∈Bf bg bf bc bs1)with hm | hm
 ·exact hm
 ·exact absurd (B1 hm) hk
end Go.Av
end
section
namespace Go.Av
open Go.Proofs Go.Lam
section
variable {M:Ac} {n bg bf bc:Nat} {es:List RE} {fl:List Nat} {bs:List (Option Nat)} {cl:List (List Nat)}
theorem Xg (h:Dp M n bg bf bc es fl bs cl) (ho:Ft M (Bf bg bf bc bs)) {i b':Nat} {l':List Nat} (hi:i<n) (hf:b' ∉ Bf bg bf bc bs∨bs[i]?=some (some b')) {M':Ac}
  (h3:M' bc=some ⟨25,1,(Hj bs cl).set i (.osl b' 1 0 l'.length)⟩) (h4:M' b'=some ⟨3,1,Ar l'⟩) (h5:∀k∈Bf bg bf bc bs,k≠b'→k≠bc→bs[i]?≠some (some k)→M' k=M k)
  (h6:∀k,M' k≠none→k=b'∨k∈Bf bg bf bc bs∧(bs[i]?=some (some k)→k=b')):Dp M' n bg bf bc es fl (bs.set i (some b')) (cl.set i l')∧Ft M' (Bf bg bf bc (bs.set i (some b'))):=by
 have hib:i<bs.length:=by rw[h.bsl];exact hi
 have hb':b'≠bg∧b'≠bf∧b'≠bc:=by
  rcases hf with hf|hf
  ·simp only[Bf,List.mem_cons,not_or]at hf;exact⟨hf.1,hf.2.1,hf.2.2.1⟩
  ·exact h.ndr i b' hf
 have hrow:∀j,j≠i→bs[j]?≠some (some b'):=fun j hj e=>by
  rcases hf with hf|hf
  ·exact hf (Bi.2 (.inr (.inr (.inr ⟨j,e⟩))))
  ·exact hj (h.inj j i b' e hf)
 refine⟨h.setC hi hb' hrow ?_ ?_ h3 h4 ?_,?_⟩
 ·exact h5 bg (by simp[Bf]) (Ne.symm hb'.1) h.nd.2.1 fun e=>(h.ndr i bg e).1 rfl
 ·exact h5 bf (by simp[Bf]) (Ne.symm hb'.2.1) h.nd.2.2 fun e=>(h.ndr i bf e).2.1 rfl
 ·intro j b hj hb;exact h5 b (Bi.2 (.inr (.inr (.inr ⟨j,hb⟩)))) (fun e=>hrow j hj (e ▸ hb)) (h.ndr j b hb).2.2 (fun e=>hj (h.inj j i b hb e))
 ·intro k hk;rcases h6 k hk with rfl | ⟨hk,hk2⟩
  ·exact Bi.2 (.inr (.inr (.inr ⟨i,by rw[List.getElem?_set,if_pos rfl,if_pos hib]⟩)))
  ·refine Bi.2 ?_;rcases Bi.1 hk with hk | hk | hk | ⟨j,hj⟩
   ·exact .inl hk
   ·exact .inr (.inl hk)
   ·exact .inr (.inr (.inl hk))
   ·by_cases hij:i=j
    ·subst hij;rw[hk2 hj];exact .inr (.inr (.inr ⟨i,by rw[List.getElem?_set,if_pos rfl,if_pos hib]⟩))
    ·exact .inr (.inr (.inr ⟨j,by rw[List.getElem?_set,if_neg hij];exact hj⟩))
end
def Qxv (n bg bf bc:Nat) (es:List RE) (A:List Nat) (e:Nat) (v:AV) (M':Ac):Prop :=
 v=.bool (Ni n ((A++[e]).map (Ae es)))∧∃(fl':List Nat) (bs':List (Option Nat)) (cl':List (List Nat)),Jf n bg bf bc es (Ib n (Ae es) A e) M' fl' bs' cl'
theorem Qbp (n bg bf bc:Nat) (es:List RE) (A:List Nat) (hn:n≤12) (hes:Li n es) (hA:∀e∈A,e<es.length) (hsp:Ba n (A.map (Ae es))) (M:Ac) (fl:List Nat) (bs:List (Option Nat)) (cl:List (List Nat)) (e:Nat) (he:e<es.length)
  (hG:Jf n bg bf bc es A M fl bs cl) :
  Aj Tryz.prog 82 [.ptr bg 3 0 0,.int .i64 (e:Nat)] M (Qxv n bg bf bc es A e):=by
 obtain⟨e1,e2,e3⟩:=hes e he;have hLe:∀x∈(A++[e]).map (Ae es),C0 n x:=by
  simp only[List.mem_map,List.mem_append,List.mem_singleton];rintro _ ⟨k,hk | rfl,rfl⟩
  ·exact(hes k (hA k hk)).2.2
  ·exact e3
 have hmap:(A++[e]).map (Ae es)=A.map (Ae es)++[Ae es e]:=by simp
 have q1:=hG.mem.g;unfold C6 at q1;refine Ad Tryz.func82 rfl rfl 53 rfl (Nat.le_of_ble_eq_true rfl) ?_;(repeat refine AW.seq_k fun K hK=>?_);refine AW.rg ?_;simp[Ak];try (refine hK _ rfl ?_;clear hK K)
 (repeat refine AW.seq_k fun K hK=>?_);refine AW.rdL [bg] [0,1,2,3,4,5,6,7,8,9,10,11,12,13,14,15,16,17] Ds (by simp[q1]) ?_;simp[q1,he,Ck,e1,e2];try (refine hK _ rfl ?_;clear hK K)
 have hgc:=Rx n bg bf bc es A hn hes hA hsp M fl bs cl (Ae es e).1 (Ae es e).2 hG e3.1 e3.2.1 e3.2.2;obtain⟨a,ha⟩:∃a,(Ae es e).1=a:=⟨_,rfl⟩;obtain⟨b,hb⟩:∃b,(Ae es e).2=b:=⟨_,rfl⟩;rw[ha,hb]at hgc;simp only[ha,hb];have hE:Ae es e=(a,b):=by rw[←ha,←hb]
 have han:a<n:=ha ▸ e3.1;have hbn:b<n:=hb ▸ e3.2.1;have hab:a≠b:=by rw[←ha,←hb];exact e3.2.2
 (repeat refine AW.seq_k fun K hK=>?_);refine AW.rg ?_;simp;try (refine hK _ rfl ?_;clear hK K)
 refine Aa.whole (fun _ h=>h) hgc ?_;rintro _ g ⟨fl',bs',cl',rfl,hG',h2,h3⟩;rcases h3 with h3 | ⟨h3,X,hX,hXa,hXb⟩
 ·have hf:Ni n ((A++[e]).map (Ae es))=true:=by
   rw[G1 hLe,hmap,Ns hsp];intro X hX;cases hi:ins X (Ae es e)with
   |false=>rfl
   |true =>
    rw[hE,ins,Bool.and_eq_true]at hi;exact absurd hX (hG'.inv.four han hbn hab (by omega) X hi.1 hi.2)
  have hadd:Ib n (Ae es) A e=A++[e]:=by unfold Ib;rw[if_pos hf]
  rw[h2,h3];simp;try (refine hK _ rfl ?_;clear hK K)
  refine AW.no ?_ rfl;refine AW.skip ?_;try simp
  try (refine hK _ rfl ?_;clear hK K)
  have p1:=hG'.mem.g;have p2:=hG'.mem.f;have p4:=hG'.mem.fll;have hal:a<fl'.length:=by rw[p4];exact han
  have hx:fl'[a]=2:=by rw[Fw hal];exact h2
  have w2:IntKind.i64.wrap 1=1:=rfl;unfold C6 at p1;(repeat refine AW.seq_k fun K hK=>?_);refine AW.rg ?_;simp[p1,p2,han,p4,hx,w2];try (refine hK _ rfl ?_;clear hK K)
  rw[show(AV.int IntKind.i64 1)=.int .i64 ((1:Nat):Int) from rfl,Jx];have V4:=hG'.mem.setF a 1;have o4':Ft (g.set bf ⟨3,1,Ar (fl'.set a 1)⟩) (Bf bg bf bc bs'):=hG'.only.set _ (by simp[Bf]);generalize g.set bf ⟨3,1,Ar (fl'.set a 1)⟩=M4 at V4 o4' ⊢;have hinv:∀(M:Ac) (bs'':List (Option Nat)),Dp M n bg bf bc es (fl'.set a 1) bs'' (cl'.set a (Dm cl' a++[e]))∧Ft M (Bf bg bf bc bs'')→Qxv n bg bf bc es A e (.bool true) M:=fun M bs'' h=>⟨by rw[hf],_,bs'',_,by
   rw[hadd];refine⟨h.1,h.2,?_⟩;rw[Yf hal,O9 (by rw[hG'.mem.cll];exact han)];have:=hG'.inv.lay (a:=a) (e:=e) ha e3 (by omega);rw[h2]at this;exact this⟩
  have q5:=V4.g;have q6:=V4.c;have hhl4:=G9 V4;obtain⟨o4,ho4,hget4⟩:=L6 V4 han;have hjh4:a<(Hj bs' cl').length:=by rw[hhl4];exact han
  have hgel4:(Hj bs' cl')[a]=hdO o4 (Dm cl' a):=by rw[List.getElem?_eq_getElem hjh4]at hget4;exact Option.some.inj hget4
  have nd:=V4.nd;have hbcn:bc≠bg:=Ne.symm nd.2.1;unfold C6 at q5;have hl3:(Dm cl' a).length≤2:=by have:=hG'.inv.two a han;omega
  refine AW.seq_ex (ι:=Ac × List (Option Nat)) (fun _=>[]) (fun z=>z.1) (fun z=>Dp z.1 n bg bf bc es (fl'.set a 1) z.2 (cl'.set a (Dm cl' a++[e]))∧Ft z.1 (Bf bg bf bc z.2)) ?_ ?_
  ·cases o4 with
   |none =>
    have hc0:=V4.nil a ho4;simp only[hdO]at hgel4;(repeat refine AW.seq_k fun K hK=>?_);refine AW.rdLR [50] [bg,bc] [0,1,2,3,4,5,6,7,8,9,10,11,12,13,14,15,16] Ds (by simp[q5,q6]) ?_;simp[q5,q6,han,hhl4,hgel4];refine⟨by unfold maxLen;omega,fun b6 h6 _=>?_⟩;have hfresh:b6 ∉ Bf bg bf bc bs':=fun hm=>V4.dom hm h6;have e1:¬bc=b6:=fun h=>hfresh (by rw[←h];simp[Bf]);simp[e1,han,hhl4];refine⟨_,Xg V4 o4' han (.inl hfresh) (by rw[Ac.set_same,hc0];rfl) (by rw[Ac.set_other _ _ (Ne.symm e1),Ac.set_same,hc0];rfl) (fun k _ hk1 hk2 _=>by rw[Ac.set_other _ _ hk2,Ac.set_other _ _ hk1]) (fun k hk=>?_)⟩
    by_cases k1:k=b6
    ·exact .inl k1
    ·refine .inr ⟨?_,fun h=>by rw[ho4]at h;cases h⟩;by_cases k2:k=bc
     ·rw[k2];simp[Bf]
     ·rw[Ac.set_other _ _ k2,Ac.set_other _ _ k1]at hk;exact o4' k hk
   |some b4 =>
    simp only[hdO]at hgel4;have q7:=V4.row a b4 ho4;have hnd4:=V4.ndr a b4 ho4;(repeat refine AW.seq_k fun K hK=>?_);refine AW.rdLR [50] [bg,bc] [0,1,2,3,4,5,6,7,8,9,10,11,12,13,14,15,16] Ds (by simp[q5,q6]) ?_;simp[q5,q6,q7,han,hhl4,hgel4,hnd4];refine⟨by omega,by unfold maxLen;omega,fun b6 h6 _=>?_⟩;have hf6:b6 ∉ Bf bg bf bc bs'∨bs'[a]?=some (some b6):=by
     by_cases e:b6=b4
     ·exact .inr (by rw[e];exact ho4)
     ·exact .inl fun hm=>V4.dom hm (by rwa [Ac.del_other _ e]at h6)
    have e1:¬bc=b6:=by
     intro h;rcases hf6 with hf6 | hf6
     ·exact hf6 (by rw[←h];simp[Bf])
     ·exact(V4.ndr a b6 hf6).2.2 h.symm
    have e2:¬bc=b4:=Ne.symm hnd4.2.2;simp[e1,e2,han,hhl4];refine⟨_,Xg V4 o4' han hf6 (by rw[Ac.set_same];simp) (by rw[Ac.set_other _ _ (Ne.symm e1),Ac.set_same,Em]) (fun k _ hk1 hk2 hk3=>?_) (fun k hk=>?_)⟩
    ·have:k≠b4:=fun h=>hk3 (by rw[h];exact ho4);rw[Ac.set_other _ _ hk2,Ac.set_other _ _ hk1,Ac.del_other _ this]
    ·by_cases k1:k=b6
     ·exact .inl k1
     ·by_cases k2:k=bc
      ·exact .inr ⟨by rw[k2];simp[Bf],fun h=>absurd k2 (V4.ndr a k h).2.2⟩
      ·rw[Ac.set_other _ _ k2,Ac.set_other _ _ k1]at hk;by_cases k3:k=b4
       ·rw[k3,Ac.del_same]at hk;exact absurd rfl hk
       ·rw[Ac.del_other _ k3]at hk;exact .inr ⟨o4' k hk,fun h=>by rw[ho4]at h;cases h;exact absurd rfl k3⟩
  ·rintro⟨M5,bs5⟩ h5;simp only at h5 ⊢;(repeat refine AW.seq_k fun K hK=>?_);refine AW.rg ?_;simp;try (refine hK _ rfl ?_;clear hK K)
   exact AW.ret (B9 rfl (H3 h5.1 h5.2) (hinv M5 bs5 h5))
 ·have hf:Ni n ((A++[e]).map (Ae es))=false:=by
   cases hc:Ni n ((A++[e]).map (Ae es))with
   |false=>rfl
   |true =>
    rw[G1 hLe,hmap,Ns hsp]at hc;have:=hc X hX;rw[hE,ins,hXa,hXb]at this;cases this
  have hadd:Ib n (Ae es) A e=A:=by unfold Ib;rw[hf,if_neg (by simp)]
  rw[h2,h3];simp;try (refine hK _ rfl ?_;clear hK K)
  refine AW.yes ?_ rfl;(repeat refine AW.seq_k fun K hK=>?_);refine AW.rg ?_;simp;try (refine hK _ rfl ?_;clear hK K)
  exact AW.ret (B9 rfl (H3 hG'.mem hG'.only) ⟨by rw[hf];rfl,fl',bs',cl',by rw[hadd];exact hG'⟩)
end Go.Av
end
section
namespace Go.Av
open Go.Proofs Go.Lam
structure PSt where
 M:Ac
 fl:List Nat
 bs:List (Option Nat)
 cl:List (List Nat)
 ov:AV
 ob:List Nat
structure Qfu (n bg bf bc:Nat) (es:List RE) (A:List Nat) (z:PSt):Prop where
 game:Dp z.M n bg bf bc es z.fl z.bs z.cl
 inv:Inv n (Ae es) A (En z.fl) (Dm z.cl)
 lst:L8 z.M 3 1 z.ov z.ob (Ar A)
 off:∀b∈z.ob,b ∉ Bf bg bf bc z.bs
 only:Ft z.M (z.ob++Bf bg bf bc z.bs)
theorem Qfu.ones {n bg bf bc:Nat} {es:List RE} {A:List Nat} {z:PSt} (h:Qfu n bg bf bc es A z):∀c y,z.M c=some y→∀v∈y.l,v.cells.all AV.one=true:=by
 intro c y hy v hv;rcases List.mem_append.1 (h.only c (by rw[hy];simp))with hc | hc
 ·rcases h.lst with⟨_,h2,_⟩|⟨b,h2,_,h3⟩
  ·rw[h2]at hc;cases hc
  ·rw[h2,List.mem_singleton]at hc;rw[hc,h3]at hy;cases hy;exact C3 _ v hv
 ·rcases Bi.1 hc with rfl|rfl|rfl|⟨i,hi⟩
  ·rw[h.game.g]at hy;cases hy;simp only[C6,List.mem_singleton]at hv;subst hv;rfl
  ·rw[h.game.f]at hy;cases hy;exact C3 _ v hv
  ·rw[h.game.c]at hy;cases hy;exact J3 _ _ v hv
  ·rw[h.game.row i c hi]at hy;cases hy;exact C3 _ v hv
def Qpr (n:Nat) (es:List RE) (A:List Nat) (v:AV) (M':Ac):Prop :=
 ∃(bg bf bc:Nat) (fl:List Nat) (bs:List (Option Nat)) (cl:List (List Nat)),v=.tup [.ptr bg 3 0 0,.sl 1 (Ar A)]∧Jf n bg bf bc es A M' fl bs cl
theorem Qt (n:Nat) (es:List RE) (hn:n≤12) (hes:Li n es) (s:List Nat) (hs:∀k∈s,k<es.length) (hsl:s.length≤100) :
  Aj Tryz.prog 44 [.int .i64 (n:Nat),Bb es,.sl 1 (Ar s)] Ac.emp (Qpr n es (Bx n (Ae es) [] s)):=by
 have hst:=Qde n es hn;refine Ad Tryz.func44 rfl rfl 31 rfl (Nat.le_of_ble_eq_true rfl) ?_;unfold Bb at hst ⊢;(repeat refine AW.seq_k fun K hK=>?_);refine AW.rg ?_;simp[Ak];try (refine hK _ rfl ?_;clear hK K)
 (repeat refine AW.seq_k fun K hK=>?_);refine AW.rg ?_;simp;try (refine hK _ rfl ?_;clear hK K)
 refine Aa.news hst ?_;rintro _ g ⟨bg,bf,bc,rfl,hG,ho⟩ _;simp;have hg:Ac.back Ac.emp [] g=g:=by funext k;simp only[Ac.back,Ay];cases g k<;>simp
 rw[hg];try (refine hK _ rfl ?_;clear hK K)
 (repeat refine AW.seq_k fun K hK=>?_);refine AW.rg ?_;simp;try (refine hK _ rfl ?_;clear hK K)
 refine AW.seq_ex (ι:=PSt) (fun z=>[(8,.ptr bg 3 0 0),(9,z.ov)]) (fun z=>z.M) (fun z=>Qfu n bg bf bc es (Bx n (Ae es) [] s) z) ?_ ?_
 ·(repeat refine AW.seq_k fun K hK=>?_);refine AW.rg ?_;simp;try (refine hK _ rfl ?_;clear hK K)
  have hI0:Inv n (Ae es) [] (En (List.replicate n 2)) (Dm (List.replicate n [])):=by
   have h1:=Inv.start n (Ae es);refine⟨fun v hv=>?_,?_,fun v hv e he=>?_,by simp⟩
   ·rw[S6];unfold En;rw[List.getD_eq_getElem?_getD,List.getElem?_replicate,if_pos hv];rfl
   ·have:Dm (List.replicate n [])=fun _=>[]:=funext fun i=>S6 n i;rw[this];exact h1.perm
   ·rw[S6]at he;cases he
  refine AW.block (AW.loopS (ι:=PSt × Nat) (fun z=>[(8,.ptr bg 3 0 0),(9,z.1.ov),(15,.sl 1 (Ar s)),(16,.int .i64 (s.length:Nat)),(17,.int .i64 (z.2:Nat))]) (fun z=>z.1.M)
   (fun z=>z.2≤s.length∧Qfu n bg bf bc es (Bx n (Ae es) [] (s.take z.2)) z.1) (fun z=>s.length-z.2) (⟨g,List.replicate n 2,List.replicate n none,List.replicate n [],.nil,[]⟩,0)
   ⟨by simp,⟨hG,hI0,.inl ⟨rfl,rfl,rfl⟩,by simp,ho⟩⟩ rfl (by simp) ?_)
  rintro⟨⟨M,fl,bs,cl,ov,ob⟩,i⟩ ⟨g1,g2⟩;simp only at g1 g2;(repeat refine AW.seq_k fun K hK=>?_);refine AW.rg ?_;simp;try (refine hK _ rfl ?_;clear hK K)
  (repeat refine AW.seq ?_);refine AW.cs (fun hi=>?_) (fun hi=>?_) rfl<;>(try simp at hi)
  ·refine AW.skip ?_;try simp
   try (refine hK _ rfl ?_;clear hK K)
   have w1:=Ap (i+1) (by omega);obtain⟨e,he⟩:∃e,s[i]=e:=⟨_,rfl⟩;have hel:e<es.length:=hs e (he ▸ List.getElem_mem hi);have htk:Bx n (Ae es) [] (s.take (i+1))=Ib n (Ae es) (Bx n (Ae es) [] (s.take i)) e:=by
    rw[Jw hi he,Wi];rfl
   have hA:∀k∈Bx n (Ae es) [] (s.take i),k<es.length:=fun k hk=>by
    rcases Kg hk with h|h
    ·cases h
    ·exact hs k (List.mem_of_mem_take h)
   have hsp:Ba n ((Bx n (Ae es) [] (s.take i)).map (Ae es)):=D1 (by simp) (hes.at fun k hk=>hs k (List.mem_of_mem_take hk)) (Ba.nil n);have hAl:(Bx n (Ae es) [] (s.take i)).length≤100:=by
    have:=Gz (n:=n) (E:=Ae es) (s.take i) [];simp at this;omega
   generalize Bx n (Ae es) [] (s.take i)=A at *;have hon:Jf n bg bf bc es A (M.only (Bf bg bf bc bs)) fl bs cl:=⟨g2.game.congr fun k hk=>B8 hk,fun k hk=>by
    rcases Decidable.em (k∈Bf bg bf bc bs)with hm|hm
    ·exact hm
    ·exact absurd (B1 hm) hk,g2.inv⟩
   have hac:=Qbp n bg bf bc es A hn hes hA hsp _ fl bs cl e hel hon;(repeat refine AW.seq ?_);refine AW.block ?_;(repeat refine AW.seq_k fun K hK=>?_);refine AW.rg ?_;simp[hi,he];try (refine hK _ rfl ?_;clear hK K)
   (repeat refine AW.seq_k fun K hK=>?_);refine AW.rg ?_;simp;try (refine hK _ rfl ?_;clear hK K)
   refine Aa.hand (Bf bg bf bc bs) (fun _ _ h=>h) hac ?_;rintro _ g' ⟨rfl,fl',bs',cl',hG'⟩ hnew;have hobM:∀b∈ob,M b≠none:=fun b hb=>by
    rcases g2.lst with⟨_,h2,_⟩|⟨b',h2,_,h3⟩
    ·simp only at h2;rw[h2]at hb;cases hb
    ·simp only at h2 h3;rw[h2,List.mem_singleton]at hb;rw[hb,h3];simp
   have hobN:∀b∈ob,b ∉ Bf bg bf bc bs':=fun b hb hm=>by
    rcases hnew b (hG'.mem.dom hm)with h|h
    ·exact g2.off b hb h
    ·exact hobM b hb h.1
   have hM2:∀k∈Bf bg bf bc bs',M.back (Bf bg bf bc bs) g' k=g' k:=fun k hk=>by
    unfold Ac.back;cases h:g' k with
    |some x=>rfl
    |none=>exact absurd h (hG'.mem.dom hk)
   have hM2o:∀b∈ob,M.back (Bf bg bf bc bs) g' b=M b:=fun b hb=>by
    have h:g' b=none:=by
     cases h:g' b with
     |none=>rfl
     |some x=>exact absurd (hG'.only b (by rw[h];simp)) (hobN b hb)
    unfold Ac.back;rw[h];exact if_neg (g2.off b hb)
   have hM2n:∀k,M.back (Bf bg bf bc bs) g' k≠none→k∈ob++Bf bg bf bc bs':=fun k hk=>by
    unfold Ac.back at hk;cases h:g' k with
    |some x=>exact List.mem_append_right _ (hG'.only k (by rw[h];simp))
    |none =>
     rw[h]at hk;simp only at hk;by_cases hm:k∈Bf bg bf bc bs
     ·rw[if_pos hm]at hk;exact absurd rfl hk
     ·rw[if_neg hm]at hk;rcases List.mem_append.1 (g2.only k hk)with h' | h'
      ·exact List.mem_append_left _ h'
      ·exact absurd h' hm
   have gm:=hG'.mem.congr hM2;have lm:=g2.lst.keep hM2o;generalize M.back (Bf bg bf bc bs) g'=M2 at gm lm hM2o hM2n ⊢;cases hf:Ni n ((A++[e]).map (Ae es))with
   |false =>
    have hadd:Ib n (Ae es) A e=A:=by unfold Ib;rw[hf,if_neg (by simp)]
    rw[hadd]at htk hG';simp;try (refine hK _ rfl ?_;clear hK K)
    refine AW.no ?_ rfl;refine AW.skip ?_;try simp
    try (refine hK _ rfl ?_;clear hK K)
    (repeat refine AW.seq_k fun K hK=>?_);refine AW.rg ?_;simp[-Int.natCast_add,w1];try (refine hK _ rfl ?_;clear hK K)
    exact⟨⟨M2,fl',bs',cl',ov,ob⟩,i+1,⟨by omega,by rw[htk];exact⟨gm,hG'.inv,lm,hobN,hM2n⟩⟩,by omega,rfl,rfl,rfl⟩
   |true =>
    have hadd:Ib n (Ae es) A e=A++[e]:=by unfold Ib;rw[hf,if_pos rfl]
    rw[hadd]at htk hG';simp;try (refine hK _ rfl ?_;clear hK K)
    refine AW.yes ?_ rfl;rcases lm with⟨l1,l2,l3⟩ | ⟨b0,l2,l3,l4⟩
    ·simp only at l1 l2 l3;have hA0:A=[]:=by unfold Ar at l1;exact List.map_eq_nil_iff.1 l1
     subst l2;subst l3;subst hA0;(repeat refine AW.seq_k fun K hK=>?_);refine AW.rgR [26] ?_;simp;try (refine hK _ rfl ?_;clear hK K)
     refine⟨by unfold maxLen;omega,Af.intro fun b6 h6=>?_⟩;have hb6:b6 ∉ Bf bg bf bc bs':=fun hm=>gm.dom hm h6;(repeat refine AW.seq_k fun K hK=>?_);refine AW.rg ?_;simp[-Int.natCast_add,w1];try (refine hK _ rfl ?_;clear hK K)
     refine⟨⟨M2.set b6 ⟨3,1,[.int .i64 (e:Nat)]⟩,fl',bs',cl',.osl b6 1 0 1,[b6]⟩,i+1,⟨by omega,?_⟩,by omega,rfl,rfl,rfl⟩;rw[htk];exact⟨gm.congr fun k hk=>Ac.set_other _ _ (fun h=>hb6 (h ▸ hk)),hG'.inv,.inr ⟨b6,rfl,rfl,Ac.set_same _ _ _⟩,fun b hb=>by rw[List.mem_singleton]at hb;rw[hb];exact hb6,fun k hk=>by
      by_cases h:k=b6
      ·rw[h];simp
      ·simp only at hk;rw[Ac.set_other _ _ h]at hk;have:=hM2n k hk;simp only[List.nil_append]at this;exact List.mem_append_right _ this⟩
    ·simp only at l2 l3 l4;subst l2;subst l3;(repeat refine AW.seq_k fun K hK=>?_);refine AW.rgR [26] ?_;simp[l4];try (refine hK _ rfl ?_;clear hK K)
     refine⟨by omega,by unfold maxLen;omega,Af.intro fun b6 h6=>?_⟩;have hb0:b0 ∉ Bf bg bf bc bs':=hobN b0 (by simp);have hb6:b6 ∉ Bf bg bf bc bs':=fun hm=>by
      by_cases h:b6=b0
      ·exact hb0 (h ▸ hm)
      ·rw[Ac.del_other _ h]at h6;exact gm.dom hm h6
     (repeat refine AW.seq_k fun K hK=>?_);refine AW.rg ?_;simp[-Int.natCast_add,w1];try (refine hK _ rfl ?_;clear hK K)
     refine⟨⟨(M2.del b0).set b6 ⟨3,1,Ar A++[.int .i64 (e:Nat)]⟩,fl',bs',cl',.osl b6 1 0 (A.length+1),[b6]⟩,i+1,⟨by omega,?_⟩,by omega,rfl,rfl,rfl⟩;rw[htk];refine⟨gm.congr fun k hk=>by simp only;rw[Ac.set_other _ _ (fun h=>hb6 (by rw[←h];exact hk)),Ac.del_other _ (fun h=>hb0 (by rw[←h];exact hk))],hG'.inv,.inr ⟨b6,rfl,by simp,by simp only;rw[Ac.set_same,Em]⟩,fun b hb=>by rw[List.mem_singleton]at hb;rw[hb];exact hb6,fun k hk=>?_⟩;by_cases h:k=b6
     ·rw[h];simp
     ·simp only at hk;rw[Ac.set_other _ _ h]at hk;by_cases h':k=b0
      ·rw[h',Ac.del_same]at hk;exact absurd rfl hk
      ·rw[Ac.del_other _ h']at hk;have:=hM2n k hk;simp only[List.singleton_append,List.mem_cons]at this;exact List.mem_append_right _ (this.resolve_left h')
  ·refine AW.exit ?_;try simp
   rw[show i=s.length by omega,List.take_length]at g2;exact⟨_,g2,rfl,rfl⟩
 rintro⟨M,fl,bs,cl,ov,ob⟩ hz;simp only;(repeat refine AW.seq_k fun K hK=>?_);refine AW.rg ?_;simp;try (refine hK _ rfl ?_;clear hK K)
 have hone:=hz.ones;have hview:=hz.lst.view (M':=M.only (Bf bg bf bc bs)) (fun b hb=>B1 (hz.off b hb));refine AW.ret ⟨[.ptr bg 3 0 0,ov],rfl,.tup [.ptr bg 3 0 0,.sl 1 (Ar (Bx n (Ae es) [] s))],M.only (Bf bg bf bc bs),Bn.sub fun b x hb=>?_,B2.tupL ⟨.same _,hview,trivial⟩,bg,bf,bc,fl,bs,cl,rfl,hz.game.congr fun k hk=>B8 hk,fun k hk=>?_,hz.inv⟩
 ·by_cases hm:b∈Bf bg bf bc bs
  ·rw[B8 hm]at hb;exact⟨hb,hone b x hb⟩
  ·rw[B1 hm]at hb;cases hb
 ·rcases Decidable.em (k∈Bf bg bf bc bs)with hm|hm
  ·exact hm
  ·exact absurd (B1 hm) hk
end Go.Av
end
section
namespace Go.Av
open Go.Proofs Go.Lam
theorem Ls (n:Int) (es:List RE) (hb:Vv es):Aj Tryz.prog 13 [.int .i64 n,Bb es] Ac.emp fun v m=>v=.tup [.sl 1 (Ar (Gq n es)),Cz n es]∧m=Ac.emp:=by
 have hc:=P4 n es hb;refine Ad Tryz.func13 rfl rfl 24 rfl (Nat.le_of_ble_eq_true rfl) ?_;unfold Bb at hc ⊢;(repeat refine AW.seq_k fun K hK=>?_);refine AW.rg ?_;simp[Ak];try (refine hK _ rfl ?_;clear hK K)
 (repeat refine AW.seq_k fun K hK=>?_);refine AW.rg ?_;simp;try (refine hK _ rfl ?_;clear hK K)
 refine Aa.val hc ?_;by_cases hk:Dd n es=true;rotate_left
 ·have e1:Cz n es=.int .i64 1:=by unfold Cz;rw[if_neg hk]
  have e2:Gq n es=[]:=by unfold Gq;rw[if_neg hk]
  simp[e1];try (refine hK _ rfl ?_;clear hK K)
  (repeat refine AW.seq_k fun K hK=>?_);refine AW.rg ?_;simp;try (refine hK _ rfl ?_;clear hK K)
  refine AW.yes ?_ rfl;(repeat refine AW.seq_k fun K hK=>?_);refine AW.rg ?_;simp;try (refine hK _ rfl ?_;clear hK K)
  exact AW.ret (Ah [.sl 1 (Ar []),.int .i64 1] rfl ⟨.nilsl 1,.same _,trivial⟩ ⟨by rw[e2,e1];rfl,rfl⟩)
 have e1:Cz n es=.int .i64 0:=by unfold Cz;rw[if_pos hk]
 have e2:Gq n es=Bx n.toNat (Ae es) [] (List.range es.length):=by unfold Gq;rw[if_pos hk]
 obtain⟨⟨h1,h2,h3⟩,_⟩:=E2 hk;have hok:=Mt hk;obtain⟨N,rfl⟩:=Int.eq_ofNat_of_zero_le (show 0≤n by omega);simp only[Int.toNat_natCast]at hok e2;have hall:=X3 es h3;have hpl:=Qt N es (by omega) hok (List.range es.length) (by simp) (by simp;omega);unfold Bb at hall hpl;simp[e1];try (refine hK _ rfl ?_;clear hK K)
 (repeat refine AW.seq_k fun K hK=>?_);refine AW.rg ?_;simp;try (refine hK _ rfl ?_;clear hK K)
 refine AW.no ?_ rfl;refine AW.skip ?_;try simp
 try (refine hK _ rfl ?_;clear hK K)
 (repeat refine AW.seq_k fun K hK=>?_);refine AW.rg ?_;simp;try (refine hK _ rfl ?_;clear hK K)
 refine Aa.val hall ?_;simp;refine Aa.news hpl ?_;rintro _ g ⟨bg,bf,bc,fl,bs,cl,rfl,hG⟩ _;simp;try (refine hK _ rfl ?_;clear hK K)
 (repeat refine AW.seq_k fun K hK=>?_);refine AW.rg ?_;simp;try (refine hK _ rfl ?_;clear hK K)
 exact AW.ret (Ah [.sl 1 (Ar (Bx N (Ae es) [] (List.range es.length))),.int .i64 0] rfl ⟨.same _,.same _,trivial⟩ ⟨by rw[e2,e1];rfl,rfl⟩)
theorem M9 (n:Int) (es:List RE) (hb:Vv es):Aj Tryz.prog 15 [.int .i64 n,Bb es] Ac.emp fun v m=>v=.tup [O2 n es,Cz n es]∧m=Ac.emp:=by
 have hc:=Ls n es hb;refine Ad Tryz.func15 rfl rfl 27 rfl (Nat.le_of_ble_eq_true rfl) ?_;unfold Bb at hc ⊢;(repeat refine AW.seq_k fun K hK=>?_);refine AW.rg ?_;simp[Ak];try (refine hK _ rfl ?_;clear hK K)
 (repeat refine AW.seq_k fun K hK=>?_);refine AW.rg ?_;simp;try (refine hK _ rfl ?_;clear hK K)
 refine Aa.val hc ?_;by_cases hk:Dd n es=true;rotate_left
 ·have e1:Cz n es=.int .i64 1:=by unfold Cz;rw[if_neg hk]
  have e2:O2 n es=.int .i64 0:=by unfold O2;rw[if_neg hk]
  simp[e1];try (refine hK _ rfl ?_;clear hK K)
  (repeat refine AW.seq_k fun K hK=>?_);refine AW.rg ?_;simp;try (refine hK _ rfl ?_;clear hK K)
  refine AW.yes ?_ rfl;(repeat refine AW.seq_k fun K hK=>?_);refine AW.rg ?_;simp;try (refine hK _ rfl ?_;clear hK K)
  exact AW.ret (Ah [.int .i64 0,.int .i64 1] rfl ⟨.same _,.same _,trivial⟩ ⟨by rw[e2,e1];rfl,rfl⟩)
 have e1:Cz n es=.int .i64 0:=by unfold Cz;rw[if_pos hk]
 have hle:=S3 hk;obtain⟨⟨h1,h2,h3⟩,_⟩:=E2 hk;have e2:O2 n es=.int .i64 (if n=1 then 0 else 2*n-3-((Gq n es).length:Int)):=by unfold O2;rw[if_pos hk]
 generalize Gq n es=O at *;simp[e1];try (refine hK _ rfl ?_;clear hK K)
 by_cases hn:n=1
 ·(repeat refine AW.seq_k fun K hK=>?_);refine AW.rg ?_;simp[hn];try (refine hK _ rfl ?_;clear hK K)
  refine AW.yes ?_ rfl;(repeat refine AW.seq_k fun K hK=>?_);refine AW.rg ?_;simp;try (refine hK _ rfl ?_;clear hK K)
  exact AW.ret (Ah [.int .i64 0,.int .i64 0] rfl ⟨.same _,.same _,trivial⟩ ⟨by rw[e2,e1,if_pos hn];rfl,rfl⟩)
 rw[if_neg hn]at e2;(repeat refine AW.seq_k fun K hK=>?_);refine AW.rg ?_;simp[hn];try (refine hK _ rfl ?_;clear hK K)
 refine AW.no ?_ rfl;refine AW.skip ?_;try simp
 try (refine hK _ rfl ?_;clear hK K)
 have w1:IntKind.i64.wrap (2*n)=2*n:=Ok (by omega);have w2:IntKind.i64.wrap (2*n-3)=2*n-3:=Ok (by omega);have w3:IntKind.i64.wrap (2*n-3-(O.length:Int))=2*n-3-(O.length:Int):=Ok (by omega);(repeat refine AW.seq_k fun K hK=>?_);refine AW.rg ?_;simp[w1,w2,w3];try (refine hK _ rfl ?_;clear hK K)
 exact AW.ret (Ah [.int .i64 (2*n-3-(O.length:Int)),.int .i64 0] rfl ⟨.same _,.same _,trivial⟩ ⟨by rw[e2,e1];rfl,rfl⟩)
end Go.Av
end
section
namespace Go.Av
section
variable {P:Program}
def isZ (o:Oper):Bool:=match o.op with
 |.call c=>match c.callee with | .builtin .append=>true | _=>false
 |_=>false
def Qzl (P:Program) (o:Oper) (s:St) (k:AV→Ac→Prop):Prop:=match o.op with
 |.call c=>match c.callee with
  |.builtin .append=>∃x y t ti e te,c.args.toList=[x,y]∧c.argTypes.toList=[t,t]∧Ai P t=some ti∧ti.cls=.slice e∧Ai P e=some te∧0<te.size ∧
    (s.ev x=.nil∨s.ev x=.zc)∧Gu s.m te.size (s.ev y)=some []∧k .zc s.m
  |_=>False
 |_=>False
def Qau (P:Program) (cf:D7) (o:Oper) (K:St→Prop) (s:St):Prop:=if isZ o=true then Qzl P o s fun v m'=>K ({s with m:=m'}.put o.dst v) else E5 P cf o K s
def Qfe (P:Program) (cf:D7):List Oper→(St→Prop)→St→Prop
 |[],K,s=>K s
 |o::rest,K,s=>o.guard=none∧Qau P cf o (Qfe P cf rest K) s
@[simp] theorem Qv9 (cf:D7) (K:St→Prop) (s:St):Qfe P cf [] K s=K s:=(rfl)
@[simp] theorem Qsq (cf:D7) (d:Option Tmp) (op:Op) (t:TypeId) (p:String) (a:Array Edge) (l:List Oper) (K:St→Prop) (s:St) :
  Qfe P cf ({dst:=d,op:=op,type:=t,pos:=p,after:=a,guard:=none}::l) K s↔Qau P cf {dst:=d,op:=op,type:=t,pos:=p,after:=a,guard:=none} (Qfe P cf l K) s:=by
 show(_∧_)↔_
 simp
@[simp] theorem Qu4 (cf:D7) (K:St→Prop) (s:St) (d:Option Tmp) (x:Operand) (ty:TypeId) (p:String) (a:Array Edge) (g:Option (Nat × Bool)):Qau P cf ⟨d,.move x,ty,p,a,g⟩ K s=E5 P cf ⟨d,.move x,ty,p,a,g⟩ K s:=(rfl)
@[simp] theorem Qqr (cf:D7) (K:St→Prop) (s:St) (d:Option Tmp) (x:Operand) (ty:TypeId) (p:String) (a:Array Edge) (g:Option (Nat × Bool)):Qau P cf ⟨d,.assign x,ty,p,a,g⟩ K s=E5 P cf ⟨d,.assign x,ty,p,a,g⟩ K s:=(rfl)
@[simp] theorem Qsd (cf:D7) (K:St→Prop) (s:St) (d:Option Tmp) (t:TypeId) (x:Operand) (lo hi mx:Option Operand) (ty:TypeId) (p:String) (a:Array Edge) (g:Option (Nat × Bool)):Qau P cf ⟨d,.slice t x lo hi mx,ty,p,a,g⟩ K s=E5 P cf ⟨d,.slice t x lo hi mx,ty,p,a,g⟩ K s:=(rfl)
@[simp] theorem Qtv (cf:D7) (K:St→Prop) (s:St) (d:Option Tmp) (o:BinOp) (t t':TypeId) (x y:Operand) (ty:TypeId) (p:String) (a:Array Edge) (g:Option (Nat × Bool)):Qau P cf ⟨d,.binOp o t x y t',ty,p,a,g⟩ K s=E5 P cf ⟨d,.binOp o t x y t',ty,p,a,g⟩ K s:=(rfl)
def emK (x:Option (List AV)) (k:Prop):Prop:=x=some []∧k
@[simp] theorem Q0l (k:Prop):emK (some []) k↔k:=by simp[emK]
@[congr] theorem Qxn {x y:Option (List AV)} {k:Prop} (h:x=y):emK x k=emK y k:=by rw[h]
def zK (x:AV) (k:Prop):Prop:=(x=.nil∨x=.zc)∧k
@[simp] theorem Q04 (k:Prop):zK .nil k↔k:=by simp[zK]
@[simp] theorem Q1f (k:Prop):zK .zc k↔k:=by simp[zK]
@[congr] theorem Qzo {x y:AV} {k:Prop} (h:x=y):zK x k=zK y k:=by rw[h]
@[simp] theorem Qpp (cf:D7) (K:St→Prop) (s:St) (d:Option Tmp) (x y:Operand) (t ty:TypeId) (p:String) (a:Array Edge) (g:Option (Nat × Bool)):Qau P cf ⟨d,.call ⟨.builtin .append,#[x,y],#[t,t]⟩,ty,p,a,g⟩ K s↔Ur (Ai P t) fun ti=>eK (Rd ti.cls) fun e=>Ur (Ai P e) fun te=>0<te.size∧zK (s.ev x) (emK (Gu s.m te.size (s.ev y)) (Jq K s d .zc s.m)):=by
 unfold Qau Qzl Ur eK zK emK;simp only[isZ,if_true];constructor
 ·rintro⟨x',y',t',ti,e,te,h1,h2,q1,q2,q3,q4,q5,q6,q7⟩;simp only[List.cons.injEq,and_true]at h1 h2;obtain⟨rfl,rfl⟩:=h1;obtain⟨rfl,_⟩:=h2;exact⟨ti,q1,e,Dw.2 q2,te,q3,q4,q5,q6,q7⟩
 ·rintro⟨ti,q1,e,q2,te,q3,q4,q5,q6,q7⟩;exact⟨x,y,t,ti,e,te,rfl,rfl,q1,Dw.1 q2,q3,q4,q5,q6,q7⟩
end
end Go.Av
end
section
namespace Go.Av
open Go.Proofs Go.Lam
def Y2 (o:Option Nat) (l:List Nat):AV:=match o with
 |none=>.nil
 |some b=>.osl b 1 0 l.length
def lsM (o:Option Nat) (l:List Nat) (m:Ac):Ac:=match o with
 |none=>m
 |some b=>m.set b ⟨3,1,Ar l⟩
theorem Qkg {o:Option Nat} {l:List Nat} {m:Ac} (h:∀c y,m c=some y→∀v∈y.l,v.cells.all AV.one=true):∀c y,lsM o l m c=some y→∀v∈y.l,v.cells.all AV.one=true:=by
 intro c y hy;cases o with
 |none=>exact h c y hy
 |some b =>
  unfold lsM at hy;simp only[A9]at hy;split at hy
  ·cases hy;exact C3 _
  ·exact h c y hy
theorem Qhq {b:Nat} {m:Ac} (h:m b=none):m.del b=m:=by
 funext c
 unfold Ac.del;by_cases hc:c=b
 ·rw[if_pos hc,hc,h]
 ·rw[if_neg hc]
theorem Aa.look {P:Program} {av:Nat→Prop} {f:FuncId} {args:List AV} {m:Ac} {k:AV→Ac→Prop} {v:AV} (args':List AV) (hv:D9 m Ac.emp args args') (h:Aj P f args' Ac.emp fun v' m'=>v'=v∧m'=Ac.emp) (hf:v.flat=true) (hk:k v m):Aa P av f args m k :=
 .inr ⟨args',_,Di hv,h,fun v' _ hr=>by rw[hr.1];exact⟨hf,hk⟩⟩
theorem Qlq:∀c y,Ac.emp c=some y→∀v∈y.l,v.cells.all AV.one=true:=by intro c y hy;cases hy
theorem Ql3 {o:Option Nat} {l:List Nat} {M M':Ac} (h0:o=none→l=[]) (h1:∀b,o=some b→M b=some ⟨3,1,Ar l⟩∧M' b=none):B2 M M' (Y2 o l) (.sl 1 (Ar l)):=by
 cases o with
 |none=>rw[h0 rfl];exact .nilsl 1
 |some b =>
  obtain⟨h2,h3⟩:=h1 b rfl;exact L8.view (ob:=[b]) (ty:=3) (.inr ⟨b,rfl,by unfold Y2;rw[Lr],h2⟩) (by simpa using h3)
def ltL (e:Nat) (l:List Nat):List Nat:=l.filter fun k=>decide (k<e)
def Qlx (n:Int) (es:List RE) (e:Nat):List Nat:=ltL e (Gq n es)
def Xy (n:Nat) (es:List RE) (B:List Nat) (e k:Nat):Bool:=Ni n ((B.eraseIdx k++[e]).map (Ae es))
def Hp (n:Nat) (es:List RE) (B:List Nat) (e i:Nat):List Nat:=((List.range i).filter (Xy n es B e)).map fun k=>B.getD k 0
def Qpi (n:Int) (es:List RE) (e:Nat):List Nat:=Hp n.toNat es (Qlx n es e) e (Qlx n es e).length++[e]
def I3 (n:Int) (es:List RE) (e:Int):Int:=if Dd n es=true then (if e<0∨(es.length:Int)≤e then 1 else if e.toNat∈Gq n es then 7 else 0) else 1
def L4 (n:Int) (es:List RE) (e:Int):AV:=.tup [.sl 1 (Ar (if I3 n es e=0 then Qpi n es e.toNat else [])),.int .i64 (I3 n es e)]
theorem Qe5 (n:Nat) (es:List RE) (B:List Nat) (e i:Nat) (hi:i<B.length):Hp n es B e (i+1)=Hp n es B e i++(if Xy n es B e i=true then [B[i]] else []):=by
 unfold Hp;rw[List.range_succ,List.filter_append,List.map_append];cases h:Xy n es B e i<;>simp[h,hi]
theorem W5 (n:Nat) (es:List RE) (B:List Nat) (e i:Nat):(Hp n es B e i).length≤i:=by
 unfold Hp;have:=List.length_filter_le (Xy n es B e) (List.range i);simp at this ⊢;omega
theorem Qfn {n:Int} {es:List RE} {k:Nat} (h:k∈Gq n es):k<es.length:=by
 unfold Gq at h;split at h
 ·exact Qh5 h
 ·cases h
theorem Qhl (O:List Nat) (e i:Nat) (hi:i<O.length):ltL e (O.take (i+1))=ltL e (O.take i)++(if O[i]<e then [O[i]] else []):=by
 unfold ltL;rw[List.take_add_one,List.filter_append,List.getElem?_eq_getElem hi];by_cases h:O[i]<e<;>simp[h]
theorem Qj4 (O:List Nat) (e i:Nat):(ltL e (O.take i)).length≤O.length:=by
 unfold ltL;have h1:=List.length_filter_le (fun k=>decide (k<e)) (O.take i);have h2:(O.take i).length≤O.length:=by simp;omega
 omega
theorem Qim {n:Int} {es:List RE} {e:Int} (h:¬Dd n es=true):I3 n es e=1:=by unfold I3;rw[if_neg h]
theorem Qhc {n:Int} {es:List RE} {e:Int} (h:Dd n es=true) (he:e<0∨(es.length:Int)≤e):I3 n es e=1:=by unfold I3;rw[if_pos h,if_pos he]
theorem Ql9 {n:Int} {es:List RE} {e:Nat} (h:Dd n es=true) (he:e<es.length) (hi:e∈Gq n es):I3 n es (e:Nat)=7:=by
 unfold I3;rw[if_pos h,if_neg (by omega),if_pos (by simpa using hi)]
theorem Ql5 {n:Int} {es:List RE} {e:Nat} (h:Dd n es=true) (he:e<es.length) (hi:e ∉ Gq n es):I3 n es (e:Nat)=0:=by
 unfold I3;rw[if_pos h,if_neg (by omega),if_neg (by simpa using hi)]
theorem Qfi {n:Int} {es:List RE} {e:Int} (h:I3 n es e=1):L4 n es e=.tup [.sl 1 (Ar []),.int .i64 1]:=by unfold L4;rw[h,if_neg (by decide)]
theorem Qn2 {n:Int} {es:List RE} {e:Int} (h:I3 n es e=7):L4 n es e=.tup [.sl 1 (Ar []),.int .i64 7]:=by unfold L4;rw[h,if_neg (by decide)]
theorem Qnb {n:Int} {es:List RE} {e:Nat} (h:I3 n es (e:Nat)=0):L4 n es (e:Nat)=.tup [.sl 1 (Ar (Hp n.toNat es (Qlx n es e) e (Qlx n es e).length++[e])),.int .i64 0]:=by unfold L4 Qpi;rw[h,if_pos rfl];simp
end Go.Av
end
section
namespace Go.Av
open Go.Proofs Go.Lam
theorem Ud {m:Ac} {b:Nat} {x:Fi} (h:m b=some x):m.only [b]=Ac.emp.set b x:=by
 funext c
 by_cases hc:c=b
 ·subst hc;rw[B8 (by simp),h];simp
 ·rw[B1 (by simpa using hc)];simp[Ac.set,hc,Ac.emp]
theorem Qbb {m:Ac} {b:Nat} {y:Fi}:m.back [b] (Ac.emp.set b y)=m.set b y:=by
 funext c
 unfold Ac.back;by_cases hc:c=b
 ·subst hc;simp
 ·simp[Ac.set,hc,Ac.emp]
theorem Qd5 (n:Int) (es:List RE) (e:Int) (hb:Vv es):Aj Tryz.prog 20 [.int .i64 n,Bb es,.int .i64 e] Ac.emp fun v m=>v=L4 n es e∧m=Ac.emp:=by
 have hc:=Ls n es hb;refine Ad Tryz.func20 rfl rfl 90 rfl (Nat.le_of_ble_eq_true rfl) ?_;unfold Bb at hc ⊢;(repeat refine AW.seq_k fun K hK=>?_);refine AW.rg ?_;simp[Ak];try (refine hK _ rfl ?_;clear hK K)
 (repeat refine AW.seq_k fun K hK=>?_);refine AW.rg ?_;simp;try (refine hK _ rfl ?_;clear hK K)
 refine Aa.val hc ?_;by_cases hk:Dd n es=true;rotate_left
 ·have e1:Cz n es=.int .i64 1:=by unfold Cz;rw[if_neg hk]
  simp[e1];try (refine hK _ rfl ?_;clear hK K)
  (repeat refine AW.seq_k fun K hK=>?_);refine AW.rg ?_;simp;try (refine hK _ rfl ?_;clear hK K)
  refine AW.yes ?_ rfl;(repeat refine AW.seq_k fun K hK=>?_);refine AW.rg ?_;simp;try (refine hK _ rfl ?_;clear hK K)
  exact AW.ret (Ah [.sl 1 (Ar []),.int .i64 1] rfl ⟨.nilsl 1,.same _,trivial⟩ ⟨by rw[Qfi (Qim hk)];rfl,rfl⟩)
 have e1:Cz n es=.int .i64 0:=by unfold Cz;rw[if_pos hk]
 obtain⟨⟨h1,h2,h3⟩,_⟩:=E2 hk;have hok:=Mt hk;have hle:=S3 hk;have hlt:=fun k=>Qfn (n:=n) (es:=es) (k:=k);have hCi:=fun e=>Ql9 (n:=n) (es:=es) (e:=e) hk;have hCo:=fun e=>Ql5 (n:=n) (es:=es) (e:=e) hk;have hR:=fun e=>Qnb (n:=n) (es:=es) (e:=e);unfold Qlx at hR;generalize Gq n es=O at *;obtain⟨N,rfl⟩:=Int.eq_ofNat_of_zero_le (show 0≤n by omega);simp only[Int.toNat_natCast]at hok hR;simp[e1];try (refine hK _ rfl ?_;clear hK K)
 (repeat refine AW.seq_k fun K hK=>?_);refine AW.rg ?_;simp;try (refine hK _ rfl ?_;clear hK K)
 refine AW.no ?_ rfl;refine AW.skip ?_;try simp
 try (refine hK _ rfl ?_;clear hK K)
 by_cases ho:e<0∨(es.length:Int)≤e
 ·have hz:L4 (N:Nat) es e=.tup [.sl 1 (Ar []),.int .i64 1]:=Qfi (Qhc hk ho);rcases ho with ho | ho
  ·(repeat refine AW.seq_k fun K hK=>?_);refine AW.rg ?_;simp[ho];try (refine hK _ rfl ?_;clear hK K)
   refine AW.yes ?_ rfl;(repeat refine AW.seq_k fun K hK=>?_);refine AW.rg ?_;simp;try (refine hK _ rfl ?_;clear hK K)
   exact AW.ret (Ah [.sl 1 (Ar []),.int .i64 1] rfl ⟨.nilsl 1,.same _,trivial⟩ ⟨by rw[hz];rfl,rfl⟩)
  ·have hn:¬e<0:=by omega
   (repeat refine AW.seq_k fun K hK=>?_);refine AW.rg ?_;simp[ho,hn];try (refine hK _ rfl ?_;clear hK K)
   refine AW.yes ?_ rfl;(repeat refine AW.seq_k fun K hK=>?_);refine AW.rg ?_;simp;try (refine hK _ rfl ?_;clear hK K)
   exact AW.ret (Ah [.sl 1 (Ar []),.int .i64 1] rfl ⟨.nilsl 1,.same _,trivial⟩ ⟨by rw[hz];rfl,rfl⟩)
 obtain⟨E,rfl⟩:=Int.eq_ofNat_of_zero_le (show 0≤e by omega);have hE:E<es.length:=by omega
 clear ho;have hn1:¬(E:Int)<0:=by omega
 have hn2:¬es.length≤E:=by omega
 (repeat refine AW.seq_k fun K hK=>?_);refine AW.rg ?_;simp[hn1,hn2];try (refine hK _ rfl ?_;clear hK K)
 refine AW.no ?_ rfl;refine AW.skip ?_;try simp
 try (refine hK _ rfl ?_;clear hK K)
 have hct:=Tg O E (by omega);(repeat refine AW.seq_k fun K hK=>?_);refine AW.rg ?_;simp;try (refine hK _ rfl ?_;clear hK K)
 refine Aa.val hct ?_;by_cases hin:E∈O
 ·have hz:L4 (N:Nat) es (E:Nat)=.tup [.sl 1 (Ar []),.int .i64 7]:=Qn2 (hCi E hE hin);simp[hin];try (refine hK _ rfl ?_;clear hK K)
  refine AW.yes ?_ rfl;(repeat refine AW.seq_k fun K hK=>?_);refine AW.rg ?_;simp;try (refine hK _ rfl ?_;clear hK K)
  exact AW.ret (Ah [.sl 1 (Ar []),.int .i64 7] rfl ⟨.nilsl 1,.same _,trivial⟩ ⟨by rw[hz];rfl,rfl⟩)
 simp[hin];try (refine hK _ rfl ?_;clear hK K)
 refine AW.no ?_ rfl;refine AW.skip ?_;try simp
 try (refine hK _ rfl ?_;clear hK K)
 have hR0:=hR E (hCo E hE hin);(repeat refine AW.seq_k fun K hK=>?_);refine AW.rg ?_;simp;try (refine hK _ rfl ?_;clear hK K)
 refine AW.seq_ex (ι:=Option Nat) (fun o=>[(0,.int .i64 (N:Nat)),(1,.sl 6 (D3 es)),(2,.int .i64 (E:Nat)),(10,Y2 o (ltL E O)),(11,.nil)]) (fun o=>lsM o (ltL E O) Ac.emp)
  (fun o=>o=none→ltL E O=[]) ?_ ?_
 ·(repeat refine AW.seq_k fun K hK=>?_);refine AW.rg ?_;simp;try (refine hK _ rfl ?_;clear hK K)
  refine AW.block (AW.loopS (ι:=Option Nat × Nat) (fun z=>[(0,.int .i64 (N:Nat)),(1,.sl 6 (D3 es)),(2,.int .i64 (E:Nat)),(39,.sl 1 (Ar O)),(40,.int .i64 (O.length:Nat)),(41,.int .i64 (z.2:Nat)),(10,Y2 z.1 (ltL E (O.take z.2))),(11,.nil)]) (fun z=>lsM z.1 (ltL E (O.take z.2)) Ac.emp)
   (fun z=>z.2≤O.length∧(z.1=none→ltL E (O.take z.2)=[])) (fun z=>O.length-z.2) (none,0) ⟨by simp,by simp[ltL]⟩ rfl (by simp[Y2]) ?_)
  rintro⟨o,i⟩ ⟨g1,g0⟩;simp only at g1 g0;(repeat refine AW.seq_k fun K hK=>?_);refine AW.rg ?_;simp;try (refine hK _ rfl ?_;clear hK K)
  (repeat refine AW.seq ?_);refine AW.cs (fun hi=>?_) (fun hi=>?_) rfl<;>(try simp at hi)
  ·refine AW.skip ?_;try simp
   try (refine hK _ rfl ?_;clear hK K)
   have w1:=Ap (i+1) (by omega);have hft:=Qhl O E i hi;have hfl:=Qj4 O E i;generalize ltL E (O.take i)=F at *;(repeat refine AW.seq ?_);refine AW.block ?_;(repeat refine AW.seq_k fun K hK=>?_);refine AW.rg ?_;simp[hi];try (refine hK _ rfl ?_;clear hK K)
   (repeat refine AW.seq_k fun K hK=>?_);refine AW.rg ?_;simp;try (refine hK _ rfl ?_;clear hK K)
   (repeat refine AW.seq ?_);refine AW.cs (fun hx=>?_) (fun hx=>?_) rfl<;>(try simp at hx)
   ·rw[if_pos hx]at hft;cases o with
    |none =>
     have hF:=g0 rfl;subst hF;simp only[Y2,lsM];(repeat refine AW.seq_k fun K hK=>?_);refine AW.rgR [50] ?_;simp[hi];try (refine hK _ rfl ?_;clear hK K)
     refine⟨by unfold maxLen;omega,Af.intro fun b24 _=>?_⟩;(repeat refine AW.seq_k fun K hK=>?_);refine AW.rg ?_;simp[-Int.natCast_add,w1];try (refine hK _ rfl ?_;clear hK K)
     exact⟨some b24,i+1,⟨by omega,by simp⟩,by omega,by rw[hft];rfl,by rw[hft];exact⟨rfl,rfl⟩⟩
    |some b0 =>
     simp only[Y2,lsM];(repeat refine AW.seq_k fun K hK=>?_);refine AW.rgR [50] ?_;simp[hi];try (refine hK _ rfl ?_;clear hK K)
     refine⟨by omega,by unfold maxLen;omega,Af.intro fun b24 _=>?_⟩;(repeat refine AW.seq_k fun K hK=>?_);refine AW.rg ?_;simp[-Int.natCast_add,w1];try (refine hK _ rfl ?_;clear hK K)
     exact⟨some b24,i+1,⟨by omega,by simp⟩,by omega,by rw[hft,←Em],by rw[hft];simp[Y2]⟩
   ·rw[if_neg (Nat.not_lt.2 hx),List.append_nil]at hft;refine AW.skip ?_;try simp
    try (refine hK _ rfl ?_;clear hK K)
    (repeat refine AW.seq_k fun K hK=>?_);refine AW.rg ?_;simp[-Int.natCast_add,w1];try (refine hK _ rfl ?_;clear hK K)
    exact⟨o,i+1,⟨by omega,by rw[hft];exact g0⟩,by omega,by rw[hft],by rw[hft];exact⟨rfl,rfl⟩⟩
  ·refine AW.exit ?_;try simp
   rw[show i=O.length by omega,List.take_length]at g0 ⊢;exact⟨o,g0,rfl,rfl⟩
 rintro o ho;have hBl:(ltL E O).length≤40:=Nat.le_trans (List.length_filter_le _ _) hle;have hBm:∀k∈ltL E O,k<es.length:=fun k hk=>hlt k (List.mem_filter.1 hk).1;generalize ltL E O=B at *;clear hR hCi hCo hlt hle hin hc hct O;refine AW.toEmp [(0,.int .i64 (N:Nat)),(1,.sl 6 (D3 es)),(2,.int .i64 (E:Nat)),(10,.sl 1 (Ar B)),(11,.nil)] (by simp;exact Ql3 ho fun b h=>by rw[h];exact⟨Ac.set_same _ _ _,rfl⟩) ?_;refine AW.seq_ex (ι:=Option Nat) (fun o=>[(2,.int .i64 (E:Nat)),(11,Y2 o (Hp N es B E B.length))]) (fun o=>lsM o (Hp N es B E B.length) Ac.emp) (fun o=>o=none→Hp N es B E B.length=[]) ?_ ?_
 ·(repeat refine AW.seq_k fun K hK=>?_);refine AW.rg ?_;simp;try (refine hK _ rfl ?_;clear hK K)
  refine AW.block (AW.loopS (ι:=Option Nat × Nat) (fun z=>[(0,.int .i64 (N:Nat)),(1,.sl 6 (D3 es)),(2,.int .i64 (E:Nat)),(10,.sl 1 (Ar B)),(11,Y2 z.1 (Hp N es B E z.2)),(53,.sl 1 (Ar B)),(54,.int .i64 (B.length:Nat)),(55,.int .i64 (z.2:Nat))]) (fun z=>lsM z.1 (Hp N es B E z.2) Ac.emp)
   (fun z=>z.2≤B.length∧(z.1=none→Hp N es B E z.2=[])) (fun z=>B.length-z.2) (none,0) ⟨by simp,by simp[Hp]⟩ rfl (by simp[Y2]) ?_)
  rintro⟨o,i⟩ ⟨g1,g2⟩;simp only at g1 g2;(repeat refine AW.seq_k fun K hK=>?_);refine AW.rg ?_;simp;try (refine hK _ rfl ?_;clear hK K)
  (repeat refine AW.seq ?_);refine AW.cs (fun hi=>?_) (fun hi=>?_) rfl<;>(try simp at hi)
  ·refine AW.skip ?_;try simp
   try (refine hK _ rfl ?_;clear hK K)
   have w1:=Ap (i+1) (by omega);have hsc:=Qe5 N es B E i hi;have hcl:=W5 N es B E i;have hB0:B≠[]:=by rintro rfl;simp at hi
   have hcn:=Zz B (by omega) hB0;have hmem:∀k∈B.eraseIdx i++[E],k<es.length:=(fun k hk=>by
    rcases List.mem_append.1 hk with h|h
    ·exact hBm k (List.mem_of_mem_eraseIdx h)
    ·simp at h;omega)
   have hel:(B.eraseIdx i).length=B.length-1:=by rw[List.length_eraseIdx,if_pos hi]
   have hpl:=Qt N es (by omega) hok (B.eraseIdx i++[E]) hmem (by simp[hel];omega);have hfull:=Z3 (n:=N) (E:=Ae es) (s:=B.eraseIdx i++[E]) (fun k hk=>hok.at hmem k hk);have hgl:(Bx N (Ae es) [] (B.eraseIdx i++[E])).length≤40:=by
    have:=Gz (n:=N) (E:=Ae es) (B.eraseIdx i++[E]) [];simp[hel]at this;omega
   have hde:=fun b=>Pv b B i hi (by omega);obtain⟨cb,hcb⟩:∃c,Xy N es B E i=c:=⟨_,rfl⟩;rw[hcb]at hsc;unfold Xy at hcb;generalize Hp N es B E i=L at *;(repeat refine AW.seq ?_);refine AW.block ?_;(repeat refine AW.seq_k fun K hK=>?_);refine AW.rg ?_;simp[hi];try (refine hK _ rfl ?_;clear hK K)
   obtain⟨M,hM⟩:∃M,lsM o L Ac.emp=M:=⟨_,rfl⟩;rw[hM];refine AW.seq_ex (ι:=Nat) (fun b=>[(0,.int .i64 (N:Nat)),(1,.sl 6 (D3 es)),(2,.int .i64 (E:Nat)),(10,.sl 1 (Ar B)),(11,Y2 o L),(53,.sl 1 (Ar B)),(54,.int .i64 (B.length:Nat)),(55,.int .i64 (i:Nat)),(15,.int .i64 (B[i]:Nat)),(16,.osl b 1 0 (B.length-1))]) (fun b=>M.set b ⟨3,1,Ar (B.eraseIdx i)⟩) (fun b=>M b=none) ?_ ?_
   ·(repeat refine AW.seq_k fun K hK=>?_);refine AW.rg ?_;simp[w1];try (refine hK _ rfl ?_;clear hK K)
    refine Aa.news hcn ?_;rintro _ g ⟨b,rfl,rfl⟩ hnew;have hMb:M b=none:=(hnew b (by simp)).1;have e2:M.back [] (Ac.emp.set b ⟨3,1,Ar B⟩)=M.set b ⟨3,1,Ar B⟩:=by
     funext c
     unfold Ac.back;by_cases hc:c=b
     ·subst hc;simp
     ·simp[Ac.set,hc,Ac.emp]
    rw[e2];simp[-Int.natCast_add,w1];refine Aa.hand (R:=fun v m=>v=.osl b 1 0 (B.length-1)∧m=Ac.emp.set b ⟨3,1,Ar (B.eraseIdx i)⟩) [b] (fun _ _ h=>h) (by rw[Ud (Ac.set_same _ _ _)];exact hde b) ?_;rintro _ g ⟨rfl,rfl⟩ _;rw[Qbb];simp[-Int.natCast_add];exact hMb
   rintro b hMb;refine AW.seq_ex (ι:=Ac) (fun _=>[(0,.int .i64 (N:Nat)),(1,.sl 6 (D3 es)),(2,.int .i64 (E:Nat)),(10,.sl 1 (Ar B)),(11,Y2 o L),(53,.sl 1 (Ar B)),(54,.int .i64 (B.length:Nat)),(55,.int .i64 (i:Nat)),(15,.int .i64 (B[i]:Nat)),(18,.sl 1 (Ar (Bx N (Ae es) [] (B.eraseIdx i++[E]))))]) (fun M3=>M3) (fun M3=>∀c y,M c=some y→M3 c=some y) ?_ ?_
   ·(repeat refine AW.seq_k fun K hK=>?_);refine AW.rgR [71] ?_;simp[hel];try (refine hK _ rfl ?_;clear hK K)
    refine⟨by omega,by unfold maxLen;omega,?_⟩;rw[Qhq hMb];refine Af.intro fun b' hb'=>?_;rw[←Em];refine Aa.hand (R:=Qpr N es (Bx N (Ae es) [] (B.eraseIdx i++[E]))) [b'] (fun _ _ h=>h) (by
     rw[Ud (Ac.set_same _ _ _)];exact hpl.view (Di (l':=[.int .i64 (N:Nat),Bb es,.sl 1 (Ar (B.eraseIdx i++[E]))]) ⟨.same _,.same _,Mm (by simp) (by simp[hel]),trivial⟩)) ?_
    rintro _ g ⟨bg,bf,bc,fl,bs,cl,rfl,hG⟩ hnew;simp;intro c y hy;have hcb:c≠b':=by rintro rfl;rw[hb']at hy;cases hy
    have hg:g c=none:=by
     cases h:g c with
     |none=>rfl
     |some x =>
      rcases hnew c (by rw[h];simp)with h'|h'
      ·exact absurd (by simpa using h') hcb
      ·rw[Ac.set_other _ _ hcb,hy]at h';simp at h'
    unfold Ac.back;rw[hg];simp only;rw[if_neg (by simpa using hcb),Ac.set_other _ _ hcb,hy]
   rintro M3 hM3;refine AW.turn [(0,.int .i64 (N:Nat)),(1,.sl 6 (D3 es)),(2,.int .i64 (E:Nat)),(10,.sl 1 (Ar B)),(11,Y2 o L),(53,.sl 1 (Ar B)),(54,.int .i64 (B.length:Nat)),(55,.int .i64 (i:Nat)),(15,.int .i64 (B[i]:Nat)),(18,.sl 1 (Ar (Bx N (Ae es) [] (B.eraseIdx i++[E]))))] M (Bn.sub fun c y hy=>⟨hM3 c y hy,(hM ▸ Qkg Qlq) c y hy⟩) (by simp) ?_;generalize Bx N (Ae es) [] (B.eraseIdx i++[E])=G at *;rw[show(B.eraseIdx i++[E]).length=B.length by simp[hel];omega,hcb]at hfull;subst hM;cases cb with
   |false =>
    have hne:¬G.length=B.length:=fun h=>by have:=hfull.1 h;cases this
    simp at hsc;(repeat refine AW.seq_k fun K hK=>?_);refine AW.rg ?_;simp[hne];try (refine hK _ rfl ?_;clear hK K)
    refine AW.no ?_ rfl;refine AW.skip ?_;try simp
    try (refine hK _ rfl ?_;clear hK K)
    (repeat refine AW.seq_k fun K hK=>?_);refine AW.rg ?_;simp[-Int.natCast_add,w1];try (refine hK _ rfl ?_;clear hK K)
    exact⟨o,i+1,⟨by omega,by rw[hsc];exact g2⟩,by omega,by rw[hsc],by rw[hsc];exact⟨rfl,rfl⟩⟩
   |true =>
    have hne:=hfull.2 rfl;simp at hsc;(repeat refine AW.seq_k fun K hK=>?_);refine AW.rg ?_;simp[hne];try (refine hK _ rfl ?_;clear hK K)
    refine AW.yes ?_ rfl;cases o with
    |none =>
     have hL:=g2 rfl;subst hL;simp only[Y2,lsM];(repeat refine AW.seq_k fun K hK=>?_);refine AW.rgR [83] ?_;simp;try (refine hK _ rfl ?_;clear hK K)
     refine⟨by unfold maxLen;omega,Af.intro fun b6 _=>?_⟩;(repeat refine AW.seq_k fun K hK=>?_);refine AW.rg ?_;simp[-Int.natCast_add,w1];try (refine hK _ rfl ?_;clear hK K)
     exact⟨some b6,i+1,⟨by omega,by simp⟩,by omega,by rw[hsc];rfl,by rw[hsc];exact⟨rfl,rfl⟩⟩
    |some b0 =>
     simp only[Y2,lsM];(repeat refine AW.seq_k fun K hK=>?_);refine AW.rgR [83] ?_;simp;try (refine hK _ rfl ?_;clear hK K)
     refine⟨by omega,by unfold maxLen;omega,Af.intro fun b6 _=>?_⟩;(repeat refine AW.seq_k fun K hK=>?_);refine AW.rg ?_;simp[-Int.natCast_add,w1];try (refine hK _ rfl ?_;clear hK K)
     exact⟨some b6,i+1,⟨by omega,by simp⟩,by omega,by rw[hsc,←Em],by rw[hsc];simp[Y2]⟩
  ·refine AW.exit ?_;try simp
   rw[show i=B.length by omega]at g2 ⊢;exact⟨o,g2,rfl,rfl⟩
 rintro o ho;have hcl:=W5 N es B E B.length;generalize Hp N es B E B.length=L at *;cases o with
 |none =>
  have hL:=ho rfl;subst hL;simp only[Y2,lsM];(repeat refine AW.seq_k fun K hK=>?_);refine AW.rgR [88] ?_;simp;try (refine hK _ rfl ?_;clear hK K)
  refine⟨by unfold maxLen;omega,Af.intro fun b6 _=>?_⟩;refine hK _ rfl ?_;clear hK K;exact AW.ret (Ah [.sl 1 (Ar ([]++[E])),.int .i64 0] rfl ⟨Mm (by simp;rfl) (by simp),.same _,trivial⟩ ⟨hR0.symm,rfl⟩)
 |some b0 =>
  simp only[Y2,lsM];(repeat refine AW.seq_k fun K hK=>?_);refine AW.rgR [88] ?_;simp;try (refine hK _ rfl ?_;clear hK K)
  refine⟨by omega,by unfold maxLen;omega,Af.intro fun b6 _=>?_⟩;rw[←Em];refine hK _ rfl ?_;clear hK K;exact AW.ret (Ah [.sl 1 (Ar (L++[E])),.int .i64 0] rfl ⟨Mm (by simp) (by simp),.same _,trivial⟩ ⟨hR0.symm,rfl⟩)
end Go.Av
end
section
namespace Go.Av
open Go.Proofs Go.Lam
structure Mz (n bg bf bc:Nat) (es:List RE) (A l:List Nat) (z:PSt):Prop where
 game:Dp z.M n bg bf bc es z.fl z.bs z.cl
 inv:Inv n (Ae es) A (En z.fl) (Dm z.cl)
 lst:L8 z.M 3 1 z.ov z.ob (Ar l)
 off:∀b∈z.ob,b ∉ Bf bg bf bc z.bs
 only:Ft z.M (z.ob++Bf bg bf bc z.bs)
theorem Mz.ones {n bg bf bc:Nat} {es:List RE} {A l:List Nat} {z:PSt} (h:Mz n bg bf bc es A l z):∀c y,z.M c=some y→∀v∈y.l,v.cells.all AV.one=true:=by
 intro c y hy v hv;rcases List.mem_append.1 (h.only c (by rw[hy];simp))with hc | hc
 ·rcases h.lst with⟨_,h2,_⟩|⟨b,h2,_,h3⟩
  ·rw[h2]at hc;cases hc
  ·rw[h2,List.mem_singleton]at hc;rw[hc,h3]at hy;cases hy;exact C3 _ v hv
 ·rcases Bi.1 hc with rfl|rfl|rfl|⟨i,hi⟩
  ·rw[h.game.g]at hy;cases hy;simp only[C6,List.mem_singleton]at hv;subst hv;rfl
  ·rw[h.game.f]at hy;cases hy;exact C3 _ v hv
  ·rw[h.game.c]at hy;cases hy;exact J3 _ _ v hv
  ·rw[h.game.row i c hi]at hy;cases hy;exact C3 _ v hv
theorem Mz.gam {n bg bf bc:Nat} {es:List RE} {A l:List Nat} {M:Ac} {fl:List Nat} {bs:List (Option Nat)} {cl:List (List Nat)} {ov:AV} {ob:List Nat} (h:Mz n bg bf bc es A l ⟨M,fl,bs,cl,ov,ob⟩):Jf n bg bf bc es A (M.only (Bf bg bf bc bs)) fl bs cl :=
 ⟨h.game.congr fun k hk=>B8 hk,fun k hk=>by
  rcases Decidable.em (k∈Bf bg bf bc bs)with hm|hm
  ·exact hm
  ·exact absurd (B1 hm) hk,h.inv⟩
theorem Mz.back {n bg bf bc:Nat} {es:List RE} {A A' l:List Nat} {M g':Ac} {fl fl':List Nat} {bs bs':List (Option Nat)} {cl cl':List (List Nat)} {ov:AV} {ob:List Nat} (g2:Mz n bg bf bc es A l ⟨M,fl,bs,cl,ov,ob⟩)
  (hG':Jf n bg bf bc es A' g' fl' bs' cl') (hnew:∀b,g' b≠none→b∈Bf bg bf bc bs∨M b=none):Mz n bg bf bc es A' l ⟨M.back (Bf bg bf bc bs) g',fl',bs',cl',ov,ob⟩:=by
 have hobM:∀b∈ob,M b≠none:=fun b hb=>by
  rcases g2.lst with⟨_,h2,_⟩|⟨b',h2,_,h3⟩
  ·simp only at h2;rw[h2]at hb;cases hb
  ·simp only at h2 h3;rw[h2,List.mem_singleton]at hb;rw[hb,h3];simp
 have hobN:∀b∈ob,b ∉ Bf bg bf bc bs':=fun b hb hm=>by
  rcases hnew b (hG'.mem.dom hm)with h|h
  ·exact g2.off b hb h
  ·exact hobM b hb h
 have hM2:∀k∈Bf bg bf bc bs',M.back (Bf bg bf bc bs) g' k=g' k:=fun k hk=>by
  unfold Ac.back;cases h:g' k with
  |some x=>rfl
  |none=>exact absurd h (hG'.mem.dom hk)
 have hM2o:∀b∈ob,M.back (Bf bg bf bc bs) g' b=M b:=fun b hb=>by
  have h:g' b=none:=by
   cases h:g' b with
   |none=>rfl
   |some x=>exact absurd (hG'.only b (by rw[h];simp)) (hobN b hb)
  unfold Ac.back;rw[h];exact if_neg (g2.off b hb)
 refine⟨hG'.mem.congr hM2,hG'.inv,g2.lst.keep hM2o,hobN,fun k hk=>?_⟩;simp only at hk;unfold Ac.back at hk;cases h:g' k with
 |some x=>exact List.mem_append_right _ (hG'.only k (by rw[h];simp))
 |none =>
  rw[h]at hk;simp only at hk;by_cases hm:k∈Bf bg bf bc bs
  ·rw[if_pos hm]at hk;exact absurd rfl hk
  ·rw[if_neg hm]at hk;rcases List.mem_append.1 (g2.only k hk)with h' | h'
   ·exact List.mem_append_left _ h'
   ·exact absurd h' hm
theorem Mz.push0 {n bg bf bc:Nat} {es:List RE} {A:List Nat} {M:Ac} {fl:List Nat} {bs:List (Option Nat)} {cl:List (List Nat)} {ov:AV} {b6 i:Nat} (h:Mz n bg bf bc es A [] ⟨M,fl,bs,cl,ov,[]⟩) (h6:M b6=none) :
  Mz n bg bf bc es A [i] ⟨M.set b6 ⟨3,1,Ar [i]⟩,fl,bs,cl,.osl b6 1 0 1,[b6]⟩:=by
 have hb6:b6 ∉ Bf bg bf bc bs:=fun hm=>h.game.dom hm h6;refine⟨h.game.congr fun k hk=>Ac.set_other _ _ (fun e=>hb6 (e ▸ hk)),h.inv,.inr ⟨b6,rfl,rfl,Ac.set_same _ _ _⟩,fun b hb=>by rw[List.mem_singleton]at hb;rw[hb];exact hb6,fun k hk=>?_⟩;by_cases e:k=b6
 ·rw[e];simp
 ·simp only at hk;rw[Ac.set_other _ _ e]at hk;have:=h.only k hk;simp only[List.nil_append]at this;exact List.mem_append_right _ this
theorem Mz.push1 {n bg bf bc:Nat} {es:List RE} {A l:List Nat} {M:Ac} {fl:List Nat} {bs:List (Option Nat)} {cl:List (List Nat)} {ov:AV} {b0 b6 i:Nat} (h:Mz n bg bf bc es A l ⟨M,fl,bs,cl,ov,[b0]⟩) (h6:M.del b0 b6=none) :
  Mz n bg bf bc es A (l++[i]) ⟨(M.del b0).set b6 ⟨3,1,Ar l++[.int .i64 (i:Nat)]⟩,fl,bs,cl,.osl b6 1 0 (l.length+1),[b6]⟩:=by
 have hb0:b0 ∉ Bf bg bf bc bs:=h.off b0 (by simp);have hb6:b6 ∉ Bf bg bf bc bs:=fun hm=>by
  by_cases e:b6=b0
  ·exact hb0 (e ▸ hm)
  ·rw[Ac.del_other _ e]at h6;exact h.game.dom hm h6
 refine⟨h.game.congr fun k hk=>by simp only;rw[Ac.set_other _ _ (fun e=>hb6 (by rw[←e];exact hk)),Ac.del_other _ (fun e=>hb0 (by rw[←e];exact hk))],h.inv,.inr ⟨b6,rfl,by simp,by simp only;rw[Ac.set_same,Em]⟩,fun b hb=>by rw[List.mem_singleton]at hb;rw[hb];exact hb6,fun k hk=>?_⟩;by_cases e:k=b6
 ·rw[e];simp
 ·simp only at hk;rw[Ac.set_other _ _ e]at hk;by_cases e':k=b0
  ·rw[e',Ac.del_same]at hk;exact absurd rfl hk
  ·rw[Ac.del_other _ e']at hk;have:=h.only k hk;simp only[List.singleton_append,List.mem_cons]at this;exact List.mem_append_right _ (this.resolve_left e')
def Q0s (n bg bf bc:Nat) (es:List RE) (A:List Nat) (e:Nat) (v:AV) (M':Ac):Prop :=
 v=.sl 1 (Ar (Ho n (A.map (Ae es)) (Ae es e)))∧∃(fl:List Nat) (bs:List (Option Nat)) (cl:List (List Nat)),Jf n bg bf bc es A M' fl bs cl
def Qbz (n:Nat) (L:List Ed) (e:Ed) (i:Nat):List Nat:=(List.range i).filter (Hm n L e)
theorem Qhv (n:Nat) (L:List Ed) (e:Ed) (i:Nat):Qbz n L e (i+1)=Qbz n L e i++if Hm n L e i=true then [i] else []:=by
 unfold Qbz;rw[List.range_succ,List.filter_append];cases h:Hm n L e i<;>simp[h]
theorem Qj7 (n:Nat) (L:List Ed) (e:Ed) (i:Nat):(Qbz n L e i).length≤i:=by
 have:=List.length_filter_le (Hm n L e) (List.range i);simpa[Qbz]using this
theorem Yb (n bg bf bc:Nat) (es:List RE) (A:List Nat) (hn:n≤12) (hes:Li n es) (hA:∀e∈A,e<es.length) (hsp:Ba n (A.map (Ae es))) (M:Ac) (fl:List Nat) (bs:List (Option Nat)) (cl:List (List Nat)) (e:Nat)
  (hG:Jf n bg bf bc es A M fl bs cl) (heA:e∈A) :
  Aj Tryz.prog 53 [.ptr bg 3 0 0,.int .i64 (e:Nat)] M (Q0s n bg bf bc es A e):=by
 have he:e<es.length:=hA e heA;obtain⟨e1,e2,e3⟩:=hes e he;have hL:∀e∈A.map (Ae es),C0 n e:=fun e he=>by
  obtain⟨k,hk,rfl⟩:=List.mem_map.1 he;exact(hes k (hA k hk)).2.2
 have hT0:=Ip hL hsp (List.mem_map.2 ⟨e,heA,rfl⟩);have hwa:Hm n (A.map (Ae es)) (Ae es e) (Ae es e).1=true:=(Jv hL e3.1 e3).2 ⟨_,hT0,by simp[ins,Ez],by simp[Ez]⟩;have hwb:Hm n (A.map (Ae es)) (Ae es e) (Ae es e).2=true:=(Jv hL e3.2.1 e3).2 ⟨_,hT0,by simp[ins,Ez],by simp[Ez]⟩;have hbd:∀(M:Ac) (fl:List Nat) (bs:List (Option Nat)) (cl:List (List Nat)) (x:Nat),Jf n bg bf bc es A M fl bs cl→x<n→x≠(Ae es e).1→x≠(Ae es e).2→_:=fun M fl bs cl x h h1 h2 h3=>Qda n bg bf bc es A hn hes hA hsp M fl bs cl e x h heA h1 h2 h3
 obtain⟨a,ha⟩:∃a,(Ae es e).1=a:=⟨_,rfl⟩;obtain⟨b,hb⟩:∃b,(Ae es e).2=b:=⟨_,rfl⟩;have q1:=hG.mem.g;have q2:=hG.mem.f;have q4:=hG.mem.fll;unfold C6 at q1;refine Ad Tryz.func53 rfl rfl 54 rfl (Nat.le_of_ble_eq_true rfl) ?_;(repeat refine AW.seq_k fun K hK=>?_);refine AW.rg ?_;simp[Ak];try (refine hK _ rfl ?_;clear hK K)
 (repeat refine AW.seq_k fun K hK=>?_);refine AW.rdL [bg] [0,1,2,3,4,5,6,7,8,9,10,11,12,13,14,15,16,17] Ds (by simp[q1]) ?_;simp[q1,he,Ck,e1,e2];try (refine hK _ rfl ?_;clear hK K)
 simp only[ha,hb]at hbd hwa hwb ⊢;have han:a<n:=ha ▸ e3.1;have hbn:b<n:=hb ▸ e3.2.1;(repeat refine AW.seq_k fun K hK=>?_);refine AW.rg ?_;simp;try (refine hK _ rfl ?_;clear hK K)
 refine AW.seq_ex (ι:=PSt) (fun z=>[(7,z.ov)]) (fun z=>z.M) (fun z=>Mz n bg bf bc es A (Qbz n (A.map (Ae es)) (Ae es e) n) z) ?_ ?_
 ·(repeat refine AW.seq_k fun K hK=>?_);refine AW.rg ?_;simp[q1,q4];try (refine hK _ rfl ?_;clear hK K)
  refine AW.block (AW.loopS (ι:=PSt × Nat) (fun z=>[(0,.ptr bg 3 0 0),(5,.int .i64 (a:Nat)),(6,.int .i64 (b:Nat)),(7,z.1.ov),(29,.int .i64 (n:Nat)),(30,.int .i64 (z.2:Nat))]) (fun z=>z.1.M)
   (fun z=>z.2≤n∧Mz n bg bf bc es A (Qbz n (A.map (Ae es)) (Ae es e) z.2) z.1) (fun z=>n-z.2) (⟨M,fl,bs,cl,.nil,[]⟩,0)
   ⟨by simp,⟨hG.mem,hG.inv,.inl ⟨rfl,rfl,rfl⟩,by simp,hG.only⟩⟩ rfl (by simp) ?_)
  rintro⟨⟨M,fl,bs,cl,ov,ob⟩,i⟩ ⟨g1,g2⟩;simp only at g1 g2;(repeat refine AW.seq_k fun K hK=>?_);refine AW.rg ?_;simp;try (refine hK _ rfl ?_;clear hK K)
  (repeat refine AW.seq ?_);refine AW.cs (fun hi=>?_) (fun hi=>?_) rfl<;>(try simp at hi)
  ·refine AW.skip ?_;try simp
   try (refine hK _ rfl ?_;clear hK K)
   have w1:=Ap (i+1) (by omega);have hsc:=Qhv n (A.map (Ae es)) (Ae es e) i;have hcl:=Qj7 n (A.map (Ae es)) (Ae es e) i;generalize Qbz n (A.map (Ae es)) (Ae es e) i=l at *;(repeat refine AW.seq ?_);refine AW.block ?_;(repeat refine AW.seq_k fun K hK=>?_);refine AW.rg ?_;simp;try (refine hK _ rfl ?_;clear hK K)
   refine AW.seq_ex (ι:=PSt) (fun z=>[(0,.ptr bg 3 0 0),(5,.int .i64 (a:Nat)),(6,.int .i64 (b:Nat)),(7,z.ov),(8,.int .i64 (i:Nat)),(29,.int .i64 (n:Nat)),(30,.int .i64 (i:Nat)),(47,.bool (Hm n (A.map (Ae es)) (Ae es e) i))]) (fun z=>z.M) (fun z=>Mz n bg bf bc es A l z) ?_ ?_
   ·by_cases hia:i=a
    ·rw[hia,hwa];(repeat refine AW.seq_k fun K hK=>?_);refine AW.rg ?_;simp;try (refine hK _ rfl ?_;clear hK K)
     exact⟨_,g2,rfl,rfl⟩
    by_cases hib:i=b
    ·rw[hib,hwb];(repeat refine AW.seq_k fun K hK=>?_);refine AW.rg ?_;simp[hib ▸ hia];try (refine hK _ rfl ?_;clear hK K)
     exact⟨_,g2,rfl,rfl⟩
    (repeat refine AW.seq_k fun K hK=>?_);refine AW.rg ?_;simp[hia,hib];try (refine hK _ rfl ?_;clear hK K)
    refine Aa.hand (Bf bg bf bc bs) (fun _ _ h=>h) (hbd _ fl bs cl i g2.gam hi hia hib) ?_;rintro _ g' ⟨rfl,fl',bs',cl',hG'⟩ hnew;simp;exact⟨_,g2.back hG' (fun b h=>(hnew b h).imp id (·.1)),rfl,rfl⟩
   rintro⟨M,fl,bs,cl,ov,ob⟩ hz;simp only;cases hwi:Hm n (A.map (Ae es)) (Ae es e) i with
   |false =>
    rw[hwi]at hsc;simp at hsc;refine AW.no ?_ rfl;refine AW.skip ?_;try simp
    try (refine hK _ rfl ?_;clear hK K)
    (repeat refine AW.seq_k fun K hK=>?_);refine AW.rg ?_;simp[-Int.natCast_add,w1];try (refine hK _ rfl ?_;clear hK K)
    exact⟨_,i+1,⟨by omega,by rw[hsc];exact hz⟩,by omega,rfl,rfl,rfl⟩
   |true =>
    rw[hwi]at hsc;simp at hsc;refine AW.yes ?_ rfl;rcases hz.lst with⟨l1,l2,l3⟩ | ⟨b0,l2,l3,l4⟩
    ·simp only at l1 l2 l3;have hl0:l=[]:=by unfold Ar at l1;exact List.map_eq_nil_iff.1 l1
     subst l2;subst l3;subst hl0;(repeat refine AW.seq_k fun K hK=>?_);refine AW.rgR [50] ?_;simp;try (refine hK _ rfl ?_;clear hK K)
     refine⟨by unfold maxLen;omega,Af.intro fun b6 h6=>?_⟩;(repeat refine AW.seq_k fun K hK=>?_);refine AW.rg ?_;simp[-Int.natCast_add,w1];try (refine hK _ rfl ?_;clear hK K)
     exact⟨_,i+1,⟨by omega,by rw[hsc];exact hz.push0 h6⟩,by omega,rfl,rfl,rfl⟩
    ·simp only at l2 l3 l4;subst l2;subst l3;(repeat refine AW.seq_k fun K hK=>?_);refine AW.rgR [50] ?_;simp[l4];try (refine hK _ rfl ?_;clear hK K)
     refine⟨by omega,by unfold maxLen;omega,Af.intro fun b6 h6=>?_⟩;(repeat refine AW.seq_k fun K hK=>?_);refine AW.rg ?_;simp[-Int.natCast_add,w1];try (refine hK _ rfl ?_;clear hK K)
     have:=hz.push1 (i:=i) h6;exact⟨_,i+1,⟨by omega,by rw[hsc];exact this⟩,by omega,rfl,rfl,rfl⟩
  ·refine AW.exit ?_;try simp
   rw[show i=n by omega]at g2;exact⟨_,g2,rfl,rfl⟩
 rintro⟨M,fl,bs,cl,ov,ob⟩ hz;simp only;(repeat refine AW.seq_k fun K hK=>?_);refine AW.rg ?_;simp;try (refine hK _ rfl ?_;clear hK K)
 have hone:=hz.ones;have hview:=hz.lst.view (M':=M.only (Bf bg bf bc bs)) (fun b hb=>B1 (hz.off b hb));refine AW.ret ⟨[ov],rfl,.sl 1 (Ar (Ho n (A.map (Ae es)) (Ae es e))),M.only (Bf bg bf bc bs),Bn.sub fun b x hb=>?_,hview,rfl,fl,bs,cl,hz.game.congr fun k hk=>B8 hk,fun k hk=>?_,hz.inv⟩
 ·by_cases hm:b∈Bf bg bf bc bs
  ·rw[B8 hm]at hb;exact⟨hb,hone b x hb⟩
  ·rw[B1 hm]at hb;cases hb
 ·rcases Decidable.em (k∈Bf bg bf bc bs)with hm|hm
  ·exact hm
  ·exact absurd (B1 hm) hk
end Go.Av
end
section
namespace Go.Av
open Go.Proofs Go.Lam
def Gm (W:List (List Nat)):List AV:=W.map fun l=>.sl 1 (Ar l)
@[simp] theorem Th (W:List (List Nat)):(Gm W).length=W.length:=by simp[Gm]
@[simp] theorem Qfh {W:List (List Nat)} {i:Nat} (h:i<(Gm W).length):(Gm W)[i]=.sl 1 (Ar (W[i]'(by simpa using h))):=by simp[Gm]
theorem S2 (W:List (List Nat)):∀v∈Gm W,v.cells.all AV.one=true:=by
 intro v hv;obtain⟨x,_,rfl⟩:=List.mem_map.1 hv;rfl
def Wd (a b:Nat):Int:=if a<b then -1 else if b<a then 1 else 0
def Lw:List Nat→List Nat→Int
 |[],[]=>0
 |[],_::_=>-1
 |_::_,[]=>1
 |a::l,b::m=>if a=b then Lw l m else if a<b then -1 else 1
theorem Qgj:∀(x y:List Nat),Lw x y<0↔B0 x y=true
 |[],[]=>by simp[Lw,B0]
 |[],_::_=>by simp[Lw,B0]
 |_::_,[]=>by simp[Lw,B0]
 |a::l,b::m=>by
  unfold Lw B0;by_cases h:a=b
  ·rw[if_pos h,if_pos h];exact Qgj l m
  ·rw[if_neg h,if_neg h];by_cases h2:a<b<;>simp[h2]
theorem Uq (a:Nat):Aj Tryz.prog 136 [.int .i64 (a:Nat)] Ac.emp fun v m=>v=.bool false∧m=Ac.emp:=by
 refine Ad Tryz.func136 rfl rfl 6 rfl (Nat.le_of_ble_eq_true rfl) ?_;(repeat refine AW.seq_k fun K hK=>?_);refine AW.rg ?_;simp[Ak];try (refine hK _ rfl ?_;clear hK K)
 (repeat refine AW.seq_k fun K hK=>?_);refine AW.rg ?_;simp;try (refine hK _ rfl ?_;clear hK K)
 exact AW.ret (Ag rfl _ (.same _) ⟨rfl,rfl⟩)
theorem Qiz (a b:Nat):Aj Tryz.prog 94 [.int .i64 (a:Nat),.int .i64 (b:Nat)] Ac.emp fun v m=>v=.int .i64 (Wd a b)∧m=Ac.emp:=by
 refine Ad Tryz.func94 rfl rfl 20 rfl (Nat.le_of_ble_eq_true rfl) ?_;(repeat refine AW.seq_k fun K hK=>?_);refine AW.rg ?_;simp[Ak];try (refine hK _ rfl ?_;clear hK K)
 (repeat refine AW.seq_k fun K hK=>?_);refine AW.rg ?_;simp;try (refine hK _ rfl ?_;clear hK K)
 refine Aa.val (Uq a) ?_;simp;try (refine hK _ rfl ?_;clear hK K)
 (repeat refine AW.seq_k fun K hK=>?_);refine AW.rg ?_;simp;try (refine hK _ rfl ?_;clear hK K)
 refine Aa.val (Uq b) ?_;simp;try (refine hK _ rfl ?_;clear hK K)
 (repeat refine AW.seq_k fun K hK=>?_);refine AW.rg ?_;simp;try (refine hK _ rfl ?_;clear hK K)
 refine AW.no ?_ rfl;refine AW.skip ?_;try simp
 try (refine hK _ rfl ?_;clear hK K)
 (repeat refine AW.seq_k fun K hK=>?_);refine AW.rg ?_;simp;try (refine hK _ rfl ?_;clear hK K)
 refine AW.no ?_ rfl;refine AW.skip ?_;try simp
 try (refine hK _ rfl ?_;clear hK K)
 by_cases h1:a<b
 ·(repeat refine AW.seq_k fun K hK=>?_);refine AW.rg ?_;simp[h1];try (refine hK _ rfl ?_;clear hK K)
  refine AW.yes ?_ rfl;(repeat refine AW.seq_k fun K hK=>?_);refine AW.rg ?_;simp;try (refine hK _ rfl ?_;clear hK K)
  exact AW.ret (Ag rfl _ (.same _) ⟨by unfold Wd;rw[if_pos h1];rfl,rfl⟩)
 have h1':b≤a:=by omega
 (repeat refine AW.seq_k fun K hK=>?_);refine AW.rg ?_;simp[h1];try (refine hK _ rfl ?_;clear hK K)
 refine AW.no ?_ rfl;refine AW.skip ?_;try simp
 try (refine hK _ rfl ?_;clear hK K)
 by_cases h2:b<a
 ·(repeat refine AW.seq_k fun K hK=>?_);refine AW.rg ?_;simp[h2];try (refine hK _ rfl ?_;clear hK K)
  refine AW.yes ?_ rfl;(repeat refine AW.seq_k fun K hK=>?_);refine AW.rg ?_;simp;try (refine hK _ rfl ?_;clear hK K)
  exact AW.ret (Ag rfl _ (.same _) ⟨by unfold Wd;rw[if_neg h1,if_pos h2];rfl,rfl⟩)
 (repeat refine AW.seq_k fun K hK=>?_);refine AW.rg ?_;simp[h2];try (refine hK _ rfl ?_;clear hK K)
 refine AW.no ?_ rfl;refine AW.skip ?_;try simp
 try (refine hK _ rfl ?_;clear hK K)
 (repeat refine AW.seq_k fun K hK=>?_);refine AW.rg ?_;simp;try (refine hK _ rfl ?_;clear hK K)
 exact AW.ret (Ag rfl _ (.same _) ⟨by unfold Wd;rw[if_neg h1,if_neg h2];rfl,rfl⟩)
theorem V9 (x y:List Nat) (hx:x.length<2^40) (hy:y.length<2^40):Aj Tryz.prog 58 [.sl 1 (Ar x),.sl 1 (Ar y)] Ac.emp fun v m=>v=.int .i64 (Lw x y)∧m=Ac.emp:=by
 refine Ad Tryz.func58 rfl rfl 36 rfl (Nat.le_of_ble_eq_true rfl) ?_;(repeat refine AW.seq_k fun K hK=>?_);refine AW.rg ?_;simp[Ak];try (refine hK _ rfl ?_;clear hK K)
 refine AW.seq_ex (ι:=Unit) (fun _=>[(0,.sl 1 (Ar x)),(1,.sl 1 (Ar y))]) (fun _=>Ac.emp) (fun _=>x.length≤y.length∧Lw x y=Lw [] (y.drop x.length)) ?_ ?_
 ·(repeat refine AW.seq_k fun K hK=>?_);refine AW.rg ?_;simp;try (refine hK _ rfl ?_;clear hK K)
  refine AW.block (AW.loopS (ι:=Nat) (fun i=>[(0,.sl 1 (Ar x)),(1,.sl 1 (Ar y)),(9,.sl 1 (Ar x)),(10,.int .i64 (x.length:Nat)),(11,.int .i64 (i:Nat))]) (fun i=>Ac.emp)
   (fun i=>i≤x.length∧i≤y.length∧Lw x y=Lw (x.drop i) (y.drop i)) (fun i=>x.length-i) 0 ⟨by simp,by simp,by simp⟩ rfl (by simp) ?_)
  rintro i ⟨g1,g2,g3⟩;(repeat refine AW.seq_k fun K hK=>?_);refine AW.rg ?_;simp;try (refine hK _ rfl ?_;clear hK K)
  (repeat refine AW.seq ?_);refine AW.cs (fun hi=>?_) (fun hi=>?_) rfl<;>(try simp at hi)
  ·refine AW.skip ?_;try simp
   try (refine hK _ rfl ?_;clear hK K)
   have w1:=Ap (i+1) (by omega);have hdx:x.drop i=x[i]::x.drop (i+1):=List.drop_eq_getElem_cons hi;rw[hdx]at g3;(repeat refine AW.seq ?_);refine AW.block ?_;(repeat refine AW.seq_k fun K hK=>?_);refine AW.rg ?_;simp[hi];try (refine hK _ rfl ?_;clear hK K)
   (repeat refine AW.seq_k fun K hK=>?_);refine AW.rg ?_;simp;try (refine hK _ rfl ?_;clear hK K)
   (repeat refine AW.seq ?_);refine AW.cs (fun hy2=>?_) (fun hy2=>?_) rfl<;>(try simp at hy2)
   ·rw[List.drop_of_length_le hy2]at g3;(repeat refine AW.seq_k fun K hK=>?_);refine AW.rg ?_;simp;try (refine hK _ rfl ?_;clear hK K)
    exact AW.ret (Ag rfl _ (.same _) ⟨by rw[g3];rfl,rfl⟩)
   ·refine AW.skip ?_;try simp
    try (refine hK _ rfl ?_;clear hK K)
    have hdy:y.drop i=y[i]::y.drop (i+1):=List.drop_eq_getElem_cons hy2;rw[hdy]at g3;have hcm:=Qiz x[i] y[i];obtain⟨a,ha⟩:∃a,x[i]=a:=⟨_,rfl⟩;obtain⟨b,hb⟩:∃b,y[i]=b:=⟨_,rfl⟩;rw[ha,hb]at g3 hcm;simp only[ha];(repeat refine AW.seq_k fun K hK=>?_);refine AW.rg ?_;simp[hy2,hb];try (refine hK _ rfl ?_;clear hK K)
    (repeat refine AW.seq_k fun K hK=>?_);refine AW.rg ?_;simp;try (refine hK _ rfl ?_;clear hK K)
    refine Aa.val hcm ?_;simp;try (refine hK _ rfl ?_;clear hK K)
    by_cases hab:a=b
    ·have hc0:Wd a b=0:=by unfold Wd;rw[if_neg (by omega),if_neg (by omega)]
     have g3':Lw x y=Lw (x.drop (i+1)) (y.drop (i+1)):=by rw[g3,Lw,if_pos hab]
     (repeat refine AW.seq_k fun K hK=>?_);refine AW.rg ?_;simp[hc0];try (refine hK _ rfl ?_;clear hK K)
     refine AW.no ?_ rfl;refine AW.skip ?_;try simp
     try (refine hK _ rfl ?_;clear hK K)
     (repeat refine AW.seq_k fun K hK=>?_);refine AW.rg ?_;simp[-Int.natCast_add,w1];try (refine hK _ rfl ?_;clear hK K)
     exact⟨⟨by omega,by omega,g3'⟩,by omega⟩
    ·have hcv:Wd a b=Lw x y:=by
      rw[g3,Lw,if_neg hab];unfold Wd;by_cases h1:a<b
      ·rw[if_pos h1,if_pos h1]
      ·rw[if_neg h1,if_neg h1,if_pos (by omega)]
     have hc0:¬Wd a b=0:=by
      unfold Wd;by_cases h1:a<b
      ·rw[if_pos h1];decide
      ·rw[if_neg h1,if_pos (by omega)];decide
     (repeat refine AW.seq_k fun K hK=>?_);refine AW.rg ?_;simp[hc0];try (refine hK _ rfl ?_;clear hK K)
     refine AW.yes ?_ rfl;(repeat refine AW.seq_k fun K hK=>?_);refine AW.rg ?_;simp;try (refine hK _ rfl ?_;clear hK K)
     exact AW.ret (Ag rfl _ (.same _) ⟨by rw[←hcv];rfl,rfl⟩)
  ·refine AW.exit ?_;try simp
   have:i=x.length:=by omega
   subst this;rw[List.drop_length]at g3;exact⟨g2,g3⟩
 ·rintro _ ⟨h1,h2⟩;(repeat refine AW.seq_k fun K hK=>?_);refine AW.rg ?_;simp;try (refine hK _ rfl ?_;clear hK K)
  (repeat refine AW.seq ?_);refine AW.cs (fun h3=>?_) (fun h3=>?_) rfl<;>(try simp at h3)
  ·(repeat refine AW.seq_k fun K hK=>?_);refine AW.rg ?_;simp;try (refine hK _ rfl ?_;clear hK K)
   have hd:∃c t,y.drop x.length=c::t:=⟨_,_,List.drop_eq_getElem_cons h3⟩;obtain⟨c,t,hd⟩:=hd;rw[hd]at h2;exact AW.ret (Ag rfl _ (.same _) ⟨by rw[h2];rfl,rfl⟩)
  ·refine AW.skip ?_;try simp
   try (refine hK _ rfl ?_;clear hK K)
   (repeat refine AW.seq_k fun K hK=>?_);refine AW.rg ?_;simp;try (refine hK _ rfl ?_;clear hK K)
   rw[List.drop_of_length_le h3]at h2;exact AW.ret (Ag rfl _ (.same _) ⟨by rw[h2];rfl,rfl⟩)
def Gi (W:List (List Nat)):Prop:=W.Pairwise fun x y=>B0 y x=false
theorem Sc {a b c:List Nat} (h1:B0 b a=false) (h2:B0 c b=false):B0 c a=false:=by
 cases h:B0 c a with
 |false=>rfl
 |true =>
  rcases Hx a b with e|e|e
  ·subst e;rw[h]at h2;cases h2
  ·rw[Gg h e]at h2;cases h2
  ·rw[e]at h1;cases h1
theorem Yd {a b:List Nat} (h:B0 a b=true):B0 b a=false:=by
 cases h':B0 b a with
 |false=>rfl
 |true=>have:=Gg h h';rw[Ij]at this;cases this
theorem Qeg {p1 p2:List (List Nat)} {x:List Nat} (hs:Gi (p1++p2)) (h1:∀y∈p1.getLast?,B0 x y=false) (h2:∀y∈p2,B0 x y=true):Gi (p1++x::p2):=by
 unfold Gi at *;rw[List.pairwise_append]at hs ⊢;obtain⟨s1,s2,s3⟩:=hs;refine⟨s1,List.pairwise_cons.2 ⟨fun y hy=>Yd (h2 y hy),s2⟩,fun y hy z hz=>?_⟩;rcases List.mem_cons.1 hz with rfl | hz
 ·rcases List.eq_nil_or_concat p1 with rfl|⟨p,l,rfl⟩
  ·cases hy
  ·have hl:=h1 l (by simp);rw[List.concat_eq_append]at s1 hy;rcases List.mem_append.1 hy with hy | hy
   ·have:=(List.pairwise_append.1 s1).2.2 y hy l (by simp);exact Sc this hl
   ·simp at hy;subst hy;exact hl
 ·exact s3 y hy z hz
theorem Ql6 (p1:List (List Nat)) (y x:List Nat) (r:List (List Nat)):((Gm (p1++y::x::r)).set (p1.length+1) (.sl 1 (Ar y))).set p1.length (.sl 1 (Ar x))=Gm (p1++x::y::r):=by
 unfold Gm;simp[List.set_append]
theorem Qdp (b:Nat) (W:List (List Nat)) (hl:W.length≤12) (hw:∀x∈W,x.length<2^40):Aj Tryz.prog 126 [.osl b 1 0 W.length,.int .i64 0,.int .i64 (W.length:Nat),.fn 58 []] (Ac.emp.set b ⟨25,1,Gm W⟩) fun v m=>∃W',W'.Perm W∧Gi W'∧v=.tup []∧m=Ac.emp.set b ⟨25,1,Gm W'⟩:=by
 have hone:∀(W:List (List Nat)) c y,Ac.emp.set b ⟨25,1,Gm W⟩ c=some y→∀v∈y.l,v.cells.all AV.one=true:=by
  intro W c y hy v hv;simp only[A9,Ay]at hy;split at hy
  ·cases hy;exact S2 _ v hv
  ·cases hy
 refine Ad Tryz.func126 rfl rfl 53 rfl (Nat.le_of_ble_eq_true rfl) ?_;have w0:IntKind.i64.wrap 1=1:=rfl;(repeat refine AW.seq_k fun K hK=>?_);refine AW.rg ?_;simp[Ak,w0];try (refine hK _ rfl ?_;clear hK K)
 cases W with
 |nil =>
  refine AW.block (AW.loopS (ι:=Unit) (fun _=>[(2,.int .i64 0),(8,.int .i64 1)]) (fun _=>Ac.emp.set b ⟨25,1,Gm []⟩) (fun _=>True) (fun _=>0) () trivial rfl (by simp) ?_);intro _ _;(repeat refine AW.seq_k fun K hK=>?_);refine AW.rg ?_;simp;try (refine hK _ rfl ?_;clear hK K)
  (repeat refine AW.seq ?_);refine AW.no ?_ rfl;refine AW.exit ?_;try simp
  refine Um rfl (hone []) ?_;simp[Gi,oneOrTup]
 |cons x0 t0 =>
  obtain⟨W,hW⟩:∃W,x0::t0=W:=⟨_,rfl⟩;rw[hW]at hl hw ⊢;refine AW.block (AW.loopS (ι:=List (List Nat) × List (List Nat)) (fun z=>[(0,.osl b 1 0 W.length),(1,.int .i64 0),(2,.int .i64 (W.length:Nat)),(3,.fn 58 []),(8,.int .i64 (z.1.length:Nat))]) (fun z=>Ac.emp.set b ⟨25,1,Gm (z.1++z.2)⟩)
   (fun z=>z.1≠[]∧(z.1++z.2).Perm W∧Gi z.1) (fun z=>z.2.length) ([x0],t0) ⟨by simp,by rw[←hW];exact .refl _,by simp[Gi]⟩ (by rw[←hW];rfl) (by simp) ?_)
  rintro⟨pre,post⟩ ⟨g1,g2,g3⟩;simp only at g1 g2 g3;have hlen:=g2.length_eq;rw[List.length_append]at hlen;(repeat refine AW.seq_k fun K hK=>?_);refine AW.rg ?_;simp;try (refine hK _ rfl ?_;clear hK K)
  (repeat refine AW.seq ?_);refine AW.cs (fun hi=>?_) (fun hi=>?_) rfl<;>(try simp at hi)
  ·refine AW.skip ?_;try simp
   try (refine hK _ rfl ?_;clear hK K)
   cases post with
   |nil=>simp at hlen;omega
   |cons x post =>
   simp only[List.length_cons]at hlen;have hxw:x.length<2^40:=hw x (g2.mem_iff.1 (by simp));(repeat refine AW.seq ?_);refine AW.block ?_;(repeat refine AW.seq_k fun K hK=>?_);refine AW.rg ?_;simp;try (refine hK _ rfl ?_;clear hK K)
   have w1:=Ap (pre.length+1) (by omega);refine AW.block (AW.loopS (ι:=List (List Nat) × List (List Nat)) (fun z=>[(0,.osl b 1 0 W.length),(1,.int .i64 0),(2,.int .i64 (W.length:Nat)),(3,.fn 58 []),(8,.int .i64 (pre.length:Nat)),(9,.int .i64 (z.1.length:Nat))]) (fun z=>Ac.emp.set b ⟨25,1,Gm (z.1++x::z.2++post)⟩)
    (fun z=>z.1++z.2=pre∧∀y∈z.2,B0 x y=true) (fun z=>z.1.length) (pre,[]) ⟨by simp,by simp⟩ (by simp) (by simp) ?_)
   rintro⟨p1,p2⟩ ⟨k1,k2⟩;simp only at k1 k2;have hL:(p1++x::p2++post).length=W.length:=by rw[←k1]at hlen;simp at hlen ⊢;omega
   have hfin:(∀y∈p1.getLast?,B0 x y=false)→((p1++x::p2)≠[]∧((p1++x::p2)++post).Perm W∧Gi (p1++x::p2))∧(p1++x::p2).length=pre.length+1:=fun h=>by
    refine⟨⟨by simp,?_,Qeg (by rw[k1];exact g3) h k2⟩,by rw[←k1];simp;omega⟩;refine List.Perm.trans ?_ g2;rw[←k1];simp only[List.append_assoc,List.cons_append];exact List.Perm.append_left _ (List.perm_middle (l₁:=p2) (l₂:=post)).symm
   rcases List.eq_nil_or_concat p1 with rfl|⟨p,y,rfl⟩
   ·obtain⟨f1,f2⟩:=hfin (by simp);simp only[List.nil_append]at f1 f2 ⊢;generalize hLv:Gm (x::p2++post)=Lv;(repeat refine AW.seq_k fun K hK=>?_);refine AW.rdL [b] [0,1,2,3,4,5,6,7,8,9,10,11,12,13,14,15,16] Ds (by simp) ?_;simp;try (refine hK _ rfl ?_;clear hK K)
    refine AW.no ?_ rfl;refine AW.exit ?_;try simp
    (repeat refine AW.seq_k fun K hK=>?_);refine AW.rg ?_;simp[-Int.natCast_add,w1];try (refine hK _ rfl ?_;clear hK K)
    refine⟨x::p2,post,f1,by simp,by rw[←hLv],by rw[f2]⟩
   ·rw[List.concat_eq_append]at *;have hyw:y.length<2^40:=hw y (g2.mem_iff.1 (by rw[←k1];simp));have hcm:=V9 x y hxw hyw;have hcl:=Qgj x y;have e1:(p++[y])++x::p2++post=p++y::x::(p2++post):=by simp
    have hpl:(p++[y]).length=p.length+1:=by simp
    simp only[hpl]at hL ⊢;rw[e1]at hL ⊢;have hsw:=Ql6 p y x (p2++post);have hx1:∀h:p.length+1<(Gm (p++y::x::(p2++post))).length,(Gm (p++y::x::(p2++post)))[p.length+1]=.sl 1 (Ar x):=fun h=>by
     rw[Qfh];congr 2;simp[List.getElem_append]
    have hx2:∀h:p.length<(Gm (p++y::x::(p2++post))).length,(Gm (p++y::x::(p2++post)))[p.length]=.sl 1 (Ar y):=fun h=>by
     rw[Qfh];congr 2;simp[List.getElem_append]
    have hLl:(Gm (p++y::x::(p2++post))).length=W.length:=by rw[Th,hL]
    have hpW:p.length+1<W.length:=by rw[←hL];simp
    have hpW2:p.length<W.length:=by omega
    have w2:IntKind.i64.wrap (((p.length+1:Nat):Int)-1)=(p.length:Int):=by rw[Ok (by omega)];omega
    generalize hLv:Gm (p++y::x::(p2++post))=Lv at hx1 hx2 hLl hsw ⊢;(repeat refine AW.seq_k fun K hK=>?_);refine AW.rdL [b] [0,1,2,3,4,5,6,7,8,9,10,11,12,13,14,15,16] Ds (by simp[-Int.natCast_add]) ?_;simp[-Int.natCast_add,w2,hpW,hpW2,hLl,hx1,hx2];refine⟨58,_,⟨rfl,rfl⟩,?_⟩;refine Aa.val hcm ?_;simp[-Int.natCast_add];try (refine hK _ rfl ?_;clear hK K)
    cases hbf:B0 x y with
    |false =>
     have hlt:¬Lw x y<0:=fun h=>by rw[hcl.1 h]at hbf;cases hbf
     obtain⟨f1,f2⟩:=hfin (by simp[hbf]);(repeat refine AW.seq ?_);refine AW.no ?_ (by simp[-Int.natCast_add];omega);refine AW.exit ?_;try simp[-Int.natCast_add]
     (repeat refine AW.seq_k fun K hK=>?_);refine AW.rg ?_;simp[-Int.natCast_add,w1];try (refine hK _ rfl ?_;clear hK K)
     refine⟨_,post,f1,by simp,?_,by rw[f2]⟩;rw[←hLv];simp
    |true =>
     have hlt:=hcl.2 hbf;have hk:∀z∈y::p2,B0 x z=true:=fun z hz=>by
      rcases List.mem_cons.1 hz with rfl|hz
      ·exact hbf
      ·exact k2 z hz
     refine AW.yes ?_ (by simp[-Int.natCast_add];omega);refine AW.skip ?_;try simp[-Int.natCast_add]
     try (refine hK _ rfl ?_;clear hK K)
     (repeat refine AW.seq ?_);refine AW.block ?_;(repeat refine AW.seq_k fun K hK=>?_);refine AW.rdL [b] [0,1,2,3,4,5,6,7,8,9,10,11,12,13,14,15,16,17] Ds (by simp[-Int.natCast_add]) ?_;simp[-Int.natCast_add,w2,hpW,hpW2,hLl,hx1,hx2];rw[hsw];(repeat refine AW.seq_k fun K hK=>?_);refine AW.rg ?_;simp[-Int.natCast_add,w2];try (refine hK _ rfl ?_;clear hK K)
     refine⟨p,y::p2,⟨by rw[←k1];simp,fun z hz=>?_⟩,by omega,by simp,rfl⟩;exact hk z hz
  ·refine AW.exit ?_;try simp
   have:post=[]:=List.eq_nil_of_length_eq_zero (by omega);subst this;rw[List.append_nil]at g2 ⊢;exact Um rfl (hone pre) ⟨pre,g2,g3,rfl,rfl⟩
set_option maxRecDepth 100000 in
theorem Qdk (x:Nat) (hx:x<256):Aj Tryz.prog 135 [.int .u64 x] Ac.emp fun v m=>(∃y:Int,v=.int .i64 y)∧m=Ac.emp:=by
 refine Ad Tryz.func135 rfl rfl 25 rfl (Nat.le_of_ble_eq_true rfl) ?_;have h1:¬((4294967296:Int)≤(x:Int)):=by omega
 have h2:¬((65536:Int)≤(x:Int)):=by omega
 have h3:¬((256:Int)≤(x:Int)):=by omega
 (repeat refine AW.seq_k fun K hK=>?_);refine AW.rg ?_;simp[Ak];try (refine hK _ rfl ?_;clear hK K)
 (repeat refine AW.seq_k fun K hK=>?_);refine AW.rg ?_;simp[h1];try (refine hK _ rfl ?_;clear hK K)
 refine AW.no ?_ rfl;refine AW.skip ?_;try simp
 try (refine hK _ rfl ?_;clear hK K)
 (repeat refine AW.seq_k fun K hK=>?_);refine AW.rg ?_;simp[h2];try (refine hK _ rfl ?_;clear hK K)
 refine AW.no ?_ rfl;refine AW.skip ?_;try simp
 try (refine hK _ rfl ?_;clear hK K)
 (repeat refine AW.seq_k fun K hK=>?_);refine AW.rg ?_;simp[h3];try (refine hK _ rfl ?_;clear hK K)
 refine AW.no ?_ rfl;refine AW.skip ?_;try simp
 try (refine hK _ rfl ?_;clear hK K)
 have hm:x % 256=x:=Nat.mod_eq_of_lt hx;(repeat refine AW.seq_k fun K hK=>?_);refine AW.rg ?_;simp[hm];try (refine hK _ rfl ?_;clear hK K)
 refine Xp (by kernel_rfl) hx fun t t1 t2=>?_;simp;try (refine hK _ rfl ?_;clear hK K)
 exact AW.ret (Ag rfl _ (.same _) ⟨⟨_,rfl⟩,rfl⟩)
theorem Qhw (x:Nat) (hx:x<256):Aj Tryz.prog 93 [.int .u64 x] Ac.emp fun v m=>(∃y:Int,v=.int .i64 y)∧m=Ac.emp:=by
 refine Ad Tryz.func93 rfl rfl 8 rfl (Nat.le_of_ble_eq_true rfl) ?_;(repeat refine AW.seq_k fun K hK=>?_);refine AW.rg ?_;simp[Ak];try (refine hK _ rfl ?_;clear hK K)
 (repeat refine AW.seq_k fun K hK=>?_);refine AW.no ?_ rfl;refine AW.skip ?_;try simp
 try (refine hK _ rfl ?_;clear hK K)
 (repeat refine AW.seq_k fun K hK=>?_);refine AW.rg ?_;simp;try (refine hK _ rfl ?_;clear hK K)
 refine Aa.pure (Qdk x hx) ?_;rintro _ ⟨y,rfl⟩;simp;try (refine hK _ rfl ?_;clear hK K)
 exact AW.ret (Ag rfl _ (.same _) ⟨⟨y,rfl⟩,rfl⟩)
theorem Qlr (b:Nat) (W:List (List Nat)) (hl:W.length≤12) (hw:∀x∈W,x.length<2^40) (y:Int):Aj Tryz.prog 92 [.osl b 1 0 W.length,.int .i64 0,.int .i64 (W.length:Nat),.int .i64 y,.fn 58 []] (Ac.emp.set b ⟨25,1,Gm W⟩) fun v m=>∃W',W'.Perm W∧Gi W'∧v=.tup []∧m=Ac.emp.set b ⟨25,1,Gm W'⟩:=by
 have hc:=Qdp b W hl hw;have hone:∀(W:List (List Nat)) c y,Ac.emp.set b ⟨25,1,Gm W⟩ c=some y→∀v∈y.l,v.cells.all AV.one=true:=by
  intro W c y hy v hv;simp only[A9,Ay]at hy;split at hy
  ·cases hy;exact S2 _ v hv
  ·cases hy
 refine Ad Tryz.func92 rfl rfl 148 rfl (Nat.le_of_ble_eq_true rfl) ?_;have w0:IntKind.i64.wrap (W.length:Int)=(W.length:Int):=wi (by omega);have w1:(W.length:Int)≤12:=by omega
 (repeat refine AW.seq_k fun K hK=>?_);refine AW.rg ?_;simp[Ak];try (refine hK _ rfl ?_;clear hK K)
 (repeat refine AW.seq_k fun K hK=>?_);refine AW.rg ?_;simp;try (refine hK _ rfl ?_;clear hK K)
 refine AW.block (AW.loopS (ι:=Unit) (fun _=>[(0,.osl b 1 0 W.length),(1,.int .i64 0),(2,.int .i64 (W.length:Nat)),(3,.int .i64 y),(4,.fn 58 [])]) (fun _=>Ac.emp.set b ⟨25,1,Gm W⟩) (fun _=>True) (fun _=>0) () trivial rfl (by simp) ?_);intro _ _;(repeat refine AW.seq ?_);refine AW.block ?_;(repeat refine AW.seq_k fun K hK=>?_);refine AW.rg ?_;simp[w0];try (refine hK _ rfl ?_;clear hK K)
 (repeat refine AW.seq_k fun K hK=>?_);refine AW.rg ?_;simp[w1];try (refine hK _ rfl ?_;clear hK K)
 refine AW.yes ?_ rfl;(repeat refine AW.seq_k fun K hK=>?_);refine AW.rg ?_;simp;try (refine hK _ rfl ?_;clear hK K)
 refine Aa.whole (fun _ h=>h) hc ?_;rintro _ g ⟨W',p1,p2,rfl,rfl⟩;simp;try (refine hK _ rfl ?_;clear hK K)
 exact AW.ret (B9 rfl (hone W') ⟨W',p1,p2,rfl,rfl⟩)
theorem Qgu (b:Nat) (W:List (List Nat)) (hl:W.length≤12) (hw:∀x∈W,x.length<2^40):Aj Tryz.prog 57 [.osl b 1 0 W.length,.fn 58 []] (Ac.emp.set b ⟨25,1,Gm W⟩) fun v m=>∃W',W'.Perm W∧Gi W'∧v=.tup []∧m=Ac.emp.set b ⟨25,1,Gm W'⟩:=by
 have hc:=Qlr b W hl hw;have hone:∀(W:List (List Nat)) c y,Ac.emp.set b ⟨25,1,Gm W⟩ c=some y→∀v∈y.l,v.cells.all AV.one=true:=by
  intro W c y hy v hv;simp only[A9,Ay]at hy;split at hy
  ·cases hy;exact S2 _ v hv
  ·cases hy
 have hsl:=Qhw W.length (by omega);have hmod:W.length % 18446744073709551616=W.length:=Nat.mod_eq_of_lt (by omega);refine Ad Tryz.func57 rfl rfl 14 rfl (Nat.le_of_ble_eq_true rfl) ?_;(repeat refine AW.seq_k fun K hK=>?_);refine AW.rg ?_;simp[Ak];try (refine hK _ rfl ?_;clear hK K)
 (repeat refine AW.seq_k fun K hK=>?_);refine AW.rg ?_;simp[hmod];try (refine hK _ rfl ?_;clear hK K)
 refine Aa.pure hsl ?_;rintro _ ⟨y,rfl⟩;simp;refine Aa.whole (fun _ h=>h) (hc y) ?_;rintro _ g ⟨W',p1,p2,rfl,rfl⟩;simp;exact Um rfl (hone W') ⟨W',p1,p2,rfl,rfl⟩
theorem Qbr (x y:List Nat) (hx:x.length<2^40) (hy:y.length<2^40):Aj Tryz.prog 56 [.sl 1 (Ar x),.sl 1 (Ar y)] Ac.emp fun v m=>v=.bool (decide (x=y))∧m=Ac.emp:=by
 refine Ad Tryz.func56 rfl rfl 26 rfl (Nat.le_of_ble_eq_true rfl) ?_;(repeat refine AW.seq_k fun K hK=>?_);refine AW.rg ?_;simp[Ak];try (refine hK _ rfl ?_;clear hK K)
 by_cases hl:x.length=y.length;rotate_left
 ·have hne:¬x=y:=fun h=>hl (by rw[h]);(repeat refine AW.seq_k fun K hK=>?_);refine AW.rg ?_;simp[hl];try (refine hK _ rfl ?_;clear hK K)
  refine AW.yes ?_ rfl;(repeat refine AW.seq_k fun K hK=>?_);refine AW.rg ?_;simp;try (refine hK _ rfl ?_;clear hK K)
  exact AW.ret (Ag rfl _ (.same _) ⟨by simp[hne,oneOrTup],rfl⟩)
 (repeat refine AW.seq_k fun K hK=>?_);refine AW.rg ?_;simp[hl];try (refine hK _ rfl ?_;clear hK K)
 refine AW.no ?_ rfl;refine AW.skip ?_;try simp
 try (refine hK _ rfl ?_;clear hK K)
 refine AW.seq_ex (ι:=Unit) (fun _=>[]) (fun _=>Ac.emp) (fun _=>x=y) ?_ ?_
 ·(repeat refine AW.seq_k fun K hK=>?_);refine AW.rg ?_;simp;try (refine hK _ rfl ?_;clear hK K)
  refine AW.block (AW.loopS (ι:=Nat) (fun i=>[(0,.sl 1 (Ar x)),(1,.sl 1 (Ar y)),(12,.int .i64 (x.length:Nat)),(13,.int .i64 (i:Nat))]) (fun i=>Ac.emp)
   (fun i=>i≤x.length∧x.take i=y.take i) (fun i=>x.length-i) 0 ⟨by simp,by simp⟩ rfl (by simp) ?_)
  rintro i ⟨g1,g2⟩;(repeat refine AW.seq_k fun K hK=>?_);refine AW.rg ?_;simp;try (refine hK _ rfl ?_;clear hK K)
  (repeat refine AW.seq ?_);refine AW.cs (fun hi=>?_) (fun hi=>?_) rfl<;>(try simp at hi)
  ·refine AW.skip ?_;try simp
   try (refine hK _ rfl ?_;clear hK K)
   have w1:=Ap (i+1) (by omega);have hi2:i<y.length:=by omega
   (repeat refine AW.seq ?_);refine AW.block ?_;(repeat refine AW.seq_k fun K hK=>?_);refine AW.rg ?_;simp;try (refine hK _ rfl ?_;clear hK K)
   (repeat refine AW.seq_k fun K hK=>?_);refine AW.rd [0,1,2,3,4,5,6,7,8] Ds ?_;simp[hi,hi2];try (refine hK _ rfl ?_;clear hK K)
   by_cases he:x[i]=y[i]
   ·refine AW.no ?_ (by simp[he]);refine AW.skip ?_;try simp
    try (refine hK _ rfl ?_;clear hK K)
    (repeat refine AW.seq_k fun K hK=>?_);refine AW.rg ?_;simp[-Int.natCast_add,w1];try (refine hK _ rfl ?_;clear hK K)
    refine⟨⟨by omega,?_⟩,by omega⟩;rw[Jw hi he,Jw hi2 rfl,g2]
   ·refine AW.yes ?_ (by simp[he]);(repeat refine AW.seq_k fun K hK=>?_);refine AW.rg ?_;simp;try (refine hK _ rfl ?_;clear hK K)
    have hne:¬x=y:=fun h=>he (by simp[h]);exact AW.ret (Ag rfl _ (.same _) ⟨by simp[hne,oneOrTup],rfl⟩)
  ·refine AW.exit ?_;try simp
   have:i=x.length:=by omega
   subst this;rw[List.take_length,hl,List.take_length]at g2;exact g2
 ·rintro _ h;(repeat refine AW.seq_k fun K hK=>?_);refine AW.rg ?_;simp;try (refine hK _ rfl ?_;clear hK K)
  exact AW.ret (Ag rfl _ (.same _) ⟨by simp[h,oneOrTup],rfl⟩)
theorem Qjx (x y:List Nat) (hx:x.length<2^40) (hy:y.length<2^40):Aj Tryz.prog 55 [.sl 1 (Ar x),.rptr [.sl 1 (Ar y)]] Ac.emp fun v m=>v=.bool (decide (x=y))∧m=Ac.emp:=by
 have hc:=Qbr x y hx hy;refine Ad Tryz.func55 rfl rfl 7 rfl (Nat.le_of_ble_eq_true rfl) ?_;(repeat refine AW.seq_k fun K hK=>?_);refine AW.rg ?_;simp[Ak];try (refine hK _ rfl ?_;clear hK K)
 (repeat refine AW.seq_k fun K hK=>?_);refine AW.rg ?_;simp;try (refine hK _ rfl ?_;clear hK K)
 refine Aa.val hc ?_;simp;try (refine hK _ rfl ?_;clear hK K)
 exact AW.ret (Ag rfl _ (.same _) ⟨rfl,rfl⟩)
theorem Y3 (W:List (List Nat)) (y:List Nat) (hl:W.length<2^40) (hw:∀x∈W,x.length<2^40) (hy:y.length<2^40):Aj Tryz.prog 91 [.sl 1 (Gm W),.fn 55 [.rptr [.sl 1 (Ar y)]]] Ac.emp fun v m=>(∃t:Int,v=.int .i64 t∧(0≤t↔y∈W))∧m=Ac.emp:=by
 refine Ad Tryz.func91 rfl rfl 19 rfl (Nat.le_of_ble_eq_true rfl) ?_;(repeat refine AW.seq_k fun K hK=>?_);refine AW.rg ?_;simp[Ak];try (refine hK _ rfl ?_;clear hK K)
 refine AW.seq_ex (ι:=Unit) (fun _=>[]) (fun _=>Ac.emp) (fun _=>y ∉ W) ?_ ?_
 ·(repeat refine AW.seq_k fun K hK=>?_);refine AW.rg ?_;simp;try (refine hK _ rfl ?_;clear hK K)
  refine AW.block (AW.loopS (ι:=Nat) (fun i=>[(0,.sl 1 (Gm W)),(1,.fn 55 [.rptr [.sl 1 (Ar y)]]),(7,.int .i64 (W.length:Nat)),(8,.int .i64 (i:Nat))]) (fun i=>Ac.emp)
   (fun i=>i≤W.length∧∀k,(h:k<W.length)→k<i→W[k]≠y) (fun i=>W.length-i) 0 ⟨by simp,by omega⟩ rfl (by simp) ?_)
  rintro i ⟨g1,g2⟩;(repeat refine AW.seq_k fun K hK=>?_);refine AW.rg ?_;simp;try (refine hK _ rfl ?_;clear hK K)
  (repeat refine AW.seq ?_);refine AW.cs (fun hi=>?_) (fun hi=>?_) rfl<;>(try simp at hi)
  ·refine AW.skip ?_;try simp
   try (refine hK _ rfl ?_;clear hK K)
   have w1:=Ap (i+1) (by omega);have hc:=Qjx W[i] y (hw _ (List.getElem_mem hi)) hy;(repeat refine AW.seq ?_);refine AW.block ?_;(repeat refine AW.seq_k fun K hK=>?_);refine AW.rg ?_;simp;try (refine hK _ rfl ?_;clear hK K)
   (repeat refine AW.seq_k fun K hK=>?_);refine AW.rg ?_;simp[hi];try (refine hK _ rfl ?_;clear hK K)
   refine⟨55,_,⟨rfl,rfl⟩,?_⟩;refine Aa.val hc ?_;simp;try (refine hK _ rfl ?_;clear hK K)
   (repeat refine AW.seq ?_);refine AW.cs (fun he=>?_) (fun he=>?_) rfl<;>(try simp at he)
   ·(repeat refine AW.seq_k fun K hK=>?_);refine AW.rg ?_;simp;try (refine hK _ rfl ?_;clear hK K)
    exact AW.ret (Ag rfl _ (.same _) ⟨⟨i,rfl,⟨fun _=>(by rw[←he];exact List.getElem_mem hi),fun _=>(by omega)⟩⟩,rfl⟩)
   ·refine AW.skip ?_;try simp
    try (refine hK _ rfl ?_;clear hK K)
    (repeat refine AW.seq_k fun K hK=>?_);refine AW.rg ?_;simp[-Int.natCast_add,w1];try (refine hK _ rfl ?_;clear hK K)
    refine⟨⟨by omega,fun k h hk=>?_⟩,by omega⟩;rcases Nat.lt_or_ge k i with h1 | h1
    ·exact g2 k h h1
    ·have:k=i:=by omega
     subst this;exact he
  ·refine AW.exit ?_;try simp
   intro hm;obtain⟨k,hk,rfl⟩:=List.mem_iff_getElem.1 hm;exact g2 k hk (by omega) rfl
 ·rintro _ h;(repeat refine AW.seq_k fun K hK=>?_);refine AW.rg ?_;simp;try (refine hK _ rfl ?_;clear hK K)
  exact AW.ret (Ag rfl _ (.same _) ⟨⟨-1,rfl,⟨fun h=>(by omega),fun h'=>absurd h' h⟩⟩,rfl⟩)
theorem Sr (W:List (List Nat)) (y:List Nat) (hl:W.length<2^40) (hw:∀x∈W,x.length<2^40) (hy:y.length<2^40):Aj Tryz.prog 54 [.sl 1 (Gm W),.fn 55 [.rptr [.sl 1 (Ar y)]]] Ac.emp fun v m=>v=.bool (decide (y∈W))∧m=Ac.emp:=by
 have hc:=Y3 W y hl hw hy;refine Ad Tryz.func54 rfl rfl 9 rfl (Nat.le_of_ble_eq_true rfl) ?_;(repeat refine AW.seq_k fun K hK=>?_);refine AW.rg ?_;simp[Ak];try (refine hK _ rfl ?_;clear hK K)
 (repeat refine AW.seq_k fun K hK=>?_);refine AW.rg ?_;simp;try (refine hK _ rfl ?_;clear hK K)
 refine Aa.pure hc ?_;rintro _ ⟨t,rfl,ht⟩;simp;try (refine hK _ rfl ?_;clear hK K)
 exact AW.ret (Ag rfl _ (.same _) ⟨by show AV.bool (decide (0≤t))=_;rw[decide_eq_decide.2 ht],rfl⟩)
end Go.Av
end
section
namespace Go.Av
open Go.Proofs Go.Lam
structure It (n bg bf bc:Nat) (es:List RE) (A:List Nat) (X:Ac) (z:GSt):Prop where
 game:Dp z.M n bg bf bc es z.fl z.bs z.cl
 inv:Inv n (Ae es) A (En z.fl) (Dm z.cl)
 ext:∀k x,X k=some x→z.M k=some x
 off:∀k,X k≠none→k ∉ Bf bg bf bc z.bs
 only:∀k,z.M k≠none→X k≠none∨k∈Bf bg bf bc z.bs
section
variable {n bg bf bc:Nat} {es:List RE} {A:List Nat} {X M g':Ac} {fl fl':List Nat} {bs bs':List (Option Nat)} {cl cl':List (List Nat)}
theorem It.of (h:Jf n bg bf bc es A M fl bs cl):It n bg bf bc es A Ac.emp ⟨M,fl,bs,cl⟩ :=
 ⟨h.mem,h.inv,fun k x hx=>(by cases hx),fun k hk=>absurd rfl hk,fun k hk=>.inr (h.only k hk)⟩
theorem It.gam (h:It n bg bf bc es A X ⟨M,fl,bs,cl⟩):Jf n bg bf bc es A (M.only (Bf bg bf bc bs)) fl bs cl :=
 ⟨h.game.congr fun k hk=>B8 hk,fun k hk=>by
  rcases Decidable.em (k∈Bf bg bf bc bs)with hm|hm
  ·exact hm
  ·exact absurd (B1 hm) hk,h.inv⟩
theorem It.back (h:It n bg bf bc es A X ⟨M,fl,bs,cl⟩) (hG':Jf n bg bf bc es A g' fl' bs' cl') (hnew:∀b,g' b≠none→b∈Bf bg bf bc bs∨M b=none):It n bg bf bc es A X ⟨M.back (Bf bg bf bc bs) g',fl',bs',cl'⟩:=by
 have hN:∀k,X k≠none→k ∉ Bf bg bf bc bs':=fun k hk hm=>by
  rcases hnew k (hG'.mem.dom hm)with h'|h'
  ·exact h.off k hk h'
  ·cases hx:X k with
   |none=>exact hk hx
   |some x=>have:=h.ext k x hx;simp only at this;rw[h']at this;cases this
 refine⟨hG'.mem.congr fun k hk=>?_,hG'.inv,fun k x hx=>?_,hN,fun k hk=>?_⟩
 ·simp only[Ac.back];cases h:g' k with
  |some x=>rfl
  |none=>exact absurd h (hG'.mem.dom hk)
 ·have h1:g' k=none:=by
   cases h':g' k with
   |none=>rfl
   |some y=>exact absurd (hG'.only k (by rw[h'];simp)) (hN k (by rw[hx];simp))
  simp only[Ac.back];rw[h1];simp only;rw[if_neg (h.off k (by rw[hx];simp))];exact h.ext k x hx
 ·simp only[Ac.back]at hk;cases h':g' k with
  |some x=>exact .inr (hG'.only k (by rw[h'];simp))
  |none =>
   rw[h']at hk;simp only at hk;by_cases hm:k∈Bf bg bf bc bs
   ·rw[if_pos hm]at hk;exact absurd rfl hk
   ·rw[if_neg hm]at hk;exact .inl ((h.only k hk).resolve_right hm)
theorem It.set (h:It n bg bf bc es A X ⟨M,fl,bs,cl⟩) {b:Nat} (y:Fi) (hb:X b≠none∨M b=none):It n bg bf bc es A (X.set b y) ⟨M.set b y,fl,bs,cl⟩:=by
 have hbg:b ∉ Bf bg bf bc bs:=fun hm=>by
  rcases hb with hb|hb
  ·exact h.off b hb hm
  ·exact h.game.dom hm hb
 refine⟨h.game.congr fun k hk=>Ac.set_other _ _ (fun e=>hbg (e ▸ hk)),h.inv,fun k x hx=>?_,fun k hk=>?_,fun k hk=>?_⟩
 ·by_cases e:k=b
  ·subst e;simp only;rw[Ac.set_same]at hx ⊢;exact hx
  ·simp only;rw[Ac.set_other _ _ e]at hx ⊢;exact h.ext k x hx
 ·by_cases e:k=b
  ·rw[e];exact hbg
  ·rw[Ac.set_other _ _ e]at hk;exact h.off k hk
 ·by_cases e:k=b
  ·rw[e,Ac.set_same];simp
  ·simp only at hk;rw[Ac.set_other _ _ e]at hk ⊢;exact h.only k hk
theorem It.del (h:It n bg bf bc es A X ⟨M,fl,bs,cl⟩) {b:Nat} (hb:X b≠none):It n bg bf bc es A (X.del b) ⟨M.del b,fl,bs,cl⟩:=by
 have hbg:b ∉ Bf bg bf bc bs:=h.off b hb;refine⟨h.game.congr fun k hk=>Ac.del_other _ (fun e=>hbg (e ▸ hk)),h.inv,fun k x hx=>?_,fun k hk=>?_,fun k hk=>?_⟩
 ·by_cases e:k=b
  ·subst e;rw[Ac.del_same]at hx;cases hx
  ·simp only;rw[Ac.del_other _ e]at hx ⊢;exact h.ext k x hx
 ·by_cases e:k=b
  ·rw[e];exact hbg
  ·rw[Ac.del_other _ e]at hk;exact h.off k hk
 ·by_cases e:k=b
  ·rw[e]at hk;simp only at hk;rw[Ac.del_same]at hk;exact absurd rfl hk
  ·simp only at hk;rw[Ac.del_other _ e]at hk ⊢;exact h.only k hk
theorem It.ones (h:It n bg bf bc es A X ⟨M,fl,bs,cl⟩) (hX:∀c y,X c=some y→∀v∈y.l,v.cells.all AV.one=true):∀c y,M c=some y→∀v∈y.l,v.cells.all AV.one=true:=by
 intro c y hy v hv;rcases h.only c (by simp only;rw[hy];simp)with hc | hc
 ·cases hx:X c with
  |none=>exact absurd hx hc
  |some x =>
   have:=h.ext c x hx;simp only at this;rw[hy]at this;cases this;exact hX c y hx v hv
 ·rcases Bi.1 hc with rfl|rfl|rfl|⟨i,hi⟩
  ·have:=h.game.g;simp only at this;rw[this]at hy;cases hy;simp only[C6,List.mem_singleton]at hv;subst hv;rfl
  ·have:=h.game.f;simp only at this;rw[this]at hy;cases hy;exact C3 _ v hv
  ·have:=h.game.c;simp only at this;rw[this]at hy;cases hy;exact J3 _ _ v hv
  ·have:=h.game.row i c hi;simp only at this;rw[this]at hy;cases hy;exact C3 _ v hv
end
def llR (o:Option Nat) (W:List (List Nat)):AV:=match o with
 |none=>.nil
 |some b=>.osl b 1 0 W.length
def Sl (b0:Nat) (al:List Bool) (o:Option Nat) (W:List (List Nat)):Ac:=match o with
 |none=>Ac.emp.set b0 ⟨72,12,[.agg (bools al)]⟩
 |some b=>(Ac.emp.set b0 ⟨72,12,[.agg (bools al)]⟩).set b ⟨25,1,Gm W⟩
theorem Qlg {b0:Nat} {al:List Bool} {o:Option Nat} {W:List (List Nat)}:∀c y,Sl b0 al o W c=some y→∀v∈y.l,v.cells.all AV.one=true:=by
 have h1:∀c y,(Ac.emp.set b0 ⟨72,12,[.agg (bools al)]⟩) c=some y→∀v∈y.l,v.cells.all AV.one=true:=by
  intro c y hy v hv;simp only[A9,Ay]at hy;split at hy
  ·cases hy;simp only[List.mem_singleton]at hv;subst hv;unfold bools AV.cells;simp only[List.all_map,List.all_eq_true];intro x _;rfl
  ·cases hy
 intro c y hy;cases o with
 |none=>exact h1 c y hy
 |some b =>
  unfold Sl at hy;simp only[A9 (m:=Ac.set _ _ _)]at hy;by_cases e:c=b
  ·rw[if_pos e]at hy;cases hy;exact S2 _
  ·rw[if_neg e]at hy;exact h1 c y hy
def Dr (n:Nat) (L:List Ed):List Bool:=(List.range 12).map fun j=>decide (j<n)&&B6 L j
@[simp] theorem V8 (n:Nat) (L:List Ed):(Dr n L).length=12:=by simp[Dr]
theorem Nq (n:Nat) (L:List Ed) {j:Nat} (h:j<(Dr n L).length):(Dr n L)[j]=(decide (j<n)&&B6 L j):=by simp[Dr]
theorem Qbs (n:Nat) (L:List Ed) (a b:Nat):((Dr n L).set a false).set b false=Dr n (L++[(a,b)]):=by
 refine List.ext_getElem (by simp) fun j h1 h2=>?_;rw[List.getElem_set,List.getElem_set,Nq,Nq];have:B6 (L++[(a,b)]) j=(B6 L j&&!(a==j || b==j)):=by simp[B6]
 rw[this];by_cases e1:b=j
 ·simp[e1]
 ·by_cases e2:a=j
  ·simp[e2]
  ·have f1:(a==j)=false:=by simpa using e2
   have f2:(b==j)=false:=by simpa using e1
   rw[if_neg e1,if_neg e2,f1,f2];simp
def I2 (j:Nat):List Bool:=(List.range 12).map fun k=>decide (k<j)
theorem Il {l:List Bool} {j:Nat} (v:Bool) (h:j<12) (hl:l.length=12):B7 12 1 (.agg (bools l)) (.bool v) j=.agg (bools (l.set j v)):=by
 unfold B7;rw[if_neg (by omega)];show AV.agg ((bools l).take j++[.bool v]++(bools l).drop (j+1))=_
 rw[←F6,List.set_eq_take_append_cons_drop,if_pos (by simp[hl];exact h)];simp
@[simp] theorem Qok (j:Nat):(I2 j).length=12:=by simp[I2]
theorem Qhb {j:Nat} (h:j<12):(I2 j).set j true=I2 (j+1):=by
 refine List.ext_getElem (by simp) fun k h1 h2=>?_;rw[List.getElem_set];have g1:∀(i:Nat) (h:k<(I2 i).length),(I2 i)[k]=decide (k<i):=fun i h=>by simp[I2]
 rw[g1,g1];by_cases e:j=k
 ·simp[e]
 ·rw[if_neg e];refine decide_eq_decide.2 ⟨fun h=>by omega,fun h=>?_⟩;rcases Nat.lt_or_ge k j with h' | h'
  ·exact h'
  ·exact absurd (by omega) e
theorem Qh8 (n:Nat):I2 n=Dr n []:=by unfold I2 Dr B6;simp
def T5 (n:Int) (es:List RE):List (List Nat):=if Dd n es=true then Rm n.toNat ((Gq n es).map (Ae es)) else []
def fC (n:Nat) (L:List Ed) (i:Nat):List (List Nat):=(L.take i).foldl (fun o e=>Od o (Ho n L e)) []
theorem Qi5 (n:Nat) (L:List Ed) (e:Ed):(Ho n L e).length≤n:=by
 have:=List.length_filter_le (Hm n L e) (List.range n);simpa[Ho]using this
theorem Qje (n:Nat) (L:List Ed) (i:Nat):∀x∈fC n L i,x.length≤n:=fun x hx=>by
 rcases((Kw (Ho n L) (L.take i) [] (by simp)).2 x).1 hx with h|h
 ·cases h
 ·obtain⟨e,_,rfl⟩:=List.mem_map.1 h;exact Qi5 n L e
theorem Qaw (f:Ed→List Nat):∀(s:List Ed) (o:List (List Nat)),(s.foldl (fun o e=>Od o (f e)) o).length≤o.length+s.length
 |[],o=>by simp
 |a::s,o=>by
  have h1:=Qaw f s (Od o (f a));have h2:(Od o (f a)).length≤o.length+1:=by unfold Od;split<;>simp
  simp only[List.foldl_cons,List.length_cons];omega
theorem Qj1 (n:Nat) (L:List Ed) (i:Nat):(fC n L i).length≤i:=by
 have h1:=Qaw (Ho n L) (L.take i) [];unfold fC;simp at h1;omega
theorem Qf0 {b0:Nat} {al al':List Bool} {o:Option Nat} {W:List (List Nat)} (h:∀b,o=some b→b≠b0):(Sl b0 al o W).set b0 ⟨72,12,[.agg (bools al')]⟩=Sl b0 al' o W:=by
 cases o with
 |none=>funext c;simp only[Sl,A9];split<;>rfl
 |some b =>
  have:=h b rfl
  funext c
  simp only[Sl,A9];by_cases e:c=b0
  ·rw[if_pos e,if_neg (fun e'=>this (e'.symm.trans e)),if_pos e]
  ·rw[if_neg e,if_neg e,if_neg e]
theorem X2 {b0 b:Nat} {al:List Bool} {W:List (List Nat)}:(Sl b0 al none []).set b ⟨25,1,Gm W⟩=Sl b0 al (some b) W:=rfl
theorem Xa {b0 b b':Nat} {al:List Bool} {W W':List (List Nat)} (h:b≠b0):((Sl b0 al (some b) W).del b).set b' ⟨25,1,Gm W'⟩=Sl b0 al (some b') W':=by
 funext c
 simp only[Sl,A9,Ac.del];by_cases e:c=b'
 ·rw[if_pos e,if_pos e]
 ·rw[if_neg e,if_neg e];by_cases e2:c=b
  ·rw[if_pos e2,if_neg (fun e'=>h (e2.symm.trans e'))];rfl
  ·rw[if_neg e2,if_neg e2]
theorem Jn {b0 b:Nat} {al:List Bool} {W:List (List Nat)}:Sl b0 al (some b) W b=some ⟨25,1,Gm W⟩:=by simp[Sl]
theorem Qa3 {b0:Nat} {al:List Bool} {o:Option Nat} {W:List (List Nat)} (h:∀b,o=some b→b≠b0):Sl b0 al o W b0=some ⟨72,12,[.agg (bools al)]⟩:=by
 cases o with
 |none=>simp[Sl]
 |some b=>have:=h b rfl;simp[Sl,Ne.symm this]
theorem Zy (W:List (List Nat)) (x:List Nat):Gm W++[.sl 1 (Ar x)]=Gm (W++[x]):=by simp[Gm]
theorem Qbq {o:Option Nat} {W:List (List Nat)} {M M':Ac} (h0:o=none→W=[]) (h1:∀b,o=some b→M b=some ⟨25,1,Gm W⟩∧M' b=none):B2 M M' (llR o W) (.sl 1 (Gm W)):=by
 cases o with
 |none=>rw[h0 rfl];exact .nilsl 1
 |some b =>
  obtain⟨h2,h3⟩:=h1 b rfl;exact L8.view (ob:=[b]) (ty:=25) (.inr ⟨b,rfl,by unfold llR;rw[Th],h2⟩) (by simpa using h3)
def rC (n:Nat) (L:List Ed) (k i:Nat):List (List Nat):=fC n L k++((List.range i).filter (B6 L)).map Fl
theorem Qo0 (n:Nat) (L:List Ed) (k i:Nat):rC n L k (i+1)=rC n L k i++if B6 L i=true then [[i]] else []:=by
 unfold rC;rw[List.range_succ,List.filter_append,List.map_append,List.append_assoc];cases h:B6 L i<;>simp[h,Fl]
theorem Qtz (n:Nat) (L:List Ed) (k i:Nat):(rC n L k i).length≤k+i:=by
 have h1:=Qj1 n L k;have h2:=List.length_filter_le (B6 L) (List.range i);unfold rC;simp at h2 ⊢;omega
theorem Qn7 {n:Nat} {L:List Ed} (hn:1≤n):Jh n L≠[]:=by
 unfold Jh;intro h;obtain⟨h1,h2⟩:=List.append_eq_nil_iff.1 h;cases L with
 |nil =>
  have:0∈(List.range n).filter (B6 []):=by simp[B6];omega
  rw[List.map_eq_nil_iff.1 h2]at this;cases this
 |cons e L =>
  have:=((Kw (Ho n (e::L)) (e::L) [] (by simp)).2 (Ho n (e::L) e)).2 (.inr (by simp));rw[h1]at this;cases this
theorem Qdx (n:Int) (es:List RE) (hb:Vv es) (h8:Dd n es=true→n≤8):Aj Tryz.prog 22 [.int .i64 n,Bb es] Ac.emp fun v m=>v=.tup [.sl 1 (Gm (T5 n es)),Cz n es]∧m=Ac.emp:=by
 have hc:=P4 n es hb;refine Ad Tryz.func22 rfl rfl 83 rfl (Nat.le_of_ble_eq_true rfl) ?_;unfold Bb at hc ⊢;(repeat refine AW.seq_k fun K hK=>?_);refine AW.rg ?_;simp[Ak];try (refine hK _ rfl ?_;clear hK K)
 (repeat refine AW.seq_k fun K hK=>?_);refine AW.rg ?_;simp;try (refine hK _ rfl ?_;clear hK K)
 refine Aa.val hc ?_;by_cases hk:Dd n es=true;rotate_left
 ·have e1:Cz n es=.int .i64 1:=by unfold Cz;rw[if_neg hk]
  have e2:T5 n es=[]:=by unfold T5;rw[if_neg hk]
  simp[e1];try (refine hK _ rfl ?_;clear hK K)
  (repeat refine AW.seq_k fun K hK=>?_);refine AW.rg ?_;simp;try (refine hK _ rfl ?_;clear hK K)
  refine AW.yes ?_ rfl;(repeat refine AW.seq_k fun K hK=>?_);refine AW.rg ?_;simp;try (refine hK _ rfl ?_;clear hK K)
  exact AW.ret (Ah [.sl 1 (Gm []),.int .i64 1] rfl ⟨.nilsl 1,.same _,trivial⟩ ⟨by rw[e2,e1];rfl,rfl⟩)
 have e1:Cz n es=.int .i64 0:=by unfold Cz;rw[if_pos hk]
 have h8':=h8 hk;have eA:Gq n es=Bx n.toNat (Ae es) [] (List.range es.length):=by unfold Gq;rw[if_pos hk]
 have e2:T5 n es=Rm n.toNat ((Gq n es).map (Ae es)):=by unfold T5;rw[if_pos hk]
 obtain⟨⟨h1,h2,h3⟩,_⟩:=E2 hk;have hok:=Mt hk;have hle:=S3 hk;have hlt:=fun k=>Qfn (n:=n) (es:=es) (k:=k);obtain⟨N,rfl⟩:=Int.eq_ofNat_of_zero_le (show 0≤n by omega);simp only[Int.toNat_natCast]at hok eA e2;have hsp:Ba N ((Gq (N:Nat) es).map (Ae es)):=by rw[eA];exact D1 (by simp) (hok.at fun k hk=>by simpa using hk) (Ba.nil N)
 have hall:=X3 es h3;have hpl:=Qt N es (by omega) hok (List.range es.length) (by simp) (by simp;omega);rw[←eA]at hpl;clear eA;generalize Gq (N:Nat) es=A at *;have hL:∀e∈A.map (Ae es),C0 N e:=fun e he=>by
  obtain⟨k,hk,rfl⟩:=List.mem_map.1 he;exact(hok k (hlt k hk)).2.2
 unfold Bb at hall hpl;simp[e1];try (refine hK _ rfl ?_;clear hK K)
 (repeat refine AW.seq_k fun K hK=>?_);refine AW.rg ?_;simp;try (refine hK _ rfl ?_;clear hK K)
 refine AW.no ?_ rfl;refine AW.skip ?_;try simp
 try (refine hK _ rfl ?_;clear hK K)
 (repeat refine AW.seq_k fun K hK=>?_);refine AW.rg ?_;simp;try (refine hK _ rfl ?_;clear hK K)
 refine Aa.val hall ?_;simp;refine Aa.news hpl ?_;rintro _ g ⟨bg,bf,bc,fl,bs,cl,rfl,hG⟩ _;have hg:Ac.back Ac.emp [] g=g:=by funext k;simp only[Ac.back,Ay];cases g k<;>simp
 rw[hg];simp;try (refine hK _ rfl ?_;clear hK K)
 (repeat refine AW.seq_k fun K hK=>?_);refine AW.rg ?_;simp;try (refine hK _ rfl ?_;clear hK K)
 (repeat refine AW.seq_k fun K hK=>?_);refine AW.rg ?_;simp;try (refine hK _ rfl ?_;clear hK K)
 refine Af.intro fun b0 hb0=>?_;refine hK _ rfl ?_;clear hK K;have X1:It N bg bf bc es A (Sl b0 (I2 0) none []) ⟨g.set b0 ⟨72,12,[.agg (bools (I2 0))]⟩,fl,bs,cl⟩:=(It.of hG).set _ (.inr hb0);refine AW.seq_ex (ι:=Ac) (fun M=>[(0,.int .i64 (N:Nat)),(1,.sl 6 (D3 es)),(7,.ptr bg 3 0 0),(8,.sl 1 (Ar A)),(10,.ptr b0 12 0 0),(9,.nil)]) (fun M=>M) (fun M=>It N bg bf bc es A (Sl b0 (Dr N []) none []) ⟨M,fl,bs,cl⟩) ?_ ?_
 ·(repeat refine AW.seq_k fun K hK=>?_);refine AW.rg ?_;simp;try (refine hK _ rfl ?_;clear hK K)
  refine AW.block (AW.loopS (ι:=Ac × Nat) (fun z=>[(0,.int .i64 (N:Nat)),(1,.sl 6 (D3 es)),(7,.ptr bg 3 0 0),(8,.sl 1 (Ar A)),(10,.ptr b0 12 0 0),(9,.nil),(30,.int .i64 (N:Nat)),(31,.int .i64 (z.2:Nat))]) (fun z=>z.1)
   (fun z=>z.2≤N∧It N bg bf bc es A (Sl b0 (I2 z.2) none []) ⟨z.1,fl,bs,cl⟩) (fun z=>N-z.2) (_,0) ⟨by simp,X1⟩ rfl (by simp) ?_)
  rintro⟨M,i⟩ ⟨g1,g2⟩;simp only at g1 g2;have p0:M b0=some ⟨72,12,[.agg (bools (I2 i))]⟩:=g2.ext b0 _ (by simp[Sl]);have hi12:i<8→i<12:=fun h=>by omega
  (repeat refine AW.seq_k fun K hK=>?_);refine AW.rg ?_;simp;try (refine hK _ rfl ?_;clear hK K)
  (repeat refine AW.seq ?_);refine AW.cs (fun hi=>?_) (fun hi=>?_) rfl<;>(try simp at hi)
  ·refine AW.skip ?_;try simp
   try (refine hK _ rfl ?_;clear hK K)
   have w1:=Ap (i+1) (by omega);have hi12:i<12:=by omega
   (repeat refine AW.seq ?_);refine AW.block ?_;(repeat refine AW.seq_k fun K hK=>?_);refine AW.rg ?_;simp;try (refine hK _ rfl ?_;clear hK K)
   have hi11:i≤11:=by omega
   have hi12':(i:Int)<12:=by omega
   (repeat refine AW.seq_k fun K hK=>?_);refine AW.rg ?_;simp[p0,hi12,hi11,hi12'];try (refine hK _ rfl ?_;clear hK K)
   rw[Il _ hi12 (by simp),Qhb hi12];(repeat refine AW.seq_k fun K hK=>?_);refine AW.rg ?_;simp[-Int.natCast_add,w1];try (refine hK _ rfl ?_;clear hK K)
   have g3:=g2.set (b:=b0) ⟨72,12,[.agg (bools (I2 (i+1)))]⟩ (.inl (by simp[Sl]));rw[Qf0 (by simp)]at g3;exact⟨_,i+1,⟨by omega,g3⟩,by omega,rfl,rfl⟩
  ·refine AW.exit ?_;try simp
   have:i=N:=by omega
   subst this;rw[Qh8]at g2;exact g2
 rintro M hM;have hcl:∀(M:Ac) (fl:List Nat) (bs:List (Option Nat)) (cl:List (List Nat)) (e:Nat),Jf N bg bf bc es A M fl bs cl→e∈A→_:=fun M fl bs cl e h1 h2=>Yb N bg bf bc es A (by omega) hok hlt hsp M fl bs cl e h1 h2;refine AW.seq_ex (ι:=GSt × Option Nat) (fun z=>[(0,.int .i64 (N:Nat)),(1,.sl 6 (D3 es)),(7,.ptr bg 3 0 0),(8,.sl 1 (Ar A)),(10,.ptr b0 12 0 0),(9,llR z.2 (fC N (A.map (Ae es)) A.length))]) (fun z=>z.1.M)
  (fun z=>It N bg bf bc es A (Sl b0 (Dr N (A.map (Ae es))) z.2 (fC N (A.map (Ae es)) A.length)) z.1∧(∀b,z.2=some b→b≠b0)∧(z.2=none→fC N (A.map (Ae es)) A.length=[])) ?_ ?_
 ·(repeat refine AW.seq_k fun K hK=>?_);refine AW.rg ?_;simp;try (refine hK _ rfl ?_;clear hK K)
  refine AW.block (AW.loopS (ι:=GSt × Option Nat × Nat) (fun z=>[(0,.int .i64 (N:Nat)),(1,.sl 6 (D3 es)),(7,.ptr bg 3 0 0),(8,.sl 1 (Ar A)),(10,.ptr b0 12 0 0),(9,llR z.2.1 (fC N (A.map (Ae es)) z.2.2)),(37,.sl 1 (Ar A)),(38,.int .i64 (A.length:Nat)),(39,.int .i64 (z.2.2:Nat))]) (fun z=>z.1.M)
   (fun z=>z.2.2≤A.length∧It N bg bf bc es A (Sl b0 (Dr N ((A.map (Ae es)).take z.2.2)) z.2.1 (fC N (A.map (Ae es)) z.2.2)) z.1∧(∀b,z.2.1=some b→b≠b0)∧(z.2.1=none→fC N (A.map (Ae es)) z.2.2=[]))
   (fun z=>A.length-z.2.2) (⟨M,fl,bs,cl⟩,none,0) ⟨by simp,hM,by simp,by simp[fC]⟩ rfl (by simp[llR]) ?_)
  clear hM X1 hG hb0;rintro⟨⟨M,fl,bs,cl⟩,o,i⟩ ⟨g1,g2,g3,g4⟩;simp only at g1 g2 g3 g4;(repeat refine AW.seq_k fun K hK=>?_);refine AW.rg ?_;simp;try (refine hK _ rfl ?_;clear hK K)
  (repeat refine AW.seq ?_);refine AW.cs (fun hi=>?_) (fun hi=>?_) rfl<;>(try simp at hi)
  ·refine AW.skip ?_;try simp
   try (refine hK _ rfl ?_;clear hK K)
   have w1:=Ap (i+1) (by omega);obtain⟨e,he⟩:∃e,A[i]=e:=⟨_,rfl⟩;have heA:e∈A:=he ▸ List.getElem_mem hi;have hel:e<es.length:=hlt e heA;obtain⟨q1,q2,q3⟩:=hok e hel;have htk:(A.map (Ae es)).take (i+1)=(A.map (Ae es)).take i++[Ae es e]:=by
    rw[List.take_add_one,List.getElem?_map,List.getElem?_eq_getElem hi,he];rfl
   have hfo:fC N (A.map (Ae es)) (i+1)=Od (fC N (A.map (Ae es)) i) (Ho N (A.map (Ae es)) (Ae es e)):=by unfold fC;rw[htk,List.foldl_append];rfl
   have hcle:=fun M fl bs cl h=>hcl M fl bs cl e h heA;have hcll:(Ho N (A.map (Ae es)) (Ae es e)).length≤8:=by
    have:=List.length_filter_le (Hm N (A.map (Ae es)) (Ae es e)) (List.range N);unfold Ho;simp at this;omega
   have hWm:=Qje N (A.map (Ae es)) i;have hWl:=Qj1 N (A.map (Ae es)) i;generalize hW:fC N (A.map (Ae es)) i=W at *;have halp:=Qbs N ((A.map (Ae es)).take i) (Ae es e).1 (Ae es e).2;rw[show((Ae es e).1,(Ae es e).2)=Ae es e from rfl,←htk]at halp;have p0:M b0=some ⟨72,12,[.agg (bools (Dr N ((A.map (Ae es)).take i)))]⟩:=g2.ext b0 _ (Qa3 g3);have hall:=V8 N ((A.map (Ae es)).take i);generalize Dr N ((A.map (Ae es)).take i)=al at *;obtain⟨a,ha⟩:∃a,(Ae es e).1=a:=⟨_,rfl⟩;obtain⟨b,hb⟩:∃b,(Ae es e).2=b:=⟨_,rfl⟩
   rw[ha]at q1 halp;rw[hb]at q2 halp;have ha8:a<12:=by have:=q3.1;omega
   have hb8:b<12:=by have:=q3.2.1;omega
   have ha8':(a:Int)<12:=by omega
   have hb8':(b:Int)<12:=by omega
   have ha8'':a≤11:=by omega
   have hb8'':b≤11:=by omega
   (repeat refine AW.seq ?_);refine AW.block ?_;(repeat refine AW.seq_k fun K hK=>?_);refine AW.rg ?_;simp[hi,he];try (refine hK _ rfl ?_;clear hK K)
   refine AW.seq_ex (ι:=Unit) (fun _=>[(0,.int .i64 (N:Nat)),(1,.sl 6 (D3 es)),(7,.ptr bg 3 0 0),(8,.sl 1 (Ar A)),(10,.ptr b0 12 0 0),(9,llR o W),(37,.sl 1 (Ar A)),(38,.int .i64 (A.length:Nat)),(39,.int .i64 (i:Nat)),(13,.int .i64 (e:Nat))]) (fun _=>M.set b0 ⟨72,12,[.agg (bools (Dr N ((A.map (Ae es)).take (i+1))))]⟩) (fun _=>True) ?_ ?_
   ·refine AW.rd2 9 11 [0,1,2,3,4,5,6,7,8,9,10,11,12,13] [0,1,2,3,4,5,6,7,8,10,11,9,12,13] Ds ?_ ?_
    ·simp[hel,Ck,q1,q2,p0,ha8,hb8,ha8',hb8',ha8'',hb8''];rw[Il _ ha8 hall,Il _ hb8 (by simp[hall]),halp]
    ·simp[hel,Ck,q1,q2,p0,ha8,hb8,ha8',hb8',ha8'',hb8''];rw[Il _ ha8 hall,Il _ hb8 (by simp[hall]),halp]
   rintro _ _;have g5:=g2.set (b:=b0) ⟨72,12,[.agg (bools (Dr N ((A.map (Ae es)).take (i+1))))]⟩ (.inl (by rw[Qa3 g3];simp));rw[Qf0 g3]at g5;generalize hal2:Dr N ((A.map (Ae es)).take (i+1))=al2 at *;generalize M.set b0 ⟨72,12,[.agg (bools al2)]⟩=M2 at g5 ⊢;(repeat refine AW.seq_k fun K hK=>?_);refine AW.rg ?_;simp;try (refine hK _ rfl ?_;clear hK K)
   refine Aa.hand (Bf bg bf bc bs) (fun _ _ h=>h) (hcle _ fl bs cl g5.gam) ?_;rintro _ g' ⟨rfl,fl',bs',cl',hG'⟩ hnew;have g6:=g5.back hG' (fun b h=>(hnew b h).imp id (·.1));generalize M2.back (Bf bg bf bc bs) g'=M3 at g6 ⊢;generalize Ho N (A.map (Ae es)) (Ae es e)=c at *;simp;refine Af.intro fun b4 hb4=>?_;refine hK _ rfl ?_;clear hK K;refine AW.turn [(0,.int .i64 (N:Nat)),(1,.sl 6 (D3 es)),(7,.ptr bg 3 0 0),(8,.sl 1 (Ar A)),(10,.ptr b0 12 0 0),(9,llR o W),(37,.sl 1 (Ar A)),(38,.int .i64 (A.length:Nat)),(39,.int .i64 (i:Nat)),(14,.rptr [.sl 1 (Ar c)])] M3 (Bn.drop hb4 (g6.ones Qlg))
    (by simp;exact .ptr b4 1 0 0 ⟨25,1,[.sl 1 (Ar c)]⟩ (.sl 1 (Ar c)) (Ac.set_same _ _ _) hb4 rfl rfl) ?_
   (repeat refine AW.seq_k fun K hK=>?_);refine AW.rg ?_;simp;try (refine hK _ rfl ?_;clear hK K)
   refine Aa.look [.sl 1 (Gm W),.fn 55 [.rptr [.sl 1 (Ar c)]]] ⟨Qbq g4 fun b hb=>⟨g6.ext b _ (by rw[hb];exact Jn),rfl⟩,.same _,trivial⟩ (Sr W c (by omega) (fun x hx=>by have:=hWm x hx;omega) (by omega)) rfl ?_;simp;try (refine hK _ rfl ?_;clear hK K)
   unfold Od at hfo;by_cases hcW:c∈W
   ·rw[if_pos hcW]at hfo;refine AW.no ?_ (by simp[hcW]);refine AW.skip ?_;try simp
    try (refine hK _ rfl ?_;clear hK K)
    (repeat refine AW.seq_k fun K hK=>?_);refine AW.rg ?_;simp[-Int.natCast_add,w1];try (refine hK _ rfl ?_;clear hK K)
    exact⟨⟨M3,fl',bs',cl'⟩,o,i+1,⟨by omega,by rw[hfo,hal2];exact g6,g3,by rw[hfo];exact g4⟩,by omega,rfl,by rw[hfo];exact⟨rfl,rfl⟩⟩
   ·rw[if_neg hcW]at hfo;refine AW.yes ?_ (by simp[hcW]);cases o with
    |none =>
     have hW0:=g4 rfl;subst hW0;simp only[llR];(repeat refine AW.seq_k fun K hK=>?_);refine AW.rgR [64] ?_;simp;try (refine hK _ rfl ?_;clear hK K)
     refine⟨by unfold maxLen;omega,Af.intro fun b6 h6=>?_⟩;have hb60:b6≠b0:=fun e=>by
      have:=g6.ext b0 _ (Qa3 g3);rw[←e]at this;simp only at this;rw[h6]at this;cases this
     have g7:=g6.set (b:=b6) ⟨25,1,Gm [c]⟩ (.inr h6);rw[X2]at g7;(repeat refine AW.seq_k fun K hK=>?_);refine AW.rg ?_;simp[-Int.natCast_add,w1];try (refine hK _ rfl ?_;clear hK K)
     exact⟨⟨_,fl',bs',cl'⟩,some b6,i+1,⟨by omega,by rw[hfo,hal2];exact g7,fun b hb=>by cases hb;exact hb60,by simp⟩,by omega,rfl,by rw[hfo];exact⟨rfl,rfl⟩⟩
    |some b1 =>
     have hb1:=g3 b1 rfl;have p1:M3 b1=some ⟨25,1,Gm W⟩:=g6.ext b1 _ Jn;simp only[llR];(repeat refine AW.seq_k fun K hK=>?_);refine AW.rgR [64] ?_;simp[p1];try (refine hK _ rfl ?_;clear hK K)
     refine⟨by omega,by unfold maxLen;omega,Af.intro fun b6 h6=>?_⟩;have hb60:b6≠b0:=fun e=>by
      have:=g6.ext b0 _ (Qa3 g3);rw[←e]at this;simp only at this;rw[Ac.del_other _ (by rw[e];exact Ne.symm hb1),this]at h6;cases h6
     have g7:=(g6.del (b:=b1) (by rw[Jn];simp)).set (b:=b6) ⟨25,1,Gm (W++[c])⟩ (.inr h6);rw[Xa hb1]at g7;rw[Zy];(repeat refine AW.seq_k fun K hK=>?_);refine AW.rg ?_;simp[-Int.natCast_add,w1];try (refine hK _ rfl ?_;clear hK K)
     exact⟨⟨_,fl',bs',cl'⟩,some b6,i+1,⟨by omega,by rw[hfo,hal2];exact g7,fun b hb=>by cases hb;exact hb60,by simp⟩,by omega,rfl,by rw[hfo];exact⟨by simp[llR],rfl⟩⟩
  ·refine AW.exit ?_;try simp
   have:i=A.length:=by omega
   subst this;rw[List.take_of_length_le (by simp)]at g2;exact⟨_,o,⟨g2,g3,g4⟩,rfl,rfl⟩
 clear hM X1 hG hb0;rintro⟨⟨M,fl,bs,cl⟩,o⟩ ⟨g2,g3,g4⟩;simp only at g2 g3 g4 ⊢;have hr0:rC N (A.map (Ae es)) A.length 0=fC N (A.map (Ae es)) A.length:=by simp[rC]
 have hrN:rC N (A.map (Ae es)) A.length N=Jh N (A.map (Ae es)):=by unfold rC fC Jh;rw[List.take_of_length_le (by simp)]
 rw[←hr0]at g2 g4 ⊢;refine AW.seq_ex (ι:=Ac × Option Nat) (fun z=>[(9,llR z.2 (Jh N (A.map (Ae es))))]) (fun z=>z.1)
  (fun z=>It N bg bf bc es A (Sl b0 (Dr N (A.map (Ae es))) z.2 (Jh N (A.map (Ae es)))) ⟨z.1,fl,bs,cl⟩∧(z.2=none→Jh N (A.map (Ae es))=[])) ?_ ?_
 ·(repeat refine AW.seq_k fun K hK=>?_);refine AW.rg ?_;simp;try (refine hK _ rfl ?_;clear hK K)
  refine AW.block (AW.loopS (ι:=Ac × Option Nat × Nat) (fun z=>[(0,.int .i64 (N:Nat)),(1,.sl 6 (D3 es)),(7,.ptr bg 3 0 0),(8,.sl 1 (Ar A)),(10,.ptr b0 12 0 0),(9,llR z.2.1 (rC N (A.map (Ae es)) A.length z.2.2)),(67,.int .i64 (N:Nat)),(68,.int .i64 (z.2.2:Nat))]) (fun z=>z.1)
   (fun z=>z.2.2≤N∧It N bg bf bc es A (Sl b0 (Dr N (A.map (Ae es))) z.2.1 (rC N (A.map (Ae es)) A.length z.2.2)) ⟨z.1,fl,bs,cl⟩∧(∀b,z.2.1=some b→b≠b0)∧(z.2.1=none→rC N (A.map (Ae es)) A.length z.2.2=[]))
   (fun z=>N-z.2.2) (M,o,0) ⟨by simp,g2,g3,g4⟩ rfl (by simp) ?_)
  clear g2 g3 g4;rintro⟨M,o,i⟩ ⟨g1,g2,g3,g4⟩;simp only at g1 g2 g3 g4;(repeat refine AW.seq_k fun K hK=>?_);refine AW.rg ?_;simp;try (refine hK _ rfl ?_;clear hK K)
  (repeat refine AW.seq ?_);refine AW.cs (fun hi=>?_) (fun hi=>?_) rfl<;>(try simp at hi)
  ·refine AW.skip ?_;try simp
   try (refine hK _ rfl ?_;clear hK K)
   have w1:=Ap (i+1) (by omega);have hfo:=Qo0 N (A.map (Ae es)) A.length i;have hWl:=Qtz N (A.map (Ae es)) A.length i;generalize rC N (A.map (Ae es)) A.length i=W at *;have p0:M b0=some ⟨72,12,[.agg (bools (Dr N (A.map (Ae es))))]⟩:=g2.ext b0 _ (Qa3 g3);have hi12:i<12:=by omega
   have hi11:i≤11:=by omega
   have hi12':(i:Int)<12:=by omega
   have hal:∀h:i<(Dr N (A.map (Ae es))).length,(Dr N (A.map (Ae es)))[i]=B6 (A.map (Ae es)) i:=fun h=>by rw[Nq];simp[hi]
   (repeat refine AW.seq ?_);refine AW.block ?_;(repeat refine AW.seq_k fun K hK=>?_);refine AW.rg ?_;simp;try (refine hK _ rfl ?_;clear hK K)
   (repeat refine AW.seq_k fun K hK=>?_);refine AW.rg ?_;simp[p0,hi12,hi11,hi12',hal];try (refine hK _ rfl ?_;clear hK K)
   cases hab:B6 (A.map (Ae es)) i with
   |false =>
    rw[hab]at hfo;simp at hfo;refine AW.no ?_ rfl;refine AW.skip ?_;try simp
    try (refine hK _ rfl ?_;clear hK K)
    (repeat refine AW.seq_k fun K hK=>?_);refine AW.rg ?_;simp[-Int.natCast_add,w1];try (refine hK _ rfl ?_;clear hK K)
    exact⟨M,o,i+1,⟨by omega,by rw[hfo];exact g2,g3,by rw[hfo];exact g4⟩,by omega,rfl,by rw[hfo];exact⟨rfl,rfl⟩⟩
   |true =>
    rw[hab]at hfo;simp at hfo;refine AW.yes ?_ rfl;have e77:[AV.sl 1 [AV.int .i64 (i:Nat)]]=Gm [[i]]:=rfl;cases o with
    |none =>
     have hW0:=g4 rfl;subst hW0;simp only[llR];(repeat refine AW.seq_k fun K hK=>?_);refine AW.rgR [76,77] ?_;simp;refine⟨by unfold maxLen;omega,Af.intro fun b6 h6=>?_⟩;have hb60:b6≠b0:=fun e=>by rw[e,p0]at h6;cases h6
     have g7:=g2.set (b:=b6) ⟨25,1,Gm [[i]]⟩ (.inr h6);rw[X2]at g7;(repeat refine AW.seq_k fun K hK=>?_);refine AW.rg ?_;simp[-Int.natCast_add,w1];try (refine hK _ rfl ?_;clear hK K)
     exact⟨_,some b6,i+1,⟨by omega,by rw[hfo];exact g7,fun b hb=>by cases hb;exact hb60,by simp⟩,by omega,rfl,by rw[hfo];exact⟨rfl,rfl⟩⟩
    |some b1 =>
     have hb1:=g3 b1 rfl;have p1:M b1=some ⟨25,1,Gm W⟩:=g2.ext b1 _ Jn;simp only[llR];(repeat refine AW.seq_k fun K hK=>?_);refine AW.rgR [76,77] ?_;simp[p1];refine⟨by omega,by unfold maxLen;omega,Af.intro fun b6 h6=>?_⟩;have hb60:b6≠b0:=fun e=>by rw[e,Ac.del_other _ (Ne.symm hb1),p0]at h6;cases h6
     have g7:=(g2.del (b:=b1) (by rw[Jn];simp)).set (b:=b6) ⟨25,1,Gm (W++[[i]])⟩ (.inr h6);rw[Xa hb1]at g7;rw[show AV.sl 1 [AV.int .i64 (i:Nat)]=.sl 1 (Ar [i]) from rfl,Zy];(repeat refine AW.seq_k fun K hK=>?_);refine AW.rg ?_;simp[-Int.natCast_add,w1];try (refine hK _ rfl ?_;clear hK K)
     exact⟨_,some b6,i+1,⟨by omega,by rw[hfo];exact g7,fun b hb=>by cases hb;exact hb60,by simp⟩,by omega,rfl,by rw[hfo];exact⟨by simp[llR],rfl⟩⟩
  ·refine AW.exit ?_;try simp
   have:i=N:=by omega
   subst this;rw[hrN]at g2 g4 ⊢;exact⟨M,o,⟨g2,g4⟩,rfl,rfl⟩
 clear g2 g3 g4;rintro⟨M,o⟩ ⟨g2,g4⟩;simp only at g2 g4 ⊢;have hrc:=Qkf hL hsp (by omega);have hrl:∀x∈Jh N (A.map (Ae es)),x.length<2^40:=fun x hx=>by
  unfold Jh at hx;rcases List.mem_append.1 hx with hx | hx
  ·have:=Qje N (A.map (Ae es)) (A.map (Ae es)).length x (by unfold fC;rw[List.take_length];exact hx);omega
  ·obtain⟨j,_,rfl⟩:=List.mem_map.1 hx;simp[Fl]
 have hfin:=fun W' h1 h2=>Qav (W:=W') hL hsp h1 h2;have hne:=Qn7 (n:=N) (L:=A.map (Ae es)) (by omega);cases o with
 |none=>exact absurd (g4 rfl) hne
 |some b =>
  have p1:M b=some ⟨25,1,Gm (Jh N (A.map (Ae es)))⟩:=g2.ext b _ Jn;have hst:=Qgu b (Jh N (A.map (Ae es))) hrc hrl;simp only[llR];generalize Jh N (A.map (Ae es))=W at *;(repeat refine AW.seq_k fun K hK=>?_);refine AW.rg ?_;simp;try (refine hK _ rfl ?_;clear hK K)
  refine Aa.hand (R:=fun v m=>∃W',W'.Perm W∧Gi W'∧v=.tup []∧m=Ac.emp.set b ⟨25,1,Gm W'⟩) [b] (fun _ _ h=>h) (by rw[Ud p1];exact hst) ?_;rintro _ g ⟨W',p1,p2,rfl,rfl⟩ _;rw[Qbb];have hW':=hfin W' p1 p2;simp;try (refine hK _ rfl ?_;clear hK K)
  (repeat refine AW.seq_k fun K hK=>?_);refine AW.rg ?_;simp;try (refine hK _ rfl ?_;clear hK K)
  have hl2:W'.length=W.length:=p1.length_eq;have hv:B2 (M.set b ⟨25,1,Gm W'⟩) Ac.emp (.osl b 1 0 W.length) (.sl 1 (Gm W')):=by
   rw[←hl2];exact Qbq (o:=some b) (W:=W') (by simp) (fun b' h=>by cases h;exact⟨Ac.set_same _ _ _,rfl⟩)
  exact AW.ret (Ah [.sl 1 (Gm W'),.int .i64 0] rfl ⟨hv,.same _,trivial⟩ ⟨by rw[e2,e1,←hW'];rfl,rfl⟩)
end Go.Av
end
section
namespace Go.Av
open Go.Proofs Go.Lam
theorem Qai (x:List Nat):∀W:List (List Nat),(Nx W x).length=W.length+1
 |[]=>rfl
 |y::W=>by
  unfold Nx;split
  ·simp
  ·simp[Qai x W]
def Few (W:List (List Nat)) (k:Nat):Prop:=W.length≤k∧∀x∈W,x.length≤12
theorem Few.ins {W:List (List Nat)} {k:Nat} (h:Few W k) {x:List Nat} (hx:x.length≤12):Few (Nx W x) (k+1):=⟨by rw[Qai];have:=h.1;omega,fun y hy=>by
 rcases Md.1 hy with rfl|hy
 ·exact hx
 ·exact h.2 y hy⟩
end Go.Av
end
section
namespace Go.Av
open Go.Proofs
def Qiy (e:Int) (r:RR) (Z:Option Rat):Prop :=
 match Z with
 |some q=>e=0∧r=A3 q∧Cd q
 |none=>e=2
theorem Qiy.step {e:Int} {a:RR} {Z:Option Rat} (h:Qiy e a Z) {op:Rat→Option Rat} (hop:∀q z,op q=some z→Cd z):Qiy (Dn e a (op a.q)).1 (Dn e a (op a.q)).2 (Z.bind op):=by
 cases Z with
 |none =>
  have:e=2:=h;rw[Mr (by omega)];exact h
 |some q =>
  obtain⟨h1,rfl,h3⟩:e=0∧a=A3 q∧Cd q:=h;rw[Hg];show Qiy _ _ (op q)
  cases ho:op q with
  |none=>rw[Qv h1];rfl
  |some z=>rw[Me h1];exact⟨rfl,rfl,hop q z ho⟩
theorem Qiy.ok {e:Int} {a:RR} {Z:Option Rat} (h:Qiy e a Z) (he:e=0):a.ok=true:=by
 cases Z with
 |none=>have:e=2:=h;omega
 |some q=>obtain⟨_,rfl,h3⟩:e=0∧a=A3 q∧Cd q:=h;exact Ef h3
set_option maxHeartbeats 1000000
end Go.Av
end
section
namespace Go.Av
open Go.Proofs
theorem Ve (z:Int):Aj Tryz.prog 86 [Au z] Ac.emp fun v m=>v=.bool (decide (z=0))∧m=Ac.emp:=by
 have h:=J4 (decide (z<0)) (Ao z.natAbs);have e:decide ((Ao z.natAbs).length=0)=decide (z=0):=by
  have h1:Ao z.natAbs=[]↔z.natAbs=0:=Cq;have h2:(Ao z.natAbs).length=0↔z=0:=by rw[List.length_eq_zero_iff,h1];omega
  simp[h2]
 rw[e]at h;exact h
theorem Qiv {x y:Int}:Jg x y=0↔x=y:=by unfold Jg;split<;>(try split)<;>omega
theorem Qc8 (x y:Int):Jg x y=-1∨Jg x y=0∨Jg x y=1:=by unfold Jg;split<;>(try split)<;>simp
theorem Qsm {x y u v:Int} (hy:0<y) (hv:0<v) (h:x.fdiv y≠u.fdiv v):x*v≠u*y:=by
 intro e;apply h;rw[Int.fdiv_eq_ediv_of_nonneg _ (by omega),Int.fdiv_eq_ediv_of_nonneg _ (by omega)];have h1:(x*v) / (y*v)=x / y:=Int.mul_ediv_mul_of_pos_left _ _ hv;have h2:(u*y) / (v*y)=u / v:=Int.mul_ediv_mul_of_pos_left _ _ hy;rw[←h1,←h2,e,Int.mul_comm v y]
theorem Qt3 {x y u v:Int} (h:x.fdiv y=u.fdiv v):x*v=u*y↔x.fmod y*v=u.fmod v*y:=by
 have h1:x=y*x.fdiv y+x.fmod y:=by rw[Int.mul_fdiv_add_fmod]
 have h2:u=v*u.fdiv v+u.fmod v:=by rw[Int.mul_fdiv_add_fmod]
 generalize x.fmod y=r1 at *;generalize u.fmod v=r2 at *;rw[←h]at h2;generalize x.fdiv y=q at *;subst h1 h2;rw[Int.add_mul,Int.add_mul,show v*q*y=y*q*v by rw[Int.mul_comm v q,Int.mul_assoc,Int.mul_comm v y,←Int.mul_assoc,Int.mul_comm q y]];omega
theorem Vh {x y:Int} (hy:0<y):0≤x.fmod y∧x.fmod y<y:=⟨Int.fmod_nonneg_of_pos _ hy,Int.fmod_lt_of_pos _ hy⟩
def Cu (z:Int):Fi:=⟨42,2,[.agg [.bool (decide (z<0)),Am (Ao z.natAbs)]]⟩
structure Qoa where
 x:Int
 y:Int
 u:Int
 v:Int
 s:Int
def Qx6 (a b:Rat) (t:Qoa):Prop:=0<t.y∧0<t.v∧t.x.natAbs<Bh∧t.y.natAbs<Bh∧t.u.natAbs<Bh∧t.v.natAbs<Bh∧(a=b↔t.x*t.v=t.u*t.y)∧(t.s=1∨t.s=-1)
theorem Qii (n:Nat):Cu (n:Nat)=⟨42,2,[.agg [.bool false,Am (Ao n)]]⟩:=by
 unfold Cu;have:decide ((n:Int)<0)=false:=by simp
 rw[this];rfl
def Jo (b5 b6 b7 b8:Nat) (t:Qoa):Ac:=(((Ac.emp.set b5 (Cu t.x)).set b6 (Cu t.y)).set b7 (Cu t.u)).set b8 (Cu t.v)
theorem Qfs {r:Int} (h:0≤r) (h0:r≠0):0<r:=by omega
theorem Qoe {r y:Int} (h:0≤r) (h0:r<y):r.natAbs<y.natAbs:=by omega
theorem Qsl {s c:Int} (h:s=1∨s=-1) (hc:¬c=0):¬s*c=0:=by
 rcases h with h|h<;>subst h<;>omega
theorem Qgw {s c:Int} (h:s=1∨s=-1) (hc:c=-1∨c=0∨c=1):s*c=-1∨s*c=0∨s*c=1:=by
 rcases h with h|h<;>subst h<;>omega
theorem Qkr {s c:Int} (h:s=1∨s=-1) (hc:c=-1∨c=0∨c=1):IntKind.i64.wrap (s*c)=s*c:=by
 rcases h with h|h<;>rcases hc with h'|h'|h'<;>subst h h'<;>rfl
theorem Qo2 {s:Int} (h:s=1∨s=-1):IntKind.i64.wrap (-s)=-s∧(-s=1∨-s=-1)∧¬-s=0∧¬s=0:=by
 rcases h with h|h<;>subst h<;>exact⟨rfl,by decide,by decide,by decide⟩
def Qr9 (a b:Rat) (v:AV):Prop:=∃c:Int,v=.int .i64 c∧(c=0↔a=b)∧(c=-1∨c=0∨c=1)
set_option maxHeartbeats 1000000
theorem V0 (a b:Rat) (ha:Cd a) (hb:Cd b):Aj Tryz.prog 188 [Ix a,Ix b] Ac.emp fun v m=>Qr9 a b v∧m=Ac.emp:=by
 have key:∀t:Qoa,Qx6 a b t→∃q1 r1 q2 r2,q1=t.x.fdiv t.y∧r1=t.x.fmod t.y∧q2=t.u.fdiv t.v∧r2=t.u.fmod t.v:=fun t _=>⟨_,_,_,_,rfl,rfl,rfl,rfl⟩;have hab:a=b↔a.num*b.den=b.num*a.den:=Rat.eq_iff_mul_eq_mul;have d1:0<(a.den:Int):=by have:=a.den_pos;omega
 have d2:0<(b.den:Int):=by have:=b.den_pos;omega
 unfold Ix;refine Ad Tryz.func188 rfl rfl 73 rfl (Nat.le_of_ble_eq_true rfl) ?_;(repeat refine AW.seq_k fun K hK=>?_);refine AW.rgR [2,3] ?_;simp[Ak];try (refine hK _ rfl ?_;clear hK K)
 (repeat refine AW.seq_k fun K hK=>?_);refine AW.rdT [] [2,3,18,20,22,24] [] [] [0,1,2,3,4,5,6,7,8,9,10,11,12,13,14,15] Ds (by simp) (by simp) (by simp) (by simp) (by simp) ?_;simp;try (refine hK _ rfl ?_;clear hK K)
 refine Af.intro fun b5 hb5=>?_;simp only[An,Ay,and_true]at hb5;refine Af.intro fun b6 hb6=>?_;simp only[An,Ay,and_true]at hb6;refine Af.intro fun b7 hb7=>?_;simp only[An,Ay,and_true]at hb7;refine Af.intro fun b8 hb8=>?_;simp only[An,Ay,and_true]at hb8;simp[hb5,hb6,hb7,hb8];refine hK _ rfl ?_;clear hK K;(repeat refine AW.seq_k fun K hK=>?_);refine AW.rg ?_;simp;try (refine hK _ rfl ?_;clear hK K)
 refine AW.block (AW.loopS (ι:=Qoa) (fun t=>[(5,.ptr b5 2 0 0),(6,.ptr b6 2 0 0),(7,.ptr b7 2 0 0),(8,.ptr b8 2 0 0),(9,.int .i64 t.s)]) (fun t=>Jo b5 b6 b7 b8 t) (fun t=>Qx6 a b t) (fun t=>t.y.natAbs) ⟨a.num,(a.den:Nat),b.num,(b.den:Nat),1⟩ ⟨d1,d2,ha.1,Gh ha,hb.1,Gh hb,hab,.inl rfl⟩ ?_ (by simp) ?_)
 ·unfold Jo;simp only[Qii];unfold Cu
  funext c
  simp only[A9,Ay]
  (repeat' split)<;>simp_all
 rintro⟨x,y,u,v,s⟩ ⟨i1,i2,i3,i4,i5,i6,i7,i8⟩;simp only at i1 i2 i3 i4 i5 i6 i7 i8;have c1:=H2 x y i3 i4 (by omega);have c2:=H2 u v i5 i6 (by omega);have e1:=Sv (y:=y) i3 (by omega);have e2:=Sv (y:=v) i5 (by omega);have e3:=Tb (x:=x) i4 (by omega);have e4:=Tb (x:=u) i6 (by omega);have c3:=Qhx (x.fdiv y) (u.fdiv v) e1 e2;have c4:=Ve (x.fmod y);have c5:=Ve (u.fmod v);have f1:=Vh (x:=x) i1;have f2:=Vh (x:=u) i2;have p1:=Qsm (x:=x) (u:=u) i1 i2;have p2:=Qt3 (x:=x) (y:=y) (u:=u) (v:=v)
 generalize x.fdiv y=q1 at *;generalize u.fdiv v=q2 at *;generalize x.fmod y=r1 at *;generalize u.fmod v=r2 at *;unfold Jo Cu;unfold Au at *;simp only;(repeat refine AW.seq ?_);refine AW.block ?_;(repeat refine AW.seq_k fun K hK=>?_);refine AW.rg ?_;simp[hb5,hb6,hb7,hb8];try (refine hK _ rfl ?_;clear hK K)
 refine Aa.val c1 ?_;simp[hb5,hb6,hb7,hb8];refine Af.intro fun b10 hb10=>?_;simp only[An,Ay,and_true]at hb10;refine Af.intro fun b11 hb11=>?_;simp only[An,Ay,and_true]at hb11;simp[hb5,hb6,hb7,hb8,hb10,hb11,Vr hb11.1.2];refine hK _ rfl ?_;clear hK K;(repeat refine AW.seq_k fun K hK=>?_);refine AW.rg ?_;simp[hb5,hb6,hb7,hb8,hb10,hb11];try (refine hK _ rfl ?_;clear hK K)
 refine Aa.val c2 ?_;simp[hb5,hb6,hb7,hb8,hb10,hb11];refine Af.intro fun b13 hb13=>?_;simp only[An,Ay,and_true]at hb13;refine Af.intro fun b14 hb14=>?_;simp only[An,Ay,and_true]at hb14;simp[hb5,hb6,hb7,hb8,hb10,hb11,hb13,hb14,Vr hb14.1.2];refine hK _ rfl ?_;clear hK K;refine AW.seq_ex (ι:=Unit) (fun _=>[(5,.ptr b5 2 0 0),(6,.ptr b6 2 0 0),(7,.ptr b7 2 0 0),(8,.ptr b8 2 0 0),(9,.int .i64 s),(11,.ptr b11 2 0 0),(14,.ptr b14 2 0 0)]) (fun _=>((((Jo b5 b6 b7 b8 ⟨x,y,u,v,s⟩).set b10 (Cu q1)).set b11 (Cu r1)).set b13 (Cu q2)).set b14 (Cu r2)) (fun _=>q1=q2) ?_ ?_
 ·(repeat refine AW.seq_k fun K hK=>?_);refine AW.rg ?_;simp[hb5,hb6,hb7,hb8,hb10,hb11,hb13,hb14];try (refine hK _ rfl ?_;clear hK K)
  refine Aa.val c3 ?_;simp[hb5,hb6,hb7,hb8,hb10,hb11,hb13,hb14];refine hK _ rfl ?_;clear hK K;have hc1:Jg q1 q2=0↔q1=q2:=Qiv;have hc2:=Qc8 q1 q2;generalize Jg q1 q2=cc at *;(repeat refine AW.seq_k fun K hK=>?_);refine AW.rg ?_;simp;try (refine hK _ rfl ?_;clear hK K)
  (repeat refine AW.seq ?_);refine AW.cs (fun hc=>?_) (fun hc=>?_) rfl<;>(try simp at hc)
  ·(repeat refine AW.seq_k fun K hK=>?_);refine AW.rg ?_;simp;try (refine hK _ rfl ?_;clear hK K)
   have hw:IntKind.i64.wrap (s*cc)=s*cc:=Qkr i8 hc2;refine AW.ret (Ah (vs:=[.int .i64 (s*cc)]) [.int .i64 (s*cc)] (by simp[hw]) (by simp) ⟨⟨s*cc,rfl,?_,?_⟩,rfl⟩)
   ·have:a≠b:=fun h=>(p1 (fun h2=>hc (hc1.2 h2))) (i7.1 h);exact⟨fun h0=>absurd h0 (Qsl i8 hc),fun h=>absurd h this⟩
   ·exact Qgw i8 hc2
  ·refine AW.skip ?_;try simp
   refine⟨hc1.1 hc,?_⟩;rfl
 rintro _ hq;subst hq;have p2:=p2 rfl;obtain⟨t1,ht1⟩:∃t,t=decide (r1=0):=⟨_,rfl⟩;obtain⟨t2,ht2⟩:∃t,t=decide (r2=0):=⟨_,rfl⟩;rw[←ht1]at c4;rw[←ht2]at c5;have hne:(t1=true∨t2=true)→(a=b↔t1=true∧t2=true):=by
  intro h;rw[i7,p2,ht1,ht2]at *;simp only[decide_eq_true_eq]at h ⊢;constructor
  ·intro e;rcases h with h | h
   ·rw[h,Int.zero_mul]at e;refine⟨h,?_⟩;rcases Int.mul_eq_zero.1 e.symm with h' | h'
    ·exact h'
    ·omega
   ·rw[h,Int.zero_mul]at e;refine⟨?_,h⟩;rcases Int.mul_eq_zero.1 e with h' | h'
    ·exact h'
    ·omega
  ·rintro⟨h1,h2⟩;rw[h1,h2];simp
 have hsn:=Qo2 i8;refine AW.seq_ex (ι:=Unit) (fun _=>[(5,.ptr b5 2 0 0),(6,.ptr b6 2 0 0),(7,.ptr b7 2 0 0),(8,.ptr b8 2 0 0),(9,.int .i64 s),(11,.ptr b11 2 0 0),(14,.ptr b14 2 0 0)]) (fun _=>((((Jo b5 b6 b7 b8 ⟨x,y,u,v,s⟩).set b10 (Cu q1)).set b11 (Cu r1)).set b13 (Cu q1)).set b14 (Cu r2)) (fun _=>t1=false∧t2=false) ?_ ?_
 ·(repeat refine AW.seq ?_);refine AW.block ?_;refine AW.seq_ex (ι:=Unit) (fun _=>[(5,.ptr b5 2 0 0),(6,.ptr b6 2 0 0),(7,.ptr b7 2 0 0),(8,.ptr b8 2 0 0),(9,.int .i64 s),(11,.ptr b11 2 0 0),(14,.ptr b14 2 0 0),(53,.bool (t1&&t2))]) (fun _=>((((Jo b5 b6 b7 b8 ⟨x,y,u,v,s⟩).set b10 (Cu q1)).set b11 (Cu r1)).set b13 (Cu q1)).set b14 (Cu r2)) (fun _=>True) ?_ ?_
  ·cases t1
   ·(repeat refine AW.seq_k fun K hK=>?_);refine AW.rg ?_;simp[Cu,Jo,hb5,hb6,hb7,hb8,hb10,hb11,hb13,hb14];try (refine hK _ rfl ?_;clear hK K)
    refine Aa.val c4 ?_;simp[hb5,hb6,hb7,hb8,hb10,hb11,hb13,hb14]
   ·(repeat refine AW.seq_k fun K hK=>?_);refine AW.rg ?_;simp[Cu,Jo,hb5,hb6,hb7,hb8,hb10,hb11,hb13,hb14];try (refine hK _ rfl ?_;clear hK K)
    refine Aa.val c4 ?_;simp[hb5,hb6,hb7,hb8,hb10,hb11,hb13,hb14];refine Aa.val c5 ?_;simp[hb5,hb6,hb7,hb8,hb10,hb11,hb13,hb14]
  rintro _ -;cases h12:(t1&&t2)
  ·refine AW.no ?_ rfl;refine AW.seq_ex (ι:=Unit) (fun _=>[(5,.ptr b5 2 0 0),(6,.ptr b6 2 0 0),(7,.ptr b7 2 0 0),(8,.ptr b8 2 0 0),(9,.int .i64 s),(11,.ptr b11 2 0 0),(14,.ptr b14 2 0 0),(60,.bool t1)]) (fun _=>((((Jo b5 b6 b7 b8 ⟨x,y,u,v,s⟩).set b10 (Cu q1)).set b11 (Cu r1)).set b13 (Cu q1)).set b14 (Cu r2)) (fun _=>True) ?_ ?_
   ·(repeat refine AW.seq_k fun K hK=>?_);refine AW.rg ?_;simp[Cu,Jo,hb5,hb6,hb7,hb8,hb10,hb11,hb13,hb14];try (refine hK _ rfl ?_;clear hK K)
    refine Aa.val c4 ?_;simp[hb5,hb6,hb7,hb8,hb10,hb11,hb13,hb14]
   rintro _ -;cases t1
   ·refine AW.no ?_ rfl;refine AW.seq_ex (ι:=Unit) (fun _=>[(5,.ptr b5 2 0 0),(6,.ptr b6 2 0 0),(7,.ptr b7 2 0 0),(8,.ptr b8 2 0 0),(9,.int .i64 s),(11,.ptr b11 2 0 0),(14,.ptr b14 2 0 0),(65,.bool t2)]) (fun _=>((((Jo b5 b6 b7 b8 ⟨x,y,u,v,s⟩).set b10 (Cu q1)).set b11 (Cu r1)).set b13 (Cu q1)).set b14 (Cu r2)) (fun _=>True) ?_ ?_
    ·(repeat refine AW.seq_k fun K hK=>?_);refine AW.rg ?_;simp[Cu,Jo,hb5,hb6,hb7,hb8,hb10,hb11,hb13,hb14];try (refine hK _ rfl ?_;clear hK K)
     refine Aa.val c5 ?_;simp[hb5,hb6,hb7,hb8,hb10,hb11,hb13,hb14]
    rintro _ -;cases t2
    ·refine AW.no ?_ rfl;refine AW.skip ?_;try simp
    ·refine AW.yes ?_ rfl;(repeat refine AW.seq_k fun K hK=>?_);refine AW.rg ?_;simp;try (refine hK _ rfl ?_;clear hK K)
     refine AW.ret (Ah (vs:=[.int .i64 s]) [.int .i64 s] (by simp) (by simp) ⟨⟨s,rfl,⟨fun h=>absurd h hsn.2.2.2,fun h=>?_⟩,?_⟩,rfl⟩)
     ·have:=(hne (.inr rfl)).1 h;simp at this
     ·rcases i8 with h|h<;>simp[h]
   ·refine AW.yes ?_ rfl;(repeat refine AW.seq_k fun K hK=>?_);refine AW.rg ?_;simp[hsn.1];try (refine hK _ rfl ?_;clear hK K)
    refine AW.ret (Ah (vs:=[.int .i64 (-s)]) [.int .i64 (-s)] (by simp) (by simp) ⟨⟨-s,rfl,⟨fun h=>absurd h hsn.2.2.1,fun h=>?_⟩,?_⟩,rfl⟩)
    ·have:=(hne (.inl rfl)).1 h;rw[this.2]at h12;simp at h12
    ·rcases hsn.2.1 with h|h<;>simp[h]
  ·refine AW.yes ?_ rfl;(repeat refine AW.seq_k fun K hK=>?_);refine AW.rg ?_;simp;try (refine hK _ rfl ?_;clear hK K)
   have hb:t1=true∧t2=true:=by simpa using h12
   refine AW.ret (Ah (vs:=[.int .i64 0]) [.int .i64 0] (by simp) (by simp) ⟨⟨0,rfl,⟨fun _=>(hne (.inl hb.1)).2 hb,fun _=>rfl⟩,.inr (.inl rfl)⟩,rfl⟩)
 rintro _ ⟨z1,z2⟩;rw[ht1]at z1;rw[ht2]at z2;have z1:r1≠0:=by simpa using z1
 have z2:r2≠0:=by simpa using z2
 clear ht1 ht2 hne c1 c2 c3 c4 c5;(repeat refine AW.seq_k fun K hK=>?_);refine AW.rdT [(6,b6),(11,b11),(8,b8),(14,b14),(5,b5),(7,b7)] [] [] [b6,b11,b8,b14] [0,1,2,3,4,5,6,7] Ds (by simp[Cu,Jo,hb5,hb6,hb7,hb8,hb10,hb11,hb13,hb14]) (by simp[Cu,Jo,hb5,hb6,hb7,hb8,hb10,hb11,hb13,hb14]) (by simp[Cu,Jo,hb5,hb6,hb7,hb8,hb10,hb11,hb13,hb14]) (by simp[Cu,Jo,hb5,hb6,hb7,hb8,hb10,hb11,hb13,hb14]) (by simp[Cu,Jo,hb5,hb6,hb7,hb8,hb10,hb11,hb13,hb14]) ?_;simp[Cu,Jo,hb5,hb6,hb7,hb8,hb10,hb11,hb13,hb14]
 try (refine hK _ rfl ?_;clear hK K)
 refine AW.turn [(5,.ptr b5 2 0 0),(6,.ptr b6 2 0 0),(7,.ptr b7 2 0 0),(8,.ptr b8 2 0 0),(9,.int .i64 s)] (Jo b5 b6 b7 b8 ⟨y,r1,v,r2,s⟩) (Bn.sub fun k z hz=>?_) (by simp) ?_
 ·unfold Jo Cu at hz;simp only[A9,Ay]at hz;by_cases k8:k=b8
  ·subst k8;rw[if_pos rfl]at hz;cases hz;exact⟨by simp[hb5,hb6,hb7,hb8,hb10,hb11,hb13,hb14],by simp⟩
  rw[if_neg k8]at hz;by_cases k7:k=b7
  ·subst k7;rw[if_pos rfl]at hz;cases hz;exact⟨by simp[hb5,hb6,hb7,hb8,hb10,hb11,hb13,hb14],by simp⟩
  rw[if_neg k7]at hz;by_cases k6:k=b6
  ·subst k6;rw[if_pos rfl]at hz;cases hz;exact⟨by simp[hb5,hb6,hb7,hb8,hb10,hb11,hb13,hb14],by simp⟩
  rw[if_neg k6]at hz;by_cases k5:k=b5
  ·subst k5;rw[if_pos rfl]at hz;cases hz;exact⟨by simp[hb5,hb6,hb7,hb8,hb10,hb11,hb13,hb14],by simp⟩
  rw[if_neg k5]at hz;cases hz
 (repeat refine AW.seq_k fun K hK=>?_);refine AW.rg ?_;simp[hsn.1];try (refine hK _ rfl ?_;clear hK K)
 refine⟨⟨y,r1,v,r2,-s⟩,⟨Qfs f1.1 z1,Qfs f2.1 z2,i4,e3,i6,e4,?_,hsn.2.1⟩,Qoe f1.1 f1.2,rfl,rfl⟩;rw[i7,p2];simp only;rw[Int.mul_comm y r2,Int.mul_comm v r1];exact eq_comm
theorem Qir (a b:RR) (ha:a.Lb) (hb:b.Lb) (oa:a.ok=true) (ob:b.ok=true):Aj Tryz.prog 151 [a.av,b.av] Ac.emp fun v m=>(∃c:Int,v=.tup [.int .i64 c,.int .i64 0]∧(c=0↔a.q=b.q))∧m=Ac.emp:=by
 have hal:=U7 a b ha hb;rw[oa,ob]at hal;have hc:=V0 a.q b.q (E8 ha oa).1 (E8 hb ob).1;rw[←Rv ha oa,←Rv hb ob]at hc;unfold RR.av at *;refine Ad Tryz.func151 rfl rfl 14 rfl (Nat.le_of_ble_eq_true rfl) ?_;(repeat refine AW.seq_k fun K hK=>?_);refine AW.rgR [2,3] ?_;simp[Ak];try (refine hK _ rfl ?_;clear hK K)
 (repeat refine AW.seq_k fun K hK=>?_);refine AW.rgR [8] ?_;simp;try (refine hK _ rfl ?_;clear hK K)
 refine Aa.val hal ?_;simp;refine hK _ rfl ?_;clear hK K;refine AW.no ?_ rfl;refine AW.skip ?_;try simp
 refine hK _ rfl ?_;clear hK K;(repeat refine AW.seq_k fun K hK=>?_);refine AW.rg ?_;simp;try (refine hK _ rfl ?_;clear hK K)
 refine Aa.pure hc ?_;rintro _ ⟨c,rfl,h1,h2⟩;simp;refine hK _ rfl ?_;clear hK K;exact AW.ret (Ah (vs:=[.int .i64 c,.int .i64 0]) [.int .i64 c,.int .i64 0] (by simp) (by simp) ⟨⟨c,rfl,h1⟩,rfl⟩)
def symm (M:List (List Rat)) (n:Nat):Prop:=∀i,i<n→∀k,k<i→A5 M i k=A5 M k i
end Go.Av
end
section
namespace Go.Av
open Go.Proofs
def Qbj (e:Int) (v:List RR) (Z:Option (List Rat)):Prop :=
 match Z with
 |some q=>e=0∧v=q.map A3∧Fv q
 |none=>e=2
theorem Qbj.to {e:Int} {v:List RR} {Z Z':Option (List Rat)} (h:Qbj e v Z) (hZ:Z'=Z):Qbj e v Z':=hZ ▸ h
theorem Qbj.ok {e:Int} {v:List RR} {Z:Option (List Rat)} (h:Qbj e v Z) (he:e=0) {k:Nat} (hk:k<v.length):(rr v k).ok=true:=by
 cases Z with
 |none=>have:e=2:=h;omega
 |some q =>
  obtain⟨_,rfl,m3⟩:e=0∧v=q.map A3∧Fv q:=h;have hkq:k<q.length:=by simpa using hk
  rw[K4 hkq];refine Ef (m3 _ ?_);unfold A2;rw[List.getD_eq_getElem?_getD,List.getElem?_eq_getElem hkq];exact List.getElem_mem hkq
theorem Fv.at {r:List Rat} (h:Fv r) {k:Nat} (hk:k<r.length):Cd (A2 r k):=by
 unfold A2;rw[List.getD_eq_getElem?_getD,List.getElem?_eq_getElem hk];exact h _ (List.getElem_mem hk)
end Go.Av
end
section
namespace Go.Av
open Go.Proofs
structure F5 (M:Ac) (c B:Nat) (bs:List Nat) (rows:List (List RR)) (x:AV) (by_:Nat) (fs:List AV) (ov:AV) (ob:List Nat) (ws:List AV):Prop where
 red:D5 (M.only (c::B::bs)) c B bs rows x .nil [] []
 by':M by_=some ⟨51,1,fs⟩
 lst:L8 M 44 4 ov ob ws
 nby:by_ ∉ c::B::bs
 nob:∀b∈ob,b ∉ c::B::bs∧b≠by_
section
variable {M:Ac} {c B:Nat} {bs:List Nat} {rows:List (List RR)} {x:AV} {by_:Nat} {fs:List AV} {ov:AV} {ob:List Nat} {ws:List AV}
theorem F5.cell (h:F5 M c B bs rows x by_ fs ov ob ws):M c=some ⟨118,1,[x]⟩:=by
 have:=h.red.cell;rwa [B8 (by simp)]at this
theorem F5.top (h:F5 M c B bs rows x by_ fs ov ob ws):M B=some ⟨51,1,Hi bs rows⟩:=by
 have:=h.red.mat.top;rwa [B8 (by simp)]at this
theorem F5.row (h:F5 M c B bs rows x by_ fs ov ob ws) {i:Nat} (hi:i<rows.length):M (nb bs i)=some ⟨44,4,B5 (Al rows i)⟩:=by
 have:=h.red.mat.row i hi
 rwa [B8 (by simp[Fm (show i<bs.length by rw[h.red.mat.len];exact hi)])]at this
theorem F5.back (h:F5 M c B bs rows x by_ fs ov ob ws) {g:Ac} {rows':List (List RR)} {x':AV} (hg:D5 g c B bs rows' x' .nil [] []):F5 (M.back (c::B::bs) g) c B bs rows' x' by_ fs ov ob ws:=by
 have ho:∀b,b ∉ c::B::bs→g b=none:=fun b hb=>by
  cases hx:g b with
  |none=>rfl
  |some y=>have:=hg.only b (by rw[hx];simp);exact absurd (by simpa using this) hb
 have e:(M.back (c::B::bs) g).only (c::B::bs)=g:=by
  funext b
  by_cases hb:b∈c::B::bs
  ·rw[B8 hb,Qfm hb]
  ·rw[B1 hb,ho b hb]
 exact⟨by rw[e];exact hg,by rw[Iu (ho _ h.nby) h.nby];exact h.by',h.lst.keep fun b hb=>Iu (ho b (h.nob b hb).1) (h.nob b hb).1,h.nby,h.nob⟩
theorem Kx {m:Ac} {l:List Nat} {b:Nat} (hb:b ∉ l) (y:Fi):(m.set b y).only l=m.only l:=by
 funext k
 by_cases hk:k∈l
 ·rw[B8 hk,B8 hk];simp only[A9];rw[if_neg (by rintro rfl;exact hb hk)]
 ·rw[B1 hk,B1 hk]
theorem F5.push0 (h:F5 M c B bs rows x by_ fs .nil [] []) {b:Nat} (hb:M b=none) (v:AV):F5 (M.set b ⟨44,4,[v]⟩) c B bs rows x by_ fs (.osl b 4 0 1) [b] [v]:=by
 have h1:b ∉ c::B::bs:=by
  intro hm;have:(M.only (c::B::bs)) b=none:=by rw[B8 hm];exact hb
  obtain⟨f1,f2,f3,_⟩:=h.red.fresh this;simp[f1,f2,f3]at hm
 have h2:b≠by_:=by rintro rfl;rw[h.by']at hb;cases hb
 exact⟨by rw[Kx h1];exact h.red,by simp only[A9];rw[if_neg (Ne.symm h2)];exact h.by',.inr ⟨b,rfl,rfl,by simp⟩,h.nby,fun a ha=>by simp at ha;subst ha;exact⟨h1,h2⟩⟩
theorem F5.push1 {b0:Nat} (h:F5 M c B bs rows x by_ fs (.osl b0 4 0 ws.length) [b0] ws) {b:Nat} (hb:(M.del b0) b=none) (v:AV):F5 ((M.del b0).set b ⟨44,4,ws++[v]⟩) c B bs rows x by_ fs (.osl b 4 0 (ws.length+1)) [b] (ws++[v]):=by
 obtain⟨k1,k2⟩:=h.nob b0 (by simp);have hh:F5 (M.del b0) c B bs rows x by_ fs .nil [] []:=by
  have hdel:∀a,a≠b0→(M.del b0) a=M a:=fun a ha=>if_neg ha;have e:(M.del b0).only (c::B::bs)=M.only (c::B::bs):=by
   funext a
   by_cases ha:a∈c::B::bs
   ·rw[B8 ha,B8 ha,hdel a (by rintro rfl;exact k1 ha)]
   ·rw[B1 ha,B1 ha]
  exact⟨by rw[e];exact h.red,by rw[hdel by_ (Ne.symm k2)];exact h.by',.inl ⟨rfl,rfl,rfl⟩,h.nby,by simp⟩
 have h1:b ∉ c::B::bs:=by
  intro hm;have:((M.del b0).only (c::B::bs)) b=none:=by rw[B8 hm];exact hb
  obtain⟨f1,f2,f3,_⟩:=hh.red.fresh this;simp[f1,f2,f3]at hm
 have h2:b≠by_:=by rintro rfl;rw[hh.by']at hb;cases hb
 exact⟨by rw[Kx h1];exact hh.red,by simp only[A9];rw[if_neg (Ne.symm h2)];exact hh.by',.inr ⟨b,rfl,by simp,by simp⟩,h.nby,fun a ha=>by simp at ha;subst ha;exact⟨h1,h2⟩⟩
theorem D5.as_only {M:Ac} {c B:Nat} {bs:List Nat} {rows:List (List RR)} {x:AV} (h:D5 M c B bs rows x .nil [] []):D5 (M.only (c::B::bs)) c B bs rows x .nil [] []:=by
 rw[Qie (h.only.sub fun b hb=>by simpa using hb)];exact h
theorem F5.start {x:AV} {by_:Nat} {fs:List AV} (h:D5 M c B bs rows x .nil [] []) (hb:M by_=none):F5 (M.set by_ ⟨51,1,fs⟩) c B bs rows x by_ fs .nil [] []:=by
 obtain⟨f1,f2,f3,_⟩:=h.fresh hb;have hn:by_ ∉ c::B::bs:=by simp[f1,f2,f3]
 exact⟨by rw[Kx hn];exact h.as_only,by simp,.inl ⟨rfl,rfl,rfl⟩,hn,by simp⟩
theorem F5.store (h:F5 M c B bs rows x by_ fs ov ob ws) {e:Int} (hx:G6 x e) {bv n j:Nat} {form:List RR} (hb:M bv=none) (hl:form.length=n) (h1:∀v∈fs,v.cells.all AV.one=true) (h2:∀b y,M b=some y→∀v∈y.l,v.cells.all AV.one=true) (hj:j<fs.length) :
  Bn ((M.set bv ⟨44,4,B5 form⟩).set by_ ⟨51,1,fs.set j (.osl bv 4 0 n)⟩) (M.set by_ ⟨51,1,fs.set j (A4 form)⟩):=by
 have hne:by_≠bv:=by rintro rfl;rw[h.by']at hb;cases hb
 refine⟨fun b y hy=>?_⟩;simp only[A9]at hy;by_cases hby:b=by_
 ·rw[if_pos hby]at hy;cases hy;refine⟨⟨51,1,fs.set j (.osl bv 4 0 n)⟩,by simp[hby],rfl,rfl,by simp,fun k v v' q1 q2=>?_⟩;simp only[List.getElem?_set]at q1 q2;by_cases hk:j=k
  ·subst hk;rw[if_pos rfl,if_pos hj]at q1 q2;cases q1;cases q2;refine⟨Z6 (e:=44) (r:=form) (by simp[Ne.symm hne]) ?_ hl,rfl⟩;simp only[A9];rw[if_neg (Ne.symm hne)];exact hb
  ·rw[if_neg hk]at q1 q2;rw[q1]at q2;cases q2;exact⟨.same _,h1 v (List.mem_of_getElem? q1)⟩
 ·rw[if_neg hby]at hy;have hbv:b≠bv:=by rintro rfl;rw[hb]at hy;cases hy
  refine⟨y,?_,rfl,rfl,rfl,fun k v v' q1 q2=>?_⟩
  ·simp only[A9];rw[if_neg hby,if_neg hbv];exact hy
  ·rw[q1]at q2;cases q2;exact⟨.same _,h2 b y hy v (List.mem_of_getElem? q1)⟩
end
end Go.Av
end
section
namespace Go.Av
open Go.Proofs
def Gt (M:Ac):Prop:=∀b y,M b=some y→∀v∈y.l,v.cells.all AV.one=true
theorem Gt.set {M:Ac} (h:Gt M) (b:Nat) {y:Fi} (hy:∀v∈y.l,v.cells.all AV.one=true):Gt (M.set b y):=by
 intro c z hz;simp only[A9]at hz;split at hz
 ·cases hz;exact hy
 ·exact h c z hz
theorem Gt.del {M:Ac} (h:Gt M) (b:Nat):Gt (M.del b):=by
 intro c z hz;unfold Ac.del at hz;split at hz
 ·cases hz
 ·exact h c z hz
theorem Qeh {q:Rat} (h:Cd q):(A3 q).l1.length<2^40∧(A3 q).l2.length<2^40:=by
 have h1:=Bg h.1;have h2:=Bg h.2;exact⟨Nat.lt_of_le_of_lt h1 (by omega),Nat.lt_of_le_of_lt h2 (by omega)⟩
theorem Qgy {m g:Ac} {l:List Nat} (h1:∀b y,m b=some y→∀v∈y.l,v.cells.all AV.one=true) (h2:∀b y,g b=some y→∀v∈y.l,v.cells.all AV.one=true):∀b y,m.back l g b=some y→∀v∈y.l,v.cells.all AV.one=true:=by
 intro b y hy;unfold Ac.back at hy;cases hg:g b with
 |some z=>rw[hg]at hy;exact h2 b y (hg.trans hy)
 |none =>
  rw[hg]at hy;simp only at hy;split at hy
  ·cases hy
  ·exact h1 b y hy
set_option maxHeartbeats 2000000
end Go.Av
end
section
namespace Go.Av
open Go.Proofs
def Qkd (p:Prop) (v:AV):Prop:=∃t:Bool,v=.bool t∧(t=true↔p)
theorem Y5 {a b:List Nat} (h:a.length=b.length) (he:∀k,k<a.length→nth a k=nth b k):a=b:=by
 refine List.ext_getElem h fun k h1 h2=>?_;have:=he k h1;unfold nth at this
 rwa [List.getD_eq_getElem?_getD,List.getD_eq_getElem?_getD,List.getElem?_eq_getElem h1,List.getElem?_eq_getElem h2]at this
theorem Tm (n1 n2:Bool) (l1 l2:List Nat) (h1:l1.length<2^40):Aj Tryz.prog 71 [.agg [.bool n1,Am l1],.agg [.bool n2,Am l2]] Ac.emp fun v m=>Qkd (n1=n2∧l1=l2) v∧m=Ac.emp:=by
 by_cases hn:n1=n2
 ·subst hn;by_cases hl:l1.length=l2.length
  ·refine Ad Tryz.func71 rfl rfl 38 rfl (Nat.le_of_ble_eq_true rfl) ?_;(repeat refine AW.seq_k fun K hK=>?_);refine AW.rgR [2,3] ?_;simp[Ak];try (refine hK _ rfl ?_;clear hK K)
   (repeat refine AW.seq_k fun K hK=>?_);refine AW.rg ?_;simp[hl];try (refine hK _ rfl ?_;clear hK K)
   refine AW.no ?_ (by simp);refine AW.skip ?_;try simp
   refine hK _ rfl ?_;clear hK K;refine AW.seq_ex (ι:=Unit) (fun _=>[]) (fun _=>Ac.emp) (fun _=>l1=l2) ?_ ?_
   ·(repeat refine AW.seq_k fun K hK=>?_);refine AW.rg ?_;simp;try (refine hK _ rfl ?_;clear hK K)
    refine AW.block (AW.loopS (ι:=Nat) (fun i=>[(2,.rptr [.bool n1,Am l1]),(3,.rptr [.bool n1,Am l2]),(5,.int .i64 (i:Nat))]) (fun _=>Ac.emp) (fun i=>i≤l1.length∧∀k,k<i→nth l1 k=nth l2 k) (fun i=>l1.length-i) 0 ⟨by simp,by simp⟩ rfl (by simp) ?_);rintro i ⟨g1,g2⟩;(repeat refine AW.seq_k fun K hK=>?_);refine AW.rg ?_;simp;try (refine hK _ rfl ?_;clear hK K)
    (repeat refine AW.seq ?_);refine AW.cs (fun hi=>?_) (fun hi=>?_) rfl<;>(try simp at hi)
    ·refine AW.skip ?_;try simp
     refine hK _ rfl ?_;clear hK K;have hi2:i<l2.length:=by omega
     have w1:=Ap (i+1) (by omega);refine AW.seq_ex (ι:=Unit) (fun _=>[(2,.rptr [.bool n1,Am l1]),(3,.rptr [.bool n1,Am l2]),(5,.int .i64 (i:Nat))]) (fun _=>Ac.emp) (fun _=>nth l1 i=nth l2 i) ?_ ?_
     ·(repeat refine AW.seq ?_);refine AW.block ?_;(repeat refine AW.seq_k fun K hK=>?_);refine AW.rd [0,1,2,3,4,5,6,7,8,9,10] Ds ?_;simp[hi,hi2];try (refine hK _ rfl ?_;clear hK K)
      by_cases h0:nth l1 i=nth l2 i
      ·refine AW.no ?_ (by simp[h0]);exact AW.skip ⟨(),h0,by simp⟩
      ·refine AW.yes ?_ (by simp[h0]);(repeat refine AW.seq_k fun K hK=>?_);refine AW.rg ?_;simp;try (refine hK _ rfl ?_;clear hK K)
       exact AW.ret (Ah (vs:=[.bool false]) [.bool false] (by simp) (by simp) ⟨⟨false,rfl,by simp;intro h;exact h0 (by rw[h])⟩,rfl⟩)
     rintro _ h0;(repeat refine AW.seq_k fun K hK=>?_);refine AW.rg ?_;simp[-Int.natCast_add,w1];try (refine hK _ rfl ?_;clear hK K)
     refine⟨⟨hi,fun k hk=>?_⟩,by omega⟩;rcases Nat.lt_succ_iff_lt_or_eq.1 hk with h | rfl
     ·exact g2 k h
     ·exact h0
    ·refine AW.exit ?_;try simp
     exact Y5 hl fun k hk=>g2 k (by omega)
   rintro _ rfl;(repeat refine AW.seq_k fun K hK=>?_);refine AW.rg ?_;simp;try (refine hK _ rfl ?_;clear hK K)
   exact AW.ret (Ah (vs:=[.bool true]) [.bool true] (by simp) (by simp) ⟨⟨true,rfl,by simp⟩,rfl⟩)
  ·refine Ad Tryz.func71 rfl rfl 38 rfl (Nat.le_of_ble_eq_true rfl) ?_;(repeat refine AW.seq_k fun K hK=>?_);refine AW.rgR [2,3] ?_;simp[Ak];try (refine hK _ rfl ?_;clear hK K)
   (repeat refine AW.seq_k fun K hK=>?_);refine AW.rg ?_;simp[hl];try (refine hK _ rfl ?_;clear hK K)
   refine AW.yes ?_ (by simp);(repeat refine AW.seq_k fun K hK=>?_);refine AW.rg ?_;simp;try (refine hK _ rfl ?_;clear hK K)
   exact AW.ret (Ah (vs:=[.bool false]) [.bool false] (by simp) (by simp) ⟨⟨false,rfl,by simp;intro h;exact hl (by rw[h])⟩,rfl⟩)
 ·refine Ad Tryz.func71 rfl rfl 38 rfl (Nat.le_of_ble_eq_true rfl) ?_;(repeat refine AW.seq_k fun K hK=>?_);refine AW.rgR [2,3] ?_;simp[Ak];try (refine hK _ rfl ?_;clear hK K)
  (repeat refine AW.seq_k fun K hK=>?_);refine AW.rg ?_;simp[hn];try (refine hK _ rfl ?_;clear hK K)
  refine AW.yes ?_ (by simp);(repeat refine AW.seq_k fun K hK=>?_);refine AW.rg ?_;simp;try (refine hK _ rfl ?_;clear hK K)
  exact AW.ret (Ah (vs:=[.bool false]) [.bool false] (by simp) (by simp) ⟨⟨false,rfl,by simp[hn]⟩,rfl⟩)
def Qty (a:RR):Prop:=a.l1.length<2^40∧a.l2.length<2^40
theorem Qho (a b:RR) (h:Qty a):Aj Tryz.prog 33 [a.av,b.av] Ac.emp fun v m=>Qkd (a=b) v∧m=Ac.emp:=by
 have i1:=Tm a.n1 b.n1 a.l1 b.l1 h.1;have i2:=Tm a.n2 b.n2 a.l2 b.l2 h.2;have hab:a=b↔(a.n1=b.n1∧a.l1=b.l1)∧(a.n2=b.n2∧a.l2=b.l2):=by
  obtain⟨x1,x2,x3,x4⟩:=a;obtain⟨y1,y2,y3,y4⟩:=b;simp only[RR.mk.injEq,and_assoc]
 unfold RR.av;refine Ad Tryz.func33 rfl rfl 17 rfl (Nat.le_of_ble_eq_true rfl) ?_;(repeat refine AW.seq_k fun K hK=>?_);refine AW.rgR [2,3] ?_;simp[Ak];try (refine hK _ rfl ?_;clear hK K)
 (repeat refine AW.seq_k fun K hK=>?_);refine AW.rg ?_;simp;try (refine hK _ rfl ?_;clear hK K)
 refine Aa.pure i1 ?_;rintro _ ⟨t1,rfl,h1⟩;simp;cases t1
 ·simp;refine hK _ rfl ?_;clear hK K;exact AW.ret (Ah (vs:=[.bool false]) [.bool false] (by simp) (by simp) ⟨⟨false,rfl,by simp only[Bool.false_eq_true,false_iff];intro h;have:=h1.2 (hab.1 h).1;cases this⟩,rfl⟩)
 ·simp;refine Aa.pure i2 ?_;rintro _ ⟨t2,rfl,h2⟩;simp;refine hK _ rfl ?_;clear hK K;exact AW.ret (Ah (vs:=[.bool t2]) [.bool t2] (by simp) (by simp) ⟨⟨t2,rfl,by rw[h2,hab];exact⟨fun h=>⟨h1.1 rfl,h⟩,fun h=>h.2⟩⟩,rfl⟩)
end Go.Av
end
section
namespace Go.Av
open Go.Proofs
theorem Qf6 (X:List (List Rat)):Zh (Cj X)=X:=by
 unfold Zh Cj;rw[List.map_map]
 conv=>rhs;rw[←List.map_id X]
 refine List.map_congr_left fun r _=>?_;show(r.map A3).map RR.q=r
 rw[List.map_map]
 conv=>rhs;rw[←List.map_id r]
 exact List.map_congr_left fun q _=>Hg q
theorem Qbg {n w:Nat} {X:List (List Rat)} (h:Bu n w X) (hw:(Al X 0).length=w) (h1:n≤64) (h2:w≤64):chk (Cj X)=0:=by
 refine Qk3 ?_ ?_
 ·rintro(h'|⟨k,hk,h'⟩)
  ·rw[Bm,h.2.2]at h';omega
  ·rw[Bm,h.2.2]at hk;rw[Cs,List.length_map,(h.row hk).2]at h';omega
 ·intro k hk;rw[Bm,h.2.2]at hk;rw[Cs,Cs,List.length_map,List.length_map,(h.row hk).2,hw];refine⟨rfl,fun j hj=>?_⟩;have hjl:j<(Al X k).length:=by rw[(h.row hk).2];exact hj
  rw[K4 hjl];exact Ef ((h.row hk).1.at hjl)
set_option maxHeartbeats 1000000
end Go.Av
end
section
namespace Go.Av
open Go.Proofs
def Qh1 (M:Ac) (B:Nat) (bs:List Nat) (X:List (List Rat)):Prop:=Eu M B bs (Cj X)∧Dz M (B::bs)
theorem Qh1.ones {M:Ac} {B:Nat} {bs:List Nat} {X:List (List Rat)} (h:Qh1 M B bs X):Gt M:=h.1.ones (l:=[]) h.2 (by simp)
theorem Qh1.setRow {M:Ac} {B:Nat} {bs:List Nat} {X:List (List Rat)} (h:Qh1 M B bs X) {i:Nat} (hi:i<X.length) {r:List Rat} (hr:r.length=(Al X i).length):Qh1 (M.set (nb bs i) ⟨44,4,B5 (r.map A3)⟩) B bs (X.set i r):=by
 refine⟨?_,h.2.set ?_ _⟩
 ·rw[Px];exact h.1.setRow (by rw[Bm];exact hi) _ (by rw[Cs,List.length_map,List.length_map,hr])
 ·exact List.mem_cons_of_mem _ (Fm (by rw[h.1.len,Bm];exact hi))
set_option maxHeartbeats 1000000
end Go.Av
end
section
namespace Go.Av
open Go.Proofs
theorem Eu.snoc {M':Ac} {B:Nat} {bs:List Nat} {rows:List (List RR)} {b:Nat} {r:List RR} (hl:bs.length=rows.length) (htop:M' B=some ⟨51,1,Hi bs rows++[.osl b 4 0 r.length]⟩) (hrow:∀i,i<rows.length→M' (nb bs i)=some ⟨44,4,B5 (Al rows i)⟩) (hb:M' b=some ⟨44,4,B5 r⟩) (hnd:bs.Nodup) (hbb:b ∉ bs) (hB:B ∉ bs) (hBb:B≠b):Eu M' B (bs++[b]) (rows++[r]):=by
 refine⟨by rw[Wt hl];exact htop,by simp[hl],fun i hi=>?_,?_,?_⟩
 ·have hi':i<rows.length+1:=by simpa using hi
  rw[Qfq bs b i (by rw[hl];exact hi'),Wp rows r i hi',hl];by_cases hlt:i<rows.length
  ·rw[if_pos hlt,if_pos hlt];exact hrow i hlt
  ·rw[if_neg hlt,if_neg hlt];exact hb
 ·rw[List.nodup_append];exact⟨hnd,by simp,fun x hx y hy=>by simp at hy;subst hy;exact fun e=>hbb (e ▸ hx)⟩
 ·simp only[List.mem_append,List.mem_singleton,not_or];exact⟨hB,hBb⟩
end Go.Av
end
section
namespace Go.Av
open Go.Proofs
structure Oe (M:Ac) (B:Nat) (bs:List Nat) (X:List (List Rat)) (pv:AV) (pb ps:List Nat):Prop where
 mat:Eu M B bs (Cj X)
 piv:Yy M pv pb ps
 npb:∀b∈pb,b ∉ B::bs
 ones:Gt M
section
variable {M:Ac} {B:Nat} {bs:List Nat} {X:List (List Rat)} {pv:AV} {pb ps:List Nat}
theorem Oe.back (h:Oe M B bs X pv pb ps) {g:Ac} {X':List (List Rat)} (hg:Qh1 g B bs X'):Oe (M.back (B::bs) g) B bs X' pv pb ps :=
 ⟨hg.1.back _,h.piv.keep fun b hb=>Iu (hg.2.none (h.npb b hb)) (h.npb b hb),h.npb,Qgy h.ones hg.ones⟩
theorem Oe.swap (h:Oe M B bs X pv pb ps) {i r:Nat} (hi:i<X.length) (hr:r<X.length) :
  Oe (M.set B ⟨51,1,((Hi bs (Cj X)).set i (.osl (nb bs r) 4 0 (Al (Cj X) r).length)).set r (.osl (nb bs i) 4 0 (Al (Cj X) i).length)⟩) B (F8 bs i r) (Ca X i r) pv pb ps:=by
 have hiE:i<(Cj X).length:=by rw[Bm];exact hi
 have hrE:r<(Cj X).length:=by rw[Bm];exact hr
 have hb:∀b,b∈F8 bs i r↔b∈bs:=fun b=>Mp (by rw[h.mat.len];exact hiE) (by rw[h.mat.len];exact hrE) b;refine⟨by rw[Qcd];exact h.mat.swap hiE hrE,h.piv.keep fun b hb'=>?_,fun b hb'=>?_,Gt.set h.ones B fun v hv=>?_⟩
 ·simp only[A9];rw[if_neg (by rintro rfl;exact h.npb _ hb' (by simp))]
 ·have:=h.npb b hb';simpa[hb]using this
 ·rcases List.mem_or_eq_of_mem_set hv with hv|rfl
  ·rcases List.mem_or_eq_of_mem_set hv with hv|rfl
   ·exact Xr bs (Cj X) v hv
   ·rfl
  ·rfl
theorem Oe.fresh (h:Oe M B bs X pv pb ps) {b:Nat} (hb:M b=none):b ∉ B::bs:=by
 intro hm;rcases List.mem_cons.1 hm with rfl | hm
 ·rw[h.mat.top]at hb;cases hb
 ·obtain⟨k,hk,e⟩:=List.mem_iff_getElem.1 hm;rw[←J7 hk]at e;have:=h.mat.row k (by rw[←h.mat.len];exact hk);rw[e,hb]at this;cases this
theorem Oe.push0 (h:Oe M B bs X .nil [] []) {b:Nat} (hb:M b=none) (j:Nat):Oe (M.set b ⟨3,1,[.int .i64 (j:Nat)]⟩) B bs X (.osl b 1 0 1) [b] [j]:=by
 have hn:=h.fresh hb;have h1:b≠B:=fun e=>hn (by simp[e]);have h2:b ∉ bs:=fun e=>hn (by simp[e]);exact⟨h.mat.other h1 h2 _,.inr ⟨b,rfl,rfl,by simp[Ar]⟩,fun a ha=>by simp at ha;subst ha;exact hn,h.ones.set b fun v hv=>by simp at hv;subst hv;rfl⟩
theorem Oe.push1 {b0:Nat} (h:Oe M B bs X (.osl b0 1 0 ps.length) [b0] ps) {b:Nat} (hb:(M.del b0) b=none) (j:Nat):Oe ((M.del b0).set b ⟨3,1,Ar ps++[.int .i64 (j:Nat)]⟩) B bs X (.osl b 1 0 (ps.length+1)) [b] (ps++[j]):=by
 have h0:=h.npb b0 (by simp);have hh:Oe (M.del b0) B bs X .nil [] []:=by
  have hdel:∀a,a≠b0→(M.del b0) a=M a:=fun a ha=>if_neg ha;refine⟨⟨by rw[hdel B (by rintro rfl;exact h0 (by simp))];exact h.mat.top,h.mat.len,fun i hi=>?_,h.mat.nd,h.mat.nB⟩,.inl ⟨rfl,rfl,rfl⟩,by simp,h.ones.del b0⟩;rw[hdel _ (fun e=>h0 (e ▸ List.mem_cons_of_mem _ (Fm (by rw[h.mat.len];exact hi))))];exact h.mat.row i hi
 have hn:=hh.fresh hb;have h1:b≠B:=fun e=>hn (by simp[e]);have h2:b ∉ bs:=fun e=>hn (by simp[e]);refine⟨hh.mat.other h1 h2 _,.inr ⟨b,rfl,by simp,by simp[Em]⟩,fun a ha=>by simp at ha;subst ha;exact hn,hh.ones.set b fun v hv=>?_⟩;rcases List.mem_append.1 hv with hv | hv
 ·exact C3 ps v hv
 ·simp at hv;subst hv;rfl
end
set_option maxHeartbeats 1000000
end Go.Av
end
section
namespace Go.Av
open Go.Proofs
def Qm9 (n:Nat) (v:AV) (M:Ac):Prop:=(n=0∧v=.nil∧M=Ac.emp)∨∃b,v=.osl b 4 0 n∧M=Ac.emp.set b ⟨44,4,B5 (List.replicate n (A3 0))⟩
structure Gn (M:Ac) (ty:TypeId) (z:Nat) (ov:AV) (ob:List Nat) (l:List AV):Prop where
 lst:L8 M ty z ov ob l
 only:Dz M ob
section
variable {M:Ac} {ov:AV} {ty:TypeId} {z:Nat} {ob:List Nat} {l:List AV}
theorem Gn.start (ty:TypeId) (z:Nat):Gn Ac.emp ty z .nil [] []:=⟨.inl ⟨rfl,rfl,rfl⟩,fun _ h=>absurd rfl h⟩
theorem Gn.ones (h:Gn M ty z ov ob l) (hl:∀v∈l,v.cells.all AV.one=true):Gt M:=by
 intro b y hy;have hb:=h.only b (by rw[hy];simp);rcases h.lst with⟨_,h1,_⟩ | ⟨b',h1,_,h3⟩
 ·rw[h1]at hb;cases hb
 ·rw[h1]at hb;simp at hb;subst hb;rw[h3]at hy;cases hy;exact hl
theorem Gn.push0 (h:Gn M ty z .nil [] []) (b:Nat) (v:AV):Gn (M.set b ⟨ty,z,[v]⟩) ty z (.osl b z 0 1) [b] [v] :=
 ⟨.inr ⟨b,rfl,rfl,by simp⟩,(h.only.sub fun a ha=>by cases ha).set (by simp) _⟩
theorem Gn.push1 {b0:Nat} (h:Gn M ty z (.osl b0 z 0 l.length) [b0] l) (b:Nat) (v:AV):Gn ((M.del b0).set b ⟨ty,z,l++[v]⟩) ty z (.osl b z 0 (l.length+1)) [b] (l++[v]):=by
 refine⟨.inr ⟨b,rfl,by simp,by simp⟩,Dz.set (l:=[b]) (fun a ha=>?_) (by simp) _⟩;by_cases h1:a=b0
 ·subst h1;exact absurd (if_pos rfl) ha
 ·have e:(M.del b0) a=M a:=if_neg h1;rw[e]at ha;have:=h.only a ha;simp at this;exact absurd this h1
end
structure Wz where
 M:Ac
 ov:AV
 ob:List Nat
theorem Nr (X:List (List Rat)):∀v∈(Cj X).map A4,v.cells.all AV.one=true:=by
 intro v hv;obtain⟨r,_,rfl⟩:=List.mem_map.1 hv;rfl
end Go.Av
end
