/- A part of the proof. -/
import Derived.Deep.DeepAppendWide
import Derived.Laws.IdiomCopy
import Derived.Below
import Derived.KernelRfl
import Derived.WalkKit
import Derived.Laws.Cover3
import Derived.Laws.Slices
import Derived.WalkSpells
import Derived.Deep.LoopGhost
import Derived.Scope
import Derived.Orders
import Derived.Test.YthflocfaafoohaaGreatProg
set_option linter.all false
set_option exponentiation.threshold 5000
set_option maxRecDepth 10000
section
namespace Go.Av
inductive AV where
 |any
 |bool (b:Bool)
 |int (k:IntKind) (n:Int)
 |str (s:ByteArray)
 |nil
 |sl (z:Nat) (l:List AV)
 |osl (b z i n:Nat)
 |ptr (b z i j:Nat)
 |rptr (cs:List AV)
 |nptr
 |agg (cs:List AV)
 |tup (vs:List AV)
 |fn (f:FuncId) (caps:List AV)
 |zc
 |nfn
 deriving Inhabited
def AV.cells:AV→List AV
 |.agg cs=>cs
 |v=>[v]
def AV.one:AV→Bool
 |.agg _ | .tup _ | .any=>false
 |_=>true
def A4 (l:List AV) (i j:Nat):Option AV:=(l[i]?).bind fun v=>v.cells[j]?
inductive VR (w:World) (F:Nat→Prop):AV→Value→Prop
 |any (v:Value):VR w F .any v
 |bool (b:Bool):VR w F (.bool b) (.bool b)
 |int (k:IntKind) (n:Int):VR w F (.int k n) (.int k n)
 |str (s:ByteArray):VR w F (.str s) (.string s)
 |nil:VR w F .nil (.slice none 0 0)
 |sl0 (z:Nat) (A:Option Addr) (c:Nat):VR w F (.sl z []) (.slice A 0 c)
 |sl (z:Nat) (l:List AV) (b o c:Nat) (f:Nat→Nat→Value) (hF:¬F b) (hb:b<w.heap.size) (hc:l.length≤c)
   (hz:∀v∈l,v.cells.length=z)
   (hv:∀i j u,A4 l i j=some u→VR w F u (f i j))
   (hm:∀i j u,A4 l i j=some u→w.cell? ⟨b,o+(i*z+j),none⟩=some (f i j)) :
   VR w F (.sl z l) (.slice (some ⟨b,o,none⟩) l.length c)
 |osl (b z i n c:Nat) (hc:n≤c) (hm:∃(cells:Array Value) (e:TypeId),w.heap[b]?=some (.cells cells e (0,0))∧(i+c)*z=cells.size) :
   VR w F (.osl b z i n) (.slice (some ⟨b,i*z,none⟩) n c)
 |ptr (b z i j:Nat):VR w F (.ptr b z i j) (.pointer (some ⟨b,i*z+j,none⟩))
 |rptr (cs:List AV) (b o:Nat) (f:Nat→Value) (hF:¬F b) (hb:b<w.heap.size)
   (hv:∀(j:Nat) (u:AV),cs[j]?=some u→VR w F u (f j))
   (hm:∀(j:Nat) (u:AV),cs[j]?=some u→w.cell? ⟨b,o+j,none⟩=some (f j)):VR w F (.rptr cs) (.pointer (some ⟨b,o,none⟩))
 |nptr:VR w F .nptr (.pointer none)
 |agg (cs:List AV) (vs:Array Value) (hs:vs.size=cs.length) (hv:∀(j:Nat) (u:AV) (v:Value),cs[j]?=some u→vs[j]?=some v→VR w F u v):VR w F (.agg cs) (.agg vs)
 |tup (cs:List AV) (vs:Array Value) (hs:vs.size=cs.length) (hv:∀(j:Nat) (u:AV) (v:Value),cs[j]?=some u→vs[j]?=some v→VR w F u v):VR w F (.tup cs) (.tuple vs)
 |fn (f:FuncId) (caps:List AV) (vs:Array Value) (hs:vs.size=caps.length) (hv:∀(j:Nat) (u:AV) (v:Value),caps[j]?=some u→vs[j]?=some v→VR w F u v):VR w F (.fn f caps) (.func (.func f) #[] vs)
 |zc (A:Option Addr):VR w F .zc (.slice A 0 0)
 |nfn:VR w F .nfn .nilFunc
structure Ez (G:Nat→Prop) (w w':World):Prop where
 os:w'.os=w.os
 tape:w'.tape=w.tape
 output:w'.output=w.output
 size:w.heap.size≤w'.heap.size
 block:∀b,b<w.heap.size→¬G b→w'.heap[b]?=w.heap[b]?
 shape:∀(b:Nat) (cells:Array Value) (e:TypeId),w.heap[b]?=some (.cells cells e (0,0))→∃cells':Array Value,w'.heap[b]?=some (.cells cells' e (0,0))∧cells'.size=cells.size
theorem Ez.refl (G:Nat→Prop) (w:World):Ez G w w:=⟨rfl,rfl,rfl,Nat.le_refl _,fun _ _ _=>rfl,fun _ cells _ h=>⟨cells,h,rfl⟩⟩
theorem Ez.trans {G:Nat→Prop} {a b c:World} (h:Ez G a b) (k:Ez G b c):Ez G a c :=
  ⟨k.os.trans h.os,k.tape.trans h.tape,k.output.trans h.output,Nat.le_trans h.size k.size,
   fun i hi hg=>(k.block i (Nat.lt_of_lt_of_le hi h.size) hg).trans (h.block i hi hg),
   fun i cells e hi=>by
    obtain⟨c1,h1,s1⟩:=h.shape i cells e hi
    obtain⟨c2,h2,s2⟩:=k.shape i c1 e h1
    exact⟨c2,h2,s2.trans s1⟩⟩
theorem Ez.mono {G G':Nat→Prop} {a b:World} (h:Ez G a b) (hg:∀x,x<a.heap.size→G x→G' x):Ez G' a b :=
 ⟨h.os,h.tape,h.output,h.size,fun i hi hn=>h.block i hi (fun x=>hn (hg i hi x)),h.shape⟩
theorem Ez.trans' {G G':Nat→Prop} {a b c:World} (h:Ez G a b) (k:Ez G' b c) (hg:∀x,x<a.heap.size→G' x→G x):Ez G a c :=
  ⟨k.os.trans h.os,k.tape.trans h.tape,k.output.trans h.output,Nat.le_trans h.size k.size,
   fun i hi hn=>(k.block i (Nat.lt_of_lt_of_le hi h.size) (fun x=>hn (hg i hi x))).trans (h.block i hi hn),
   fun i cells e hi=>by
    obtain⟨c1,h1,s1⟩:=h.shape i cells e hi
    obtain⟨c2,h2,s2⟩:=k.shape i c1 e h1
    exact⟨c2,h2,s2.trans s1⟩⟩
theorem Ez.cell {G:Nat→Prop} {w w':World} (h:Ez G w w') {a:Addr} (ha:a.block<w.heap.size) (hg:¬G a.block):w'.cell? a=w.cell? a :=
 World.cell?_of_block (h.block _ ha hg)
theorem VR.mono {w w':World} {F F' G:Nat→Prop} (hg:Ez G w w') (hG:∀b,b<w.heap.size→G b→F b) (hF:∀b,b<w.heap.size→F' b→F b) :
  ∀{a v},VR w F a v→VR w' F' a v:=by
 intro a v h
 induction h with
 |any v=>exact .any v
 |bool b=>exact .bool b
 |int k n=>exact .int k n
 |str s=>exact .str s
 |nil=>exact .nil
 |sl0 z A c=>exact .sl0 z A c
 |sl z l b o c f h1 hb hc hz hv hm ih =>
  exact .sl z l b o c f (fun x=>h1 (hF b hb x)) (Nat.lt_of_lt_of_le hb hg.size) hc hz ih
   (fun i j u hu=>by rw[hg.cell (a:=⟨b,o+(i*z+j),none⟩) hb (fun x=>h1 (hG b hb x))];exact hm i j u hu)
 |osl b z i n c hc hm =>
  obtain⟨cells,e,h1,h2⟩:=hm;obtain⟨cells',h3,h4⟩:=hg.shape b cells e h1;exact .osl b z i n c hc ⟨cells',e,h3,by rw[h4];exact h2⟩
 |ptr b z i j=>exact .ptr b z i j
 |rptr cs b o f h1 hb hv hm ih =>
  exact .rptr cs b o f (fun x=>h1 (hF b hb x)) (Nat.lt_of_lt_of_le hb hg.size) ih
   (fun j u hu=>by rw[hg.cell (a:=⟨b,o+j,none⟩) hb (fun x=>h1 (hG b hb x))];exact hm j u hu)
 |nptr=>exact .nptr
 |agg cs vs hs hv ih=>exact .agg cs vs hs ih
 |tup cs vs hs hv ih=>exact .tup cs vs hs ih
 |fn f caps vs hs hv ih=>exact .fn f caps vs hs ih
 |zc A=>exact .zc A
 |nfn=>exact .nfn
theorem VR.oneCell {w:World} {F:Nat→Prop} {a:AV} {v:Value} (h:VR w F a v) (h1:a.one=true):v.oneCell'=true:=by
 cases h<;>first | rfl | cases h1
theorem VR.cells {w:World} {F:Nat→Prop} {a:AV} {v:Value} (h:VR w F a v) (ha:a≠.any) :
  v.cells.size=a.cells.length∧∀(j:Nat) (u:AV) (x:Value),a.cells[j]?=some u→v.cells[j]?=some x→VR w F u x:=by
 cases h with
 |any v=>exact absurd rfl ha
 |agg cs vs hs hv=>exact⟨hs,hv⟩
 |_ =>
  refine⟨rfl,fun j u x hu hx=>?_⟩;rcases j with _ | j
  ·simp only[AV.cells,List.getElem?_cons_zero,Option.some.injEq]at hu;simp[Value.cells]at hx;subst hu;subst hx
   first | assumption | (constructor<;>assumption) | constructor
  ·simp[AV.cells]at hu
structure Fb where
 e:TypeId
 z:Nat
 l:List AV
abbrev Ac:=Nat→Option Fb
def Ac.emp:Ac:=fun _=>none
def Ac.set (m:Ac) (b:Nat) (x:Fb):Ac:=fun k=>if k=b then some x else m k
def Ac.del (m:Ac) (b:Nat):Ac:=fun k=>if k=b then none else m k
def C2 (F:Nat→Prop) (m:Ac):Nat→Prop:=fun b=>F b∨m b≠none
structure Qg6 (w:World) (F:Nat→Prop) (b:Nat) (x:Fb):Prop where
 z0:0<x.z
 zs:∀v∈x.l,v.cells.length=x.z
 ones:∀i j u,A4 x.l i j=some u→u.one=true
 mem:∃(cells:Array Value) (cap:Nat),w.heap[b]?=some (.cells cells x.e (0,0))∧cells.size=cap*x.z∧cap≤maxLen∧x.l.length≤cap ∧
  ∀i j u,A4 x.l i j=some u→∃v,cells[i*x.z+j]?=some v∧VR w F u v
def K4 (w:World) (F:Nat→Prop) (m:Ac):Prop:=∀b x,m b=some x→Qg6 w F b x
structure St where
 n:Nat
 r:Nat→AV
 m:Ac
def St.put (s:St) (d:Option Tmp) (v:AV):St :=
 match d with
 |some d=>{s with r:=fun t=>if t=d then v else s.r t}
 |none=>s
structure Ee (F:Nat→Prop) (G:Nat→Prop) (w0:World) (s:St) (a:Act) (w:World):Prop where
 size:a.tmps.size=s.n
 regs:∀t,t<s.n→VR w (C2 F s.m) (s.r t) (a.tmps.getD t undef)
 heap:K4 w (C2 F s.m) s.m
 defers:a.defers=[]
 grow:Ez G w0 w
 far:∀b,F b→b<w0.heap.size∧s.m b=none
 own:∀b,s.m b≠none→G b∨w0.heap.size≤b
end Go.Av
end
section
namespace Go.Av
theorem Qg6.mono {w w':World} {F F' G:Nat→Prop} {b:Nat} {x:Fb} (h:Qg6 w F b x) (hg:Ez G w w') (hb:¬G b)
  (hG:∀b,b<w.heap.size→G b→F b) (hF:∀b,b<w.heap.size→F' b→F b):Qg6 w' F' b x:=by
 obtain⟨z0,zs,ones,cells,cap,h1,h2,h3,h4,h5⟩:=h;have hlt:b<w.heap.size:=(Array.getElem?_eq_some_iff.1 h1).1;refine⟨z0,zs,ones,cells,cap,(hg.block b hlt hb).trans h1,h2,h3,h4,fun i j u hu=>?_⟩;obtain⟨v,hv,hr⟩:=h5 i j u hu;exact⟨v,hv,hr.mono hg hG hF⟩
theorem Ee.lt {F G:Nat→Prop} {w0 w:World} {s:St} {a:Act} (h:Ee F G w0 s a w) {b:Nat} (hb:s.m b≠none):b<w.heap.size:=by
 cases hx:s.m b with
 |none=>exact absurd hx hb
 |some x =>
  obtain⟨_,_,_,cells,cap,h1,_⟩:=h.heap b x hx;exact(Array.getElem?_eq_some_iff.1 h1).1
theorem Ee.world {F G:Nat→Prop} {w0 w w':World} {s:St} {a:Act} (h:Ee F G w0 s a w) (m':Ac)
  (hg:Ez (fun b=>s.m b≠none) w w') (hh:K4 w' (C2 F m') m') (hd:∀b,m' b≠none→s.m b≠none∨w.heap.size≤b):Ee F G w0 {s with m:=m'} a w' where
 size:=h.size
 regs:=fun t ht=>(h.regs t ht).mono hg (fun _ _ x=>.inr x) (fun b hb x=>by
  rcases x with x|x
  ·exact .inl x
  ·rcases hd b x with y|y
   ·exact .inr y
   ·omega)
 heap:=hh
 defers:=h.defers
 grow:=h.grow.trans' hg (fun x hx hm=>by
  rcases h.own x hm with y|y
  ·exact y
  ·omega)
 far:=fun b hb=>by
  refine⟨(h.far b hb).1,?_⟩;cases hx:m' b with
  |none=>exact hx
  |some y =>
   rcases hd b (by rw[hx];simp)with z|z
   ·exact absurd (h.far b hb).2 z
   ·have:=(h.far b hb).1;have:=h.grow.size;omega
 own:=fun b hb=>by
  rcases hd b hb with z|z
  ·exact h.own b z
  ·have:=h.grow.size;exact .inr (by omega)
theorem O9 {a:Array Value} {d t:Nat} {v:Value} (hd:d<a.size):(a.setIfInBounds d v).getD t undef=if t=d then v else a.getD t undef:=by
 simp only[Array.getD_eq_getD_getElem?,Array.getElem?_setIfInBounds];by_cases h:t=d
 ·subst h;simp[hd]
 ·simp[h,Ne.symm h]
def L5 (n:Nat):Option Tmp→Bool
 |some d=>Nat.blt d n
 |none=>true
theorem Ee.put {F G:Nat→Prop} {w0 w:World} {s:St} {a:Act} (h:Ee F G w0 s a w) {d:Option Tmp} (hd:L5 s.n d=true) {v:AV} {cv:Value} (hv:VR w (C2 F s.m) v cv):Ee F G w0 (s.put d v) (a.put d cv) w:=by
 cases d with
 |none=>exact h
 |some d =>
  have hd':d<s.n:=by simpa[L5,Nat.blt_eq]using hd
  refine⟨?_,?_,h.heap,h.defers,h.grow,h.far,h.own⟩
  ·show(a.tmps.setIfInBounds d cv).size=s.n
   rw[Array.size_setIfInBounds];exact h.size
  ·intro t ht;show VR w (C2 F s.m) (if t=d then v else s.r t) ((a.tmps.setIfInBounds d cv).getD t undef)
   rw[O9 (by rw[h.size];exact hd')];by_cases e:t=d
   ·rw[if_pos e,if_pos e];exact hv
   ·rw[if_neg e,if_neg e];exact h.regs t ht
theorem Ee.drew {F G:Nat→Prop} {w0 w:World} {s:St} {a:Act} (h:Ee F G w0 s a w):Ee F G w0 s a w.drew:=by
 have hg:Ez (fun b=>s.m b≠none) w w.drew:=⟨rfl,rfl,rfl,Nat.le_refl _,fun _ _ _=>rfl,fun _ c _ hc=>⟨c,hc,rfl⟩⟩;have:=h.world s.m hg (fun b x hx=>by
  obtain⟨z0,zs,ones,cells,cap,h1,h2,h3,h4,h5⟩:=h.heap b x hx;refine⟨z0,zs,ones,cells,cap,h1,h2,h3,h4,fun i j u hu=>?_⟩;obtain⟨v,hv,hr⟩:=h5 i j u hu;exact⟨v,hv,hr.mono hg (fun _ _ x=>.inr x) (fun _ _ x=>x)⟩) (fun b hb=>.inl hb)
 exact this
theorem Hg (G:Nat→Prop) (w:World) (o:Obj):Ez G w (w.alloc o) :=
 ⟨rfl,rfl,rfl,by simp,fun b hb _=>RowKit.Below.heap_alloc w o b hb,fun b cells e h=>⟨cells,by
  rw[RowKit.Below.heap_alloc w o b (Array.getElem?_eq_some_iff.1 h).1];exact h,rfl⟩⟩
theorem Iw (w:World) (o:Obj):(w.alloc o).heap[w.heap.size]?=some o:=by
 show(w.heap.push o)[w.heap.size]?=some o
 simp
theorem Ee.allocRo {F G:Nat→Prop} {w0 w:World} {s:St} {a:Act} (h:Ee F G w0 s a w) (o:Obj):Ee F G w0 s a (w.alloc o):=by
 have hg:=Hg (fun b=>s.m b≠none) w o;exact h.world s.m hg (fun b x hx=>(h.heap b x hx).mono (Hg (fun _=>False) w o) (by simp) (fun _ _ x=>x.elim) (fun _ _ x=>x)) (fun b hb=>.inl hb)
theorem Ee.fresh {F G:Nat→Prop} {w0 w:World} {s:St} {a:Act} (h:Ee F G w0 s a w):s.m w.heap.size=none:=by
 cases hx:s.m w.heap.size with
 |none=>rfl
 |some x=>exact absurd (h.lt (b:=w.heap.size) (by rw[hx];simp)) (by omega)
theorem Ac.set_same (m:Ac) (b:Nat) (x:Fb):(m.set b x) b=some x:=by simp[Ac.set]
theorem Ac.set_other (m:Ac) {b k:Nat} (x:Fb) (h:k≠b):(m.set b x) k=m k:=by simp[Ac.set,h]
theorem Ac.del_same (m:Ac) (b:Nat):(m.del b) b=none:=by simp[Ac.del]
theorem Ac.del_other (m:Ac) {b k:Nat} (h:k≠b):(m.del b) k=m k:=by simp[Ac.del,h]
theorem Ee.alloc {F G:Nat→Prop} {w0 w:World} {s:St} {a:Act} (h:Ee F G w0 s a w) (x:Fb) (cells:Array Value)
  (hz:0<x.z) (hzs:∀v∈x.l,v.cells.length=x.z) (hones:∀i j u,A4 x.l i j=some u→u.one=true) (cap:Nat) (hs:cells.size=cap*x.z) (hcap:cap≤maxLen) (hl:x.l.length≤cap)
  (hv:∀i j u,A4 x.l i j=some u→∃v,cells[i*x.z+j]?=some v∧VR w (C2 F s.m) u v) :
  Ee F G w0 {s with m:=s.m.set w.heap.size x} a (w.alloc (.cells cells x.e)):=by
 have hg:=Hg (fun b=>s.m b≠none) w (.cells cells x.e);have hF:∀b,b<w.heap.size→C2 F (s.m.set w.heap.size x) b→C2 F s.m b:=by
  intro b hb y;rcases y with y | y
  ·exact .inl y
  ·rw[Ac.set_other _ _ (by omega)]at y;exact .inr y
 refine h.world _ hg (fun b y hy=>?_) (fun b hb=>?_)
 ·by_cases hbs:b=w.heap.size
  ·subst hbs;rw[Ac.set_same]at hy;cases hy;refine⟨hz,hzs,hones,cells,cap,Iw w _,hs,hcap,hl,fun i j u hu=>?_⟩;obtain⟨v,h1,h2⟩:=hv i j u hu;exact⟨v,h1,h2.mono hg (fun _ _ x=>.inr x) hF⟩
  ·rw[Ac.set_other _ _ hbs]at hy;exact(h.heap b y hy).mono (Hg (fun _=>False) w _) (by simp) (fun _ _ x=>x.elim) hF
 ·by_cases hbs:b=w.heap.size
  ·exact .inr (by omega)
  ·rw[Ac.set_other _ _ hbs]at hb;exact .inl hb
theorem Qci {w:World} {b:Nat} {cells cells':Array Value} {e:TypeId} (hw:w.heap[b]?=some (.cells cells e (0,0))) (hs:cells'.size=cells.size):Ez (fun k=>k=b) w (w.setRow b cells') where
 os:=rfl
 tape:=rfl
 output:=rfl
 size:=by simp[World.setRow]
 block:=fun k _ hk=>setRow_other w b k cells' hk
 shape:=fun k c e' hc=>by
  by_cases hk:k=b
  ·subst hk;rw[hw]at hc;cases hc;exact⟨cells',setRow_heap w k cells cells' _ _ hw,hs⟩
  ·exact⟨c,by rw[setRow_other w b k cells' hk];exact hc,rfl⟩
theorem Ee.setRow {F G:Nat→Prop} {w0 w:World} {s:St} {a:Act} (h:Ee F G w0 s a w) {b:Nat} {x:Fb} (hx:s.m b=some x) (x':Fb) (he:x'.e=x.e) (hz:x'.z=x.z)
  {cells:Array Value} (hw:w.heap[b]?=some (.cells cells x.e (0,0))) (cells':Array Value) (hs:cells'.size=cells.size) (hlen:x'.l.length*x.z≤cells.size)
  (hzs:∀v∈x'.l,v.cells.length=x.z) (hones:∀i j u,A4 x'.l i j=some u→u.one=true)
  (hv:∀i j u,A4 x'.l i j=some u→∃v,cells'[i*x.z+j]?=some v∧VR w (C2 F s.m) u v):Ee F G w0 {s with m:=s.m.set b x'} a (w.setRow b cells'):=by
 have hg1:=Qci hw hs;have hg:Ez (fun b=>s.m b≠none) w (w.setRow b cells'):=hg1.mono (fun k _ hk=>by rw[hk,hx];simp);have hF:∀k,k<w.heap.size→C2 F (s.m.set b x') k→C2 F s.m k:=by
  intro k hk y;rcases y with y | y
  ·exact .inl y
  ·by_cases hkb:k=b
   ·subst hkb;exact .inr (by rw[hx];simp)
   ·rw[Ac.set_other _ _ hkb]at y;exact .inr y
 refine h.world _ hg (fun k y hy=>?_) (fun k hk=>?_)
 ·by_cases hkb:k=b
  ·subst hkb;rw[Ac.set_same]at hy;cases hy;obtain⟨z0,zs,ones,cells0,cap,h1,h2,h3,h4,h5⟩:=h.heap k x hx;rw[hw]at h1;cases h1;refine⟨by rw[hz];exact z0,by rw[hz];exact hzs,hones,cells',cap,by rw[he];exact setRow_heap w k cells cells' _ _ hw,by rw[hs,hz];exact h2,h3,Nat.le_of_mul_le_mul_right (by rw[←h2];exact hlen) z0,fun i j u hu=>?_⟩;obtain⟨v,e1,e2⟩:=hv i j u hu;exact⟨v,by rw[hz];exact e1,e2.mono hg (fun _ _ x=>.inr x) hF⟩
  ·rw[Ac.set_other _ _ hkb]at hy;exact(h.heap k y hy).mono hg1 hkb (fun k' _ hk'=>by subst hk';exact .inr (by rw[hx];simp)) hF
 ·by_cases hkb:k=b
  ·subst hkb;exact .inl (by rw[hx];simp)
  ·rw[Ac.set_other _ _ hkb]at hk;exact .inl hk
theorem Ee.drop {F G:Nat→Prop} {w0 w:World} {s:St} {a:Act} (h:Ee F G w0 s a w) (m':Ac) (hm:∀b x,m' b=some x→s.m b=some x):Ee F G w0 {s with m:=m'} a w:=by
 have hd:∀b,m' b≠none→s.m b≠none:=by
  intro b hb;cases hx:m' b with
  |none=>exact absurd hx hb
  |some x=>rw[hm b x hx];simp
 exact h.world m' (Ez.refl _ w) (fun b x hx=>(h.heap b x (hm b x hx)).mono (Ez.refl (fun _=>False) w) (fun x=>x) (fun _ _ x=>x.elim) (fun k _ hk=>by
  rcases hk with hk|hk
  ·exact .inl hk
  ·exact .inr (hd k hk))) (fun b hb=>.inl (hd b hb))
end Go.Av
end
section
namespace Go.Av
inductive Mc where
 |int (k:IntKind) | bool | str | slice (e:TypeId) | ptr (e:TypeId) | struct | array (n:Nat) (e:TypeId) | func | other
structure TI where
 size:Nat
 bytes:Nat
 cls:Mc
 zero:AV
 fields:List (Nat × Nat × Option Bool)
def Ds:TypeDesc→Mc
 |.int k=>.int k
 |.bool=>.bool
 |.string=>.str
 |.slice e=>.slice e
 |.pointer e=>.ptr e
 |.struct _=>.struct
 |.array n e=>.array n e
 |.func _ _ _=>.func
 |_=>.other
def Mc.agg:Mc→Bool
 |.struct | .array _ _=>true
 |_=>false
def Ql8:Value→AV
 |.bool b=>.bool b
 |.int k n=>.int k n
 |.string s=>.str s
 |.slice none 0 0=>.nil
 |.pointer none=>.nptr
 |.func (.func f) #[] #[]=>.fn f []
 |.nilFunc=>.nfn
 |_=>.any
def Rd:Value→AV
 |.agg cs=>.agg (cs.toList.map Ql8)
 |v=>Ql8 v
theorem Qb6 (w:World) (F:Nat→Prop) (v:Value):VR w F (Ql8 v) v:=by
 cases v with
 |bool b=>exact .bool _
 |int k n=>exact .int _ _
 |string s=>exact .str _
 |slice A n c =>
  cases A with
  |some _=>exact .any _
  |none =>
   match n,c with
   |0,0=>exact .nil
   |0,_+1=>exact .any _
   |_+1,_=>exact .any _
 |pointer A=>cases A with
  |none=>exact .nptr
  |some _=>exact .any _
 |func fn first captured =>
  match fn,first,captured with
  |.func f,⟨[]⟩,⟨[]⟩=>exact .fn _ _ _ rfl (fun j u v hu=>by simp at hu)
  |.func f,⟨_::_⟩,_=>exact .any _
  |.func f,⟨[]⟩,⟨_::_⟩=>exact .any _
  |.method _,_,_=>exact .any _
  |.methodOf _ _,_,_=>exact .any _
  |.via _ _ _ _,_,_=>exact .any _
  |.yield _,_,_=>exact .any _
 |nilFunc=>exact .nfn
 |_=>exact .any _
theorem Ig (w:World) (F:Nat→Prop) (v:Value):VR w F (Rd v) v:=by
 unfold Rd;split
 ·rename_i cs
  refine .agg _ _ (by simp) (fun j u v hu hv=>?_);rw[List.getElem?_map]at hu;have:cs.toList[j]?=some v:=by rw[Array.getElem?_toList];exact hv
  rw[this]at hu;cases hu;exact Qb6 w F v
 ·exact Qb6 w F v
def Qh0 (P:Program) (t:TypeId):Option Bool:=(P.underlying t).map fun d=>(Ds d).agg
def Ai (P:Program) (t:TypeId):Option TI :=
 match P.info? t,P.underlying t with
 |some i,some d=>i.zero.map fun z =>
  {size:=i.size,bytes:=i.bytes,cls:=Ds d,zero:=Rd z,
   fields:=match d with
    |.struct fs=>fs.toList.map fun f=>(f.offset,P.cellsOf f.type,Qh0 P f.type)
    |_=>[]}
 |_,_=>none
structure Q3c (P:Program) (t:TypeId) (ti:TI):Prop where
 get:∃i d z,P.info? t=some i∧P.underlying t=some d∧i.zero=some z∧i.size=ti.size∧i.bytes=ti.bytes∧Ds d=ti.cls∧Rd z=ti.zero ∧
  ti.fields=(match d with
    |.struct fs=>fs.toList.map fun f=>(f.offset,P.cellsOf f.type,Qh0 P f.type)
    |_=>[])
theorem Eu {P:Program} {t:TypeId} {ti:TI} (h:Ai P t=some ti):Q3c P t ti:=by
 unfold Ai at h;split at h
 ·rename_i i d hi hd
  cases hz:i.zero with
  |none=>simp[hz]at h
  |some z =>
   simp only[hz,Option.map_some,Option.some.injEq]at h;subst h;exact⟨i,d,z,hi,hd,hz,rfl,rfl,rfl,rfl,rfl⟩
 ·cases h
theorem X3 {P:Program} {t:TypeId} {d:TypeDesc} (h:P.underlying t=some d) (w:World):(isAgg t).run P w=.ok (Ds d).agg w:=by
 unfold isAgg;simp only[Sem.run_bind,run_underlying h,Result.andThen_ok];cases d<;>rfl
theorem Fz {P:Program} {t:TypeId} {i:TypeInfo} (h:P.info? t=some i) (w:World):(sizeOf t).run P w=.ok i.size w:=by
 simp[sizeOf,typeInfo,h]
def St.ev (s:St):Operand→AV
 |.tmp t=>s.r t
 |.const v=>Rd v
 |.func f=>.fn f []
 |.global _=>.any
def G6 (n:Nat):Operand→Bool
 |.tmp t=>Nat.blt t n
 |_=>true
theorem Ee.ev {F G:Nat→Prop} {w0 w:World} {s:St} {a:Act} (h:Ee F G w0 s a w) {x:Operand} (hx:G6 s.n x=true):VR w (C2 F s.m) (s.ev x) (a.eval x):=by
 cases x with
 |tmp t=>exact h.regs t (by simpa[G6,Nat.blt_eq]using hx)
 |const v=>exact Ig _ _ v
 |func f=>exact .fn f [] #[] rfl (fun j u v hu=>by simp at hu)
 |global g=>exact .any _
/-! ### Parts of aggregates -/
def G7 (agg:Bool) (size:Nat) (cs:List AV) (j:Nat):Option AV :=
 if agg=true then (if j+size≤cs.length then some (.agg ((cs.drop j).take size)) else none) else cs[j]?
def G9 (op:BinOp) (k:IntKind) (x y:Int):Int :=
 let a:=BitVec.ofInt k.bits x
 let b:=BitVec.ofInt k.bits y
 match op with
 |.and=>k.wrap (a &&& b).toNat
 |.or=>k.wrap (a ||| b).toNat
 |.xor=>k.wrap (a ^^^ b).toNat
 |.andNot=>k.wrap (a &&& ~~~b).toNat
 |_=>0
def G5 (op:BinOp) (k:IntKind) (a b:Int):Option AV :=
 match op with
 |.add=>some (.int k (k.wrap (a+b)))
 |.sub=>some (.int k (k.wrap (a-b)))
 |.mul=>some (.int k (k.wrap (a*b)))
 |.quo=>if b=0 then none else some (.int k (k.wrap (a.tdiv b)))
 |.rem=>if b=0 then none else some (.int k (a.tmod b))
 |.and=>some (.int k (G9 .and k a b))
 |.or=>some (.int k (G9 .or k a b))
 |.xor=>some (.int k (G9 .xor k a b))
 |.andNot=>some (.int k (G9 .andNot k a b))
 |.eql=>some (.bool (a==b))
 |.neq=>some (.bool (a != b))
 |.lss=>some (.bool (decide (a<b)))
 |.leq=>some (.bool (decide (a≤b)))
 |.gtr=>some (.bool (decide (b<a)))
 |.geq=>some (.bool (decide (b≤a)))
 |_=>none
def Nh:AV→Option Bool
 |.nil=>some true
 |.osl _ _ _ _=>some false
 |.sl _ l=>if l=[] then none else some false
 |_=>none
def Cs (cls:Mc) (op:BinOp) (x y:AV):Option AV :=
 match x,y with
 |.int k a,.int k' b =>
  match op with
  |.shl=>if 0≤b then some (.int k (k.wrap (a*2^(min b.toNat k.bits)))) else none
  |.shr=>if 0≤b then some (.int k (a.fdiv (2^(min b.toNat k.bits)))) else none
  |op=>if k=k' then G5 op k a b else none
 |.bool a,.bool b =>
  match cls,op with
  |.bool,.eql=>some (.bool (a==b))
  |.bool,.neq=>some (.bool (!(a==b)))
  |_,_=>none
 |x,.nil =>
  match cls,op with
  |.slice _,.eql=>(Nh x).map .bool
  |.slice _,.neq=>(Nh x).map fun b=>.bool !b
  |_,_=>none
 |_,_=>none
theorem Fm {P:Program} (op:BinOp) (t:TypeId) (x y:Operand) (a b:Value) (w:World) (h:(match a with | .nilIface | .agg _=>false | _=>true)=true):(eqGuard op t x y a b).run P w=.ok () w:=by
 unfold eqGuard;cases a<;>cases op<;>simp_all
theorem Qcw {P:Program} {op:BinOp} {k:IntKind} {a b:Int} {v:AV} (h:G5 op k a b=some v) (hs:op≠.shl) (hr:op≠.shr) (t:TypeId) (w:World) (F:Nat→Prop) :
  ∃cv,(binOp op t (.int k a) (.int k b)).run P w=.ok cv w∧VR w F v cv:=by
 unfold G5 at h;cases op<;>simp only[reduceCtorEq,Option.some.injEq]at h<;>(try exact absurd rfl hs)<;>(try exact absurd rfl hr)<;>(try subst h)
 case quo =>
  split at h
  ·cases h
  ·rename_i hb
   cases h;exact⟨_,by simp[binOp,Op.intDiv,hb],.int _ _⟩
 case rem =>
  split at h
  ·cases h
  ·rename_i hb
   cases h;exact⟨_,by simp[binOp,Op.intDiv,hb],.int _ _⟩
 case and=>exact⟨.int k (G9 .and k a b),by simp only[binOp,ne_eq,not_true_eq_false,if_false];rfl,.int _ _⟩
 case or=>exact⟨.int k (G9 .or k a b),by simp only[binOp,ne_eq,not_true_eq_false,if_false];rfl,.int _ _⟩
 case xor=>exact⟨.int k (G9 .xor k a b),by simp only[binOp,ne_eq,not_true_eq_false,if_false];rfl,.int _ _⟩
 case andNot=>exact⟨.int k (G9 .andNot k a b),by simp only[binOp,ne_eq,not_true_eq_false,if_false];rfl,.int _ _⟩
 case add=>exact⟨_,by simp[binOp,Op.intArith],.int _ _⟩
 case sub=>exact⟨_,by simp[binOp,Op.intArith],.int _ _⟩
 case mul=>exact⟨_,by simp[binOp,Op.intArith],.int _ _⟩
 all_goals exact⟨_,by simp[binOp,Op.intCmp],.bool _⟩
theorem Tv {P:Program} (w:World) (d:Nat) (t e:TypeId) (a:Option Addr) (l c:Nat) (h:P.underlying t=some (.slice e)):(Op.equalIn (d+1) t (.slice a l c) (.slice none 0 0)).run P w=.ok a.isNone w:=by
 cases a<;>simp[Op.equalIn,run_underlying h]
theorem Oc {P:Program} (w:World) (t e:TypeId) (a:Option Addr) (l c:Nat) (h:P.underlying t=some (.slice e)):(Op.equal t (.slice a l c) (.slice none 0 0)).run P w=.ok a.isNone w:=Tv w 9999 t e a l c h
theorem VR.sliceNil {w:World} {F:Nat→Prop} {x:AV} {v:Value} {b:Bool} (h:VR w F x v) (hn:Nh x=some b):∃A n c,v=.slice A n c∧A.isNone=b∧(b=true→n=0∧c=0):=by
 cases h<;>simp[Nh]at hn
 ·subst hn;exact⟨_,_,_,rfl,rfl,fun _=>⟨rfl,rfl⟩⟩
 ·obtain⟨_,rfl⟩:=hn;exact⟨_,_,_,rfl,rfl,fun h=>by cases h⟩
 ·subst hn;exact⟨_,_,_,rfl,rfl,fun h=>by cases h⟩
theorem Qbp {P:Program} {t:TypeId} {ti:TI} (ht:Ai P t=some ti) {op:BinOp} {x y v:AV} {cx cy:Value} {w:World} {F:Nat→Prop} (hx:VR w F x cx) (hy:VR w F y cy) (h:Cs ti.cls op x y=some v) (ox oy:Operand) :
  ∃cv,((do eqGuard op t ox oy cx cy;binOp op t cx cy:Sem Value)).run P w=.ok cv w∧VR w F v cv:=by
 obtain⟨i,d,z,hi,hd,hz,h1,h2,h3,h4,h5⟩:=(Eu ht).get;unfold Cs at h;split at h
 ·-- whole numbers
  cases hx;cases hy
  rename_i k a k' b
  simp only[Sem.run_bind,Fm op t ox oy (.int k a) (.int k' b) w rfl,Result.andThen_ok];split at h
  ·split at h
   ·rename_i hb
    cases h;exact⟨_,by simp[binOp,Op.shift,Int.not_lt.2 hb],.int _ _⟩
   ·cases h
  ·split at h
   ·rename_i hb
    cases h;exact⟨_,by simp[binOp,Op.shift,Int.not_lt.2 hb],.int _ _⟩
   ·cases h
  ·split at h
   ·rename_i hk
    subst hk;exact Qcw h (by intro e;subst e;simp_all) (by intro e;subst e;simp_all) t w F
   ·cases h
 ·-- bools
  cases hx;cases hy
  rename_i a b
  simp only[Sem.run_bind,Fm op t ox oy (.bool a) (.bool b) w rfl,Result.andThen_ok];split at h
  ·rename_i hc
   rw[←h3]at hc;have hd':d=.bool:=by cases d<;>simp_all[Ds]
   subst hd';cases h;exact⟨_,by simp[binOp,run_equal_bool w t a b hd],.bool _⟩
  ·rename_i hc
   rw[←h3]at hc;have hd':d=.bool:=by cases d<;>simp_all[Ds]
   subst hd';cases h;exact⟨_,by simp[binOp,run_equal_bool w t a b hd],.bool _⟩
  ·cases h
 ·-- a slice against nil
  cases hy;split at h
  ·rename_i e hc
   rw[←h3]at hc;have hd':d=.slice e:=by cases d<;>simp_all[Ds]
   subst hd';cases hn:Nh x with
   |none=>simp[hn]at h
   |some b =>
    simp only[hn,Option.map_some,Option.some.injEq]at h;subst h;obtain⟨A,n,c,rfl,hA,_⟩:=hx.sliceNil hn;simp only[Sem.run_bind,Fm _ t ox oy (.slice A n c) (.slice none 0 0) w rfl,Result.andThen_ok];exact⟨.bool b,by simp[binOp,Oc w t e A n c hd,hA],.bool _⟩
  ·rename_i e hc
   rw[←h3]at hc;have hd':d=.slice e:=by cases d<;>simp_all[Ds]
   subst hd';cases hn:Nh x with
   |none=>simp[hn]at h
   |some b =>
    simp only[hn,Option.map_some,Option.some.injEq]at h;subst h;obtain⟨A,n,c,rfl,hA,_⟩:=hx.sliceNil hn;simp only[Sem.run_bind,Fm _ t ox oy (.slice A n c) (.slice none 0 0) w rfl,Result.andThen_ok];exact⟨.bool (!b),by simp[binOp,Oc w t e A n c hd,hA],.bool _⟩
  ·cases h
 ·cases h
end Go.Av
end
section
namespace Go.Av
def Gb (m:Ac) (ti:TI) (a:AV):Option AV :=
 match a with
 |.ptr b z i j =>
  match m b with
  |some x=>if x.z=z then (x.l[i]?).bind fun v=>G7 ti.cls.agg ti.size v.cells j else none
  |none=>none
 |.rptr cs=>G7 ti.cls.agg ti.size cs 0
 |_=>none
def Dd (ti:TI) (f:Nat) (a:AV):Option AV :=
 match ti.cls,ti.fields[f]? with
 |.struct,some (off,size,_) =>
  if size=0 then none else
  match a with
  |.ptr b z i j=>some (.ptr b z i (j+off))
  |.rptr cs=>some (.rptr (cs.drop off))
  |_=>none
 |_,_=>none
def Nr (ti:TI) (f:Nat) (a:AV):Option AV :=
 match ti.cls,ti.fields[f]?,a with
 |.struct,some (off,size,some agg),.agg cs=>G7 agg size cs off
 |_,_,_=>none
def Ca (P:Program) (ti:TI) (x i:AV):Option AV :=
 match ti.cls,i with
 |.slice e,.int _ n =>
  match Ai P e with
  |some te =>
   match x with
   |.sl z l=>if z=te.size∧0≤n∧n<l.length then some (.rptr (l.getD n.toNat .any).cells) else none
   |.osl b z i0 n0=>if z=te.size∧0≤n∧n<n0 then some (.ptr b z (i0+n.toNat) 0) else none
   |_=>none
  |none=>none
 |.array m e,.int _ n =>
  match Ai P e with
  |some te=>if 0≤n∧n<m then (match x with
   |.ptr b z i0 j=>some (.ptr b z i0 (j+n.toNat*te.size))
   |.rptr cs=>some (.rptr (cs.drop (n.toNat*te.size)))
   |_=>none) else none
  |none=>none
 |_,_=>none
def Nv (ti:TI) (x i:AV):Option AV :=
 match ti.cls,x,i with
 |.str,.str s,.int _ n=>if h:0≤n∧n.toNat<s.size then some (.int .u8 (s[n.toNat]'h.2).toNat) else none
 |_,_,_=>none
def intOf?:AV→Option Int
 |.int _ n=>some n
 |_=>none
def E9 (n:Nat) (lo hi:Option AV):Option (Nat × Nat) :=
 match (match lo with | none=>some 0 | some v=>intOf? v),(match hi with | none=>some (n:Int) | some v=>intOf? v)with
 |some l,some h=>if 0≤l∧l≤h∧h≤n then some (l.toNat,h.toNat) else none
 |_,_=>none
def Ih (P:Program) (ti:TI) (x:AV) (lo hi:Option AV):Option AV :=
 match ti.cls with
 |.slice e =>
  match Ai P e with
  |some te =>
   match x with
   |.sl z l=>if z=te.size then (E9 l.length lo hi).map fun(a,b)=>.sl z ((l.drop a).take (b-a)) else none
   |.osl b z i n=>if z=te.size then (E9 n lo hi).map fun(l,h)=>if l=0 then .osl b z i h else if h=l then .sl z [] else .osl b z (i+l) (h-l) else none
   |.nil=>(E9 0 lo hi).map fun _=>.nil
   |_=>none
  |none=>none
 |.str =>
  match x with
  |.str s=>(E9 s.size lo hi).map fun(l,h)=>.str (s.extract l h)
  |_=>none
 |_=>none
def V1:AV→Option Nat
 |.sl _ l=>some l.length
 |.osl _ _ _ n=>some n
 |.nil=>some 0
 |_=>none
def Mq (P:Program) (ti:TI) (x:AV) (lo hi:Option AV) (m:AV):Option AV :=
 match ti.cls,intOf? m,hi with
 |.slice e,some m,some h=>(Ai P e).bind fun _ =>
  match V1 x with
  |some n=>if 0≤m∧m≤n then (E9 m.toNat lo (some h)).map fun(a,_)=>if m.toNat=a then .zc else .any else none
  |none=>none
 |_,_,_=>none
def Qjj (op:UnOp) (x:AV):Option AV :=
 match op,x with
 |.not,.bool b=>some (.bool !b)
 |.neg,.int k n=>some (.int k (k.wrap (0-n)))
 |.xor,.int k n=>some (.int k (G9 .xor k (if k.signed then -1 else k.max) n))
 |_,_=>none
def U5 (td:TI) (x:AV):Option AV :=
 match td.cls,x with
 |.int k,.int _ n=>some (.int k (k.wrap n))
 |.str,.str s=>some (.str s)
 |_,_=>none
def L4 (ti:TI) (x:AV):Option AV :=
 match ti.cls,x with
 |.slice _,.sl _ l=>some (.int .i64 l.length)
 |.slice _,.osl _ _ _ n=>some (.int .i64 n)
 |.slice _,.nil=>some (.int .i64 0)
 |.slice _,.zc=>some (.int .i64 0)
 |.str,.str s=>some (.int .i64 s.size)
 |_,_=>none
def Jh (places:List (Nat × Nat × Option Bool)) (cells:List AV):List (Nat × AV)→Option (List AV)
 |[]=>some cells
 |(i,v)::rest =>
  match places[i]? with
  |some (off,size,_)=>if v.cells.length=size∧off+size≤cells.length then (match v with | .any=>none | _=>Jh places (cells.take off++v.cells++cells.drop (off+size)) rest) else none
  |none=>none
def Qr (ti:TI) (parts:List (Nat × AV)):Option AV :=
 match ti.cls,ti.zero with
 |.struct,.agg zs=>if ti.fields.all (fun f=>f.2.1 != 0)=true then (Jh ti.fields zs parts).map .agg else none
 |_,_=>none
def Rq (P:Program) (o:Oper) (s:St):Option AV :=
 match o.op with
 |.move x=>some (s.ev x)
 |.assign x=>some (s.ev x)
 |.pick c a b=>match s.ev c with | .bool t=>some (if t=true then s.ev a else s.ev b) | _=>none
 |.build t parts=>(Ai P t).bind fun ti=>Qr ti (parts.toList.map fun p=>(p.1,s.ev p.2))
 |.load t a=>(Ai P t).bind fun ti=>Gb s.m ti (s.ev a)
 |.nilCheck x=>match s.ev x with | .ptr b z i j=>some (.ptr b z i j) | .rptr cs=>some (.rptr cs) | .fn f cs=>some (.fn f cs) | _=>none
 |.binOp op t x y _=>(Ai P t).bind fun ti=>Cs ti.cls op (s.ev x) (s.ev y)
 |.unOp op _ x=>Qjj op (s.ev x)
 |.convert src dst x=>(Ai P src).bind fun _=>(Ai P dst).bind fun td=>U5 td (s.ev x)
 |.makeFunc (.func f) first captured=>if first.size=0 then some (.fn f (captured.toList.map s.ev)) else none
 |.slice t x lo hi mx=>match mx with | none=>(Ai P t).bind fun ti=>Ih P ti (s.ev x) (lo.map s.ev) (hi.map s.ev) | some m=>(Ai P t).bind fun ti=>Mq P ti (s.ev x) (lo.map s.ev) (hi.map s.ev) (s.ev m)
 |.fieldAddr t x f=>(Ai P t).bind fun ti=>Dd ti f (s.ev x)
 |.field t x f=>(Ai P t).bind fun ti=>Nr ti f (s.ev x)
 |.indexAddr t x i=>(Ai P t).bind fun ti=>Ca P ti (s.ev x) (s.ev i)
 |.index t x i=>(Ai P t).bind fun ti=>Nv ti (s.ev x) (s.ev i)
 |.extract t i=>match s.ev t with | .tup vs=>vs[i]? | _=>none
 |.call c =>
  match c.callee,c.args.toList,c.argTypes.toList with
  |.builtin .len,[x],[t]=>(Ai P t).bind fun ti=>L4 ti (s.ev x)
  |.builtin .max,[x,y],_=>match s.ev x,s.ev y with | .int k a,.int _ b=>some (.int k (if a<b then b else a)) | _,_=>none
  |.builtin .min,[x,y],_=>match s.ev x,s.ev y with | .int k a,.int _ b=>some (.int k (if b<a then b else a)) | _,_=>none
  |_,_,_=>none
 |_=>none
def Hq (ops:Array Oper) (n:Nat) (o:Oper):Bool :=
 match o.guard with
 |none=>true
 |some (j,_)=>match (ops[j]?).bind (·.dst)with | some d=>Nat.blt d n | none=>false
def Fg (n:Nat) (o:Oper):Bool:=L5 n o.dst&&o.op.operands.toList.all (G6 n)
/-! ### Soundness,operation by operation -/
section
variable {P:Program} {w:World} {F:Nat→Prop}
theorem El (b o n:Nat):(⟨b,o,none⟩:Addr).add n=⟨b,o+n,none⟩:=by unfold Addr.add;split<;>simp_all
theorem W0 {t:TypeId} {ti:TI} (ht:Ai P t=some ti) {cs:List AV} {b o:Nat} {f:Nat→Value} (hv:∀(j:Nat) (u:AV),cs[j]?=some u→VR w F u (f j))
  (hm:∀(j:Nat) (u:AV),cs[j]?=some u→w.cell? ⟨b,o+j,none⟩=some (f j)) {j:Nat} {v:AV} (h:G7 ti.cls.agg ti.size cs j=some v) :
  ∃cv,(loadVar t ⟨b,o+j,none⟩).run P w=.ok cv w∧VR w F v cv:=by
 obtain⟨i,d,z,hi,hd,hz,h1,h2,h3,h4,h5⟩:=(Eu ht).get;unfold G7 at h;rw[←h3,←h1]at h;unfold loadVar;simp only[Sem.run_bind,X3 hd,Result.andThen_ok];by_cases ha:(Ds d).agg=true
 ·rw[if_pos ha]at h;rw[if_pos ha];split at h
  ·rename_i hle
   cases h;have hl:=run_loadCells_list (P:=P) w ⟨b,o+j,none⟩ ((List.range i.size).map fun k=>f (j+k)) (fun k u hu=>by
    rw[El];rw[List.getElem?_map]at hu;have hk:k<i.size:=by
     rcases Nat.lt_or_ge k i.size with h'|h'
     ·exact h'
     ·rw[List.getElem?_eq_none (by simpa using h')]at hu;cases hu
    rw[List.getElem?_range hk]at hu;simp only[Option.map_some,Option.some.injEq]at hu;subst hu;rw[Nat.add_assoc];exact hm (j+k) cs[j+k] (List.getElem?_eq_getElem (by omega)))
   simp only[List.length_map,List.length_range]at hl;refine⟨.agg ((List.range i.size).map fun k=>f (j+k)).toArray,by simp only[Sem.run_bind,Fz hi,Result.andThen_ok,hl,Sem.run_pure],.agg _ _ (by simp;omega) (fun k u x hu hx=>?_)⟩;rw[List.getElem?_take]at hu;split at hu
   ·rename_i hk
    rw[List.getElem?_drop]at hu;have:x=f (j+k):=by
     rw[List.getElem?_toArray,List.getElem?_map,List.getElem?_range hk]at hx;simpa using hx.symm
    subst this;exact hv _ _ hu
   ·cases hu
  ·cases h
 ·rw[if_neg ha]at h;rw[if_neg ha];exact⟨f j,by simp[hm j v h],hv j v h⟩
theorem Dq {l:List AV} {i j:Nat} {v u:AV} (h:l[i]?=some v) (hu:v.cells[j]?=some u):A4 l i j=some u:=by
 simp[A4,h,hu]
theorem La {m:Ac} (hh:K4 w F m) {t:TypeId} {ti:TI} (ht:Ai P t=some ti) {a v:AV} {ca:Value} (ha:VR w F a ca) (h:Gb m ti a=some v) :
  ∃cv,(Instr.loadAt t ca).run P w=.ok cv w∧VR w F v cv:=by
 unfold Gb at h;split at h
 ·cases ha
  rename_i b z i j
  split at h
  ·rename_i x hx
   split at h
   ·rename_i hz
    subst hz;cases hl:x.l[i]? with
    |none=>simp[hl]at h
    |some y =>
     simp only[hl,Option.bind_some]at h;obtain⟨z0,zs,ones,cells,cap,h1,h2,h3,h4,h5⟩:=hh b x hx;obtain⟨cv,e1,e2⟩:=W0 (w:=w) (F:=F) ht (cs:=y.cells) (b:=b) (o:=i*x.z) (f:=fun k=>(cells[i*x.z+k]?).getD undef)
      (fun k u hu=>by
       obtain⟨v,g1,g2⟩:=h5 i k u (Dq hl hu);rw[g1];exact g2)
      (fun k u hu=>by
       obtain⟨v,g1,g2⟩:=h5 i k u (Dq hl hu);simp[World.cell?,h1,g1]) h
     exact⟨cv,by simpa[Instr.loadAt,Instr.sureAddr]using e1,e2⟩
   ·cases h
  ·cases h
 ·cases ha
  rename_i cs b o f hF hb hv hm
  obtain⟨cv,e1,e2⟩:=W0 (w:=w) (F:=F) ht hv hm h;exact⟨cv,by simpa[Instr.loadAt,Instr.sureAddr]using e1,e2⟩
 ·cases h
theorem VR.drop {cs:List AV} {b o:Nat} (off:Nat) (h:VR w F (.rptr cs) (.pointer (some ⟨b,o,none⟩))):VR w F (.rptr (cs.drop off)) (.pointer (some ⟨b,o+off,none⟩)):=by
 cases h with
 |rptr _ _ _ f hF hb hv hm =>
  refine .rptr _ b (o+off) (fun k=>f (off+k)) hF hb (fun j u hu=>?_) (fun j u hu=>?_)
  ·rw[List.getElem?_drop]at hu;exact hv _ _ hu
  ·rw[List.getElem?_drop]at hu;rw[Nat.add_assoc];exact hm _ _ hu
theorem Q5 {t:TypeId} (h:P.cellsOf t≠0) (w:World):(sizeOf t).run P w=.ok (P.cellsOf t) w:=by
 unfold Program.cellsOf at *;cases hi:P.info? t with
 |none=>simp[hi]at h
 |some i=>simp[sizeOf,typeInfo,hi]
theorem Tz {t:TypeId} {ti:TI} (ht:Ai P t=some ti) {k:Nat} {a v:AV} {ca:Value} (ha:VR w F a ca) (h:Dd ti k a=some v) :
  ∃cv,(Instr.fieldAt t ca k).run P w=.ok cv w∧VR w F v cv:=by
 obtain⟨i,d,z,hi,hd,hz,h1,h2,h3,h4,h5⟩:=(Eu ht).get;unfold Dd at h;split at h
 ·rename_i off size g hc hf
  rw[←h3]at hc;cases d<;>simp only[Ds,reduceCtorEq]at hc
  rename_i fs
  simp only at h5;rw[h5,List.getElem?_map]at hf;cases hfk:fs.toList[k]? with
  |none=>simp[hfk]at hf
  |some fd =>
   simp only[hfk,Option.map_some,Option.some.injEq,Prod.mk.injEq]at hf;obtain⟨rfl,rfl,rfl⟩:=hf;have hfk':fs[k]?=some fd:=by rw[←Array.getElem?_toList];exact hfk
   split at h
   ·cases h
   ·rename_i hs
    have key:∀b o,(Instr.fieldAt t (.pointer (some ⟨b,o,none⟩)) k).run P w=.ok (.pointer (some ⟨b,o+fd.offset,none⟩)) w:=by
     intro b o;simp[Instr.fieldAt,run_underlying hd,hfk',Instr.sureAddr,fieldPlace,Q5 hs,hs,El]
    split at h
    ·cases ha;cases h;exact⟨_,key _ _,by rw[Nat.add_assoc];exact .ptr _ _ _ _⟩
    ·cases h;cases ha
     rename_i cs b o f hF hb hv hm
     exact⟨_,key _ _,VR.drop _ (.rptr cs b o f hF hb hv hm)⟩
    ·cases h
 ·cases h
theorem Qe8 {t:TypeId} {g:Bool} (hg:Qh0 P t=some g) {cs:List AV} {vs:Array Value} (ha:VR w F (.agg cs) (.agg vs)) {off:Nat} {v:AV} (h:G7 g (P.cellsOf t) cs off=some v) :
  ∃cv,(part t vs off).run P w=.ok cv w∧VR w F v cv:=by
 unfold Qh0 at hg;cases hd:P.underlying t with
 |none=>simp[hd]at hg
 |some d =>
  simp only[hd,Option.map_some,Option.some.injEq]at hg;cases ha
  rename_i hs hv
  unfold G7 at h;unfold part;simp only[Sem.run_bind,X3 hd,Result.andThen_ok,hg];by_cases h0:g=true
  ·rw[if_pos h0]at h;rw[if_pos h0];split at h
   ·rename_i hle
    cases h;have hsz:(sizeOf t).run P w=.ok (P.cellsOf t) w:=by
     unfold Program.underlying at hd;split at hd<;>simp_all[sizeOf,typeInfo,Program.cellsOf]
    refine⟨.agg (vs.extract off (off+P.cellsOf t)),by simp only[Sem.run_bind,hsz,Result.andThen_ok,Sem.run_pure],.agg _ _ (by simp;omega) (fun k u x hu hx=>?_)⟩;rw[List.getElem?_take]at hu;split at hu
    ·rw[List.getElem?_drop]at hu;rw[Array.getElem?_extract]at hx;split at hx
     ·exact hv _ _ _ hu hx
     ·cases hx
    ·cases hu
   ·cases h
  ·rw[if_neg h0]at h;rw[if_neg h0];have hlt:off<vs.size:=by rw[hs];exact(List.getElem?_eq_some_iff.1 h).1
   have hx:vs[off]?=some vs[off]:=Array.getElem?_eq_getElem hlt;exact⟨vs[off],by simp[hx],hv off v _ h hx⟩
theorem Qay {t:TypeId} {ti:TI} (ht:Ai P t=some ti) {k:Nat} {a v:AV} {ca:Value} (ha:VR w F a ca) (h:Nr ti k a=some v) :
  ∃cv,(Instr.field t ca k).run P w=.ok cv w∧VR w F v cv:=by
 obtain⟨i,d,z,hi,hd,hz,h1,h2,h3,h4,h5⟩:=(Eu ht).get;unfold Nr at h;split at h
 ·rename_i off size g cs hc hf
  rw[←h3]at hc;cases d<;>simp only[Ds,reduceCtorEq]at hc
  rename_i fs
  simp only at h5;rw[h5,List.getElem?_map]at hf;cases hfk:fs.toList[k]? with
  |none=>simp[hfk]at hf
  |some fd =>
   simp only[hfk,Option.map_some,Option.some.injEq,Prod.mk.injEq]at hf;obtain⟨rfl,rfl,hg⟩:=hf;have hfk':fs[k]?=some fd:=by rw[←Array.getElem?_toList];exact hfk
   cases ha
   rename_i vs hs hv
   obtain⟨cv,e1,e2⟩:=Qe8 (w:=w) (F:=F) hg (.agg cs vs hs hv) h;exact⟨cv,by simp[Instr.field,run_underlying hd,hfk',asAgg,e1],e2⟩
 ·cases h
theorem Tx {t:TypeId} {ti:TI} (ht:Ai P t=some ti) {x y v:AV} {cx cy:Value} (hx:VR w F x cx) (hy:VR w F y cy) (h:Ca P ti x y=some v) :
  ∃cv,(Instr.indexAt t cx cy).run P w=.ok cv w∧VR w F v cv:=by
 obtain⟨i,d,z,hi,hd,hz,h1,h2,h3,h4,h5⟩:=(Eu ht).get;unfold Ca at h;split at h
 ·rename_i e k n hc
  rw[←h3]at hc;cases d<;>simp only[Ds,reduceCtorEq,Mc.slice.injEq]at hc
  subst hc;cases hy;split at h
  ·rename_i te hte
   obtain⟨ie,de,ze,hie,hde,hze,g1,g2,g3,g4,g5⟩:=(Eu hte).get;split at h
   ·rename_i z' l
    split at h
    ·rename_i hb
     obtain⟨rfl,hn0,hn1⟩:=hb;cases h;cases hx with
     |sl0=>simp at hn1;omega
     |sl _ _ b o c f hF hb hc hz hv hm =>
      have hlt:n.toNat<l.length:=by omega
      have hget:l[n.toNat]?=some l[n.toNat]:=List.getElem?_eq_getElem hlt;refine⟨.pointer (some ⟨b,o+n.toNat*te.size,none⟩),by simp[Instr.indexAt,asIntOf,run_underlying hd,hn0,hn1,Fz hie,El,g1],.rptr _ b _ (f n.toNat) hF hb (fun j u hu=>?_) (fun j u hu=>?_)⟩
      ·refine hv n.toNat j u (Dq hget ?_)
       rwa [List.getD_eq_getElem?_getD,hget]at hu
      ·rw[Nat.add_assoc];refine hm n.toNat j u (Dq hget ?_)
       rwa [List.getD_eq_getElem?_getD,hget]at hu
    ·cases h
   ·rename_i b z' i0 n0
    split at h
    ·rename_i hb
     obtain⟨rfl,hn0,hn1⟩:=hb;cases h;cases hx
     rename_i c hc hm
     refine⟨_,by simp[Instr.indexAt,asIntOf,run_underlying hd,hn0,hn1,Fz hie,El,g1];rfl,?_⟩;have e:i0*te.size+n.toNat*te.size=(i0+n.toNat)*te.size+0:=by rw[Nat.add_mul,Nat.add_zero]
     rw[e];exact .ptr _ _ _ _
    ·cases h
   ·cases h
  ·cases h
 ·rename_i m e k n hc
  rw[←h3]at hc;cases d<;>simp only[Ds,reduceCtorEq,Mc.array.injEq]at hc
  obtain⟨rfl,rfl⟩:=hc;cases hy;split at h
  ·rename_i te hte
   obtain⟨ie,de,ze,hie,hde,hze,g1,g2,g3,g4,g5⟩:=(Eu hte).get;split at h
   ·rename_i hb
    obtain⟨hn0,hn1⟩:=hb;have key:∀b o,(Instr.indexAt t (.pointer (some ⟨b,o,none⟩)) (.int k n)).run P w=.ok (.pointer (some ⟨b,o+n.toNat*te.size,none⟩)) w:=by
     intro b o;simp[Instr.indexAt,asIntOf,run_underlying hd,Instr.sureAddr,hn0,hn1,Fz hie,El,g1]
    split at h
    ·cases hx;cases h;exact⟨_,key _ _,by rw[Nat.add_assoc];exact .ptr _ _ _ _⟩
    ·cases h;cases hx
     rename_i cs b o f hF hb hv hm
     exact⟨_,key _ _,VR.drop _ (.rptr cs b o f hF hb hv hm)⟩
    ·cases h
   ·cases h
  ·cases h
 ·cases h
theorem Qbr {t:TypeId} {ti:TI} (ht:Ai P t=some ti) {x y v:AV} {cx cy:Value} (hx:VR w F x cx) (hy:VR w F y cy) (h:Nv ti x y=some v) :
  ∃cv,(Instr.index t cx cy).run P w=.ok cv w∧VR w F v cv:=by
 obtain⟨i,d,z,hi,hd,hz,h1,h2,h3,h4,h5⟩:=(Eu ht).get;unfold Nv at h;split at h
 ·rename_i s k n hc
  rw[←h3]at hc;cases d<;>simp only[Ds,reduceCtorEq]at hc
  cases hx;cases hy;split at h
  ·rename_i hb
   cases h;have hg:s[n.toNat]?=some (s[n.toNat]'hb.2):=by simp[getElem?_pos,hb.2]
   exact⟨_,by simp[Instr.index,asIntOf,run_underlying hd,hb.1,hg],.int _ _⟩
  ·cases h
 ·cases h
theorem Qnl {op:UnOp} {x v:AV} {cx:Value} (hx:VR w F x cx) (h:Qjj op x=some v):∃cv,(Op.unary op cx).run P w=.ok cv w∧VR w F v cv:=by
 unfold Qjj at h;split at h
 ·cases hx;cases h;exact⟨_,by simp[Op.unary],.bool _⟩
 ·cases hx;cases h;exact⟨_,by simp[Op.unary,Op.intArith],.int _ _⟩
 ·cases hx;cases h;rename_i k n;exact⟨.int k (G9 .xor k (if k.signed then -1 else k.max) n),by simp only[Op.unary];rfl,.int _ _⟩
 ·cases h
theorem Qgh {src dst:TypeId} {ts td:TI} (hs:Ai P src=some ts) (ht:Ai P dst=some td) {x v:AV} {cx:Value} (hx:VR w F x cx) (h:U5 td x=some v):∃cv,(convert src dst cx).run P w=.ok cv w∧VR w F v cv:=by
 obtain⟨i,d,z,hi,hd,hz,h1,h2,h3,h4,h5⟩:=(Eu ht).get;obtain⟨i',d',z',hi',hd',hz',_,_,_,_,_⟩:=(Eu hs).get;unfold U5 at h;split at h
 ·rename_i k k' n hc
  rw[←h3]at hc;cases d<;>simp only[Ds,reduceCtorEq,Mc.int.injEq]at hc
  subst hc;cases hx;cases h;exact⟨_,by cases d'<;>simp[convert,run_underlying hd,run_underlying hd',Conv.intToInt],.int _ _⟩
 ·rename_i s hc
  rw[←h3]at hc;cases d<;>simp only[Ds,reduceCtorEq]at hc
  cases hx;cases h;exact⟨_,by cases d'<;>simp[convert,run_underlying hd,run_underlying hd'],.str _⟩
 ·cases h
end
end Go.Av
end
section
namespace Go.Av
section
variable {P:Program} {w:World} {F:Nat→Prop}
def Qdl (w:World) (F:Nat→Prop):Option AV→Option Value→Prop
 |none,none=>True
 |some a,some v=>VR w F a v
 |_,_=>False
theorem Ix {n cap:Nat} (hc:n≤cap) {lo hi:Option AV} {clo chi:Option Value} (h1:Qdl w F lo clo) (h2:Qdl w F hi chi) {l h:Nat} (hq:E9 n lo hi=some (l,h)) (sl:Bool) :
  (Instr.sliceBounds sl n cap clo chi none).run P w=.ok (l,h,cap) w∧l≤h∧h≤n:=by
 unfold E9 at hq;cases lo with
 |none =>
  cases clo with
  |some _=>cases h1
  |none =>
   cases hi with
   |none =>
    cases chi with
    |some _=>cases h2
    |none =>
     simp at hq;obtain⟨rfl,rfl⟩:=hq;exact⟨by simp[Instr.sliceBounds],by omega,Nat.le_refl _⟩
   |some b =>
    cases chi with
    |none=>cases h2
    |some cb =>
     cases h2<;>simp[intOf?]at hq
     rename_i k m
     obtain⟨⟨h0,h1⟩,rfl,rfl⟩:=hq;exact⟨by simp[Instr.sliceBounds,run_sliceBound w k m cap _ h0 (by omega)],by omega,by omega⟩
 |some a =>
  cases clo with
  |none=>cases h1
  |some ca =>
   cases h1<;>simp only[intOf?,reduceCtorEq]at hq
   rename_i k0 m0
   cases hi with
   |none =>
    cases chi with
    |some _=>cases h2
    |none =>
     simp at hq;obtain⟨⟨h0,h1⟩,rfl,rfl⟩:=hq;exact⟨by simp[Instr.sliceBounds,run_sliceBound w k0 m0 n _ h0 (by omega)],by omega,Nat.le_refl _⟩
   |some b =>
    cases chi with
    |none=>cases h2
    |some cb =>
     cases h2<;>simp[intOf?]at hq
     rename_i k m
     obtain⟨⟨h0,h1,h2⟩,rfl,rfl⟩:=hq;exact⟨by simp[Instr.sliceBounds,run_sliceBound w k m cap _ (by omega:0≤m) (by omega),run_sliceBound w k0 m0 m.toNat _ h0 (by omega)],by omega,by omega⟩
theorem Qdh {t:TypeId} {ti:TI} (ht:Ai P t=some ti) {x v:AV} {cx:Value} (hx:VR w F x cx) {lo hi:Option AV} {clo chi:Option Value} (h1:Qdl w F lo clo) (h2:Qdl w F hi chi)
  (h:Ih P ti x lo hi=some v):∃cv,(Instr.sliceAt t cx clo chi none).run P w=.ok cv w∧VR w F v cv:=by
 obtain⟨i,d,z,hinf,hd,hz,g1,g2,g3,g4,g5⟩:=(Eu ht).get;unfold Ih at h;split at h
 ·rename_i e hc
  rw[←g3]at hc;cases d<;>simp only[Ds,reduceCtorEq,Mc.slice.injEq]at hc
  subst hc;split at h
  ·rename_i te hte
   obtain⟨ie,de,ze,hie,hde,hze,k1,k2,k3,k4,k5⟩:=(Eu hte).get;have key:∀A n c l h,(Instr.sliceBounds true n c clo chi none).run P w=.ok (l,h,c) w →
     (Instr.sliceAt t (.slice A n c) clo chi none).run P w=.ok (.slice (if c=l then A else A.map (·.add (l*te.size))) (h-l) (c-l)) w:=by
    intro A n c l h hb;simp[Instr.sliceAt,Instr.slice,run_underlying hd,hb,Fz hie,k1]
   split at h
   ·rename_i z' l
    split at h
    ·rename_i hzz
     subst hzz;cases hq:E9 l.length lo hi with
     |none=>simp[hq]at h
     |some q =>
      obtain⟨a,b⟩:=q;simp only[hq,Option.map_some,Option.some.injEq]at h;subst h;cases hx with
      |sl0 _ A c =>
       obtain⟨e1,e2,e3⟩:=Ix (P:=P) (Nat.zero_le c) h1 h2 hq true;have hb0:b=0:=by simpa using e3
       subst hb0;have ha0:a=0:=by omega
       subst ha0;exact⟨_,key A 0 c 0 0 e1,by simp;exact .sl0 _ _ _⟩
      |sl _ _ bl o c f hF hbl hc hzs hv hm =>
       obtain⟨e1,e2,e3⟩:=Ix (P:=P) hc h1 h2 hq true;refine⟨_,key _ _ _ _ _ e1,?_⟩;by_cases hab:b=a
       ·subst hab;simp only[Nat.sub_self,List.take_zero];exact .sl0 _ _ _
       ·have hca:¬c=a:=by omega
        rw[if_neg hca];simp only[Option.map_some,El];have hlen:((l.drop a).take (b-a)).length=b-a:=by simp;omega
        have hcell:∀i j u,A4 ((l.drop a).take (b-a)) i j=some u→A4 l (a+i) j=some u:=by
         intro i j u hu;unfold A4 at hu ⊢;rw[List.getElem?_take]at hu;split at hu
         ·rwa [List.getElem?_drop]at hu
         ·simp at hu
        have:=VR.sl (w:=w) (F:=F) te.size ((l.drop a).take (b-a)) bl (o+a*te.size) (c-a) (fun i j=>f (a+i) j) hF hbl (by omega)
         (fun v hv'=>hzs v (List.mem_of_mem_drop (List.mem_of_mem_take hv')))
         (fun i j u hu=>hv _ _ _ (hcell i j u hu))
         (fun i j u hu=>by
          have:=hm _ _ _ (hcell i j u hu);rw[Nat.add_mul]at this;rw[←this];congr 2;omega)
        rwa [hlen]at this
    ·cases h
   ·rename_i bl z' i0 n
    split at h
    ·rename_i hzz
     subst hzz;cases hq:E9 n lo hi with
     |none=>simp[hq]at h
     |some q =>
      obtain⟨a,b⟩:=q;simp only[hq,Option.map_some,Option.some.injEq]at h;subst h;cases hx with
      |osl _ _ _ _ c hc hm =>
       obtain⟨e1,e2,e3⟩:=Ix (P:=P) hc h1 h2 hq true;refine⟨_,key _ _ _ _ _ e1,?_⟩;obtain⟨cells,e',m1,m2⟩:=hm;by_cases ha:a=0
       ·subst ha;simp only[if_true,Nat.sub_zero,Nat.zero_mul,Option.map_some,El,Nat.add_zero,ite_self];exact .osl _ _ _ _ _ (by omega) ⟨cells,e',m1,m2⟩
       ·rw[if_neg ha];by_cases hab:b=a
        ·subst hab;simp only[if_true,Nat.sub_self];exact .sl0 _ _ _
        ·rw[if_neg hab];have hca:¬c=a:=by omega
         rw[if_neg hca];simp only[Option.map_some,El,←Nat.add_mul];exact .osl _ _ _ _ _ (by omega) ⟨cells,e',m1,by rw[←m2];congr 1;omega⟩
    ·cases h
   ·cases hq:E9 0 lo hi with
    |none=>simp[hq]at h
    |some q =>
     obtain⟨a,b⟩:=q;simp only[hq,Option.map_some,Option.some.injEq]at h;subst h;cases hx;obtain⟨e1,e2,e3⟩:=Ix (P:=P) (Nat.le_refl 0) h1 h2 hq true;have hb0:b=0:=by omega
     subst hb0;have ha0:a=0:=by omega
     subst ha0;exact⟨_,key none 0 0 0 0 e1,by simp;exact .nil⟩
   ·cases h
  ·cases h
 ·rename_i hc
  rw[←g3]at hc;cases d<;>simp only[Ds,reduceCtorEq]at hc
  split at h
  ·rename_i s
   cases hx;cases hq:E9 s.size lo hi with
   |none=>simp[hq]at h
   |some q =>
    obtain⟨a,b⟩:=q;simp only[hq,Option.map_some,Option.some.injEq]at h;subst h;obtain⟨e1,e2,e3⟩:=Ix (P:=P) (Nat.le_refl s.size) h1 h2 hq false;exact⟨_,by simp[Instr.sliceAt,Instr.slice,run_underlying hd,e1],.str _⟩
  ·cases h
 ·cases h
theorem Uq {v:AV} {n:Int} (h:intOf? v=some n):∃k,v=.int k n:=by
 cases v<;>simp[intOf?]at h
 subst h;exact⟨_,rfl⟩
theorem Quk {n a b:Nat} {lo:Option AV} {h:AV} (hq:E9 n lo (some h)=some (a,b)):∃hv,intOf? h=some hv∧0≤hv∧hv≤n∧b=hv.toNat ∧
  (lo=none∧a=0∨∃l0 lv,lo=some l0∧intOf? l0=some lv∧0≤lv∧lv≤hv∧a=lv.toNat):=by
 unfold E9 at hq;cases lo with
 |none =>
  dsimp only at hq
  cases hh:intOf? h with
  |none=>rw[hh]at hq;cases hq
  |some hv =>
   rw[hh]at hq
   dsimp only at hq
   split at hq
   ·rename_i hb
    cases hq;exact⟨hv,rfl,hb.2.1,hb.2.2,rfl,.inl ⟨rfl,rfl⟩⟩
   ·cases hq
 |some l0 =>
  dsimp only at hq
  cases hl:intOf? l0 with
  |none=>rw[hl]at hq;cases hq
  |some lv =>
   cases hh:intOf? h with
   |none=>rw[hh,hl]at hq;cases hq
   |some hv =>
    rw[hh,hl]at hq
    dsimp only at hq
    split at hq
    ·rename_i hb
     cases hq;exact⟨hv,rfl,by omega,hb.2.2,rfl,.inr ⟨l0,lv,rfl,hl,hb.1,hb.2.1,rfl⟩⟩
    ·cases hq
theorem Z9 {t:TypeId} {ti:TI} (ht:Ai P t=some ti) {x v m:AV} {cx cm:Value} (hx:VR w F x cx) (hm:VR w F m cm) {lo hi:Option AV} {clo chi:Option Value} (h1:Qdl w F lo clo) (h2:Qdl w F hi chi)
  (h:Mq P ti x lo hi m=some v):∃cv,(Instr.sliceAt t cx clo chi (some cm)).run P w=.ok cv w∧VR w F v cv:=by
 obtain⟨i,d,z,hinf,hd,hz,g1,g2,g3,g4,g5⟩:=(Eu ht).get;unfold Mq at h;split at h
 ·rename_i e m0 h' hc hm'
  rw[←g3]at hc;cases d<;>simp only[Ds,reduceCtorEq,Mc.slice.injEq]at hc
  subst hc
  rename_i e
  obtain⟨km,rfl⟩:=Uq hm';cases hm;cases hte:Ai P e with
  |none=>simp[hte]at h
  |some te =>
  obtain⟨ie,de,ze,hie,hde,hze,k1,k2,k3,k4,k5⟩:=(Eu hte).get;simp only[hte,Option.bind_some]at h;cases chi with
  |none=>exact h2.elim
  |some ch =>
  have hnl:∃A n c,cx=.slice A n c∧n≤c∧V1 x=some n:=by
   cases hx<;>simp only[V1,reduceCtorEq]at h
   ·exact⟨_,_,_,rfl,Nat.le_refl _,rfl⟩
   ·exact⟨_,_,_,rfl,Nat.zero_le _,rfl⟩
   ·rename_i hc _ _ _;exact⟨_,_,_,rfl,hc,rfl⟩
   ·rename_i hc _;exact⟨_,_,_,rfl,hc,rfl⟩
  obtain⟨A,n,c,rfl,hnc,hN⟩:=hnl;rw[hN]at h;simp only at h;split at h
  ·rename_i hb
   cases hq:E9 m0.toNat lo (some h')with
   |none=>simp[hq]at h
   |some q =>
    obtain⟨a,b⟩:=q;simp only[hq,Option.map_some,Option.some.injEq]at h;obtain⟨e1,e2,e3⟩:=Ix (P:=P) (cap:=m0.toNat) (Nat.le_refl m0.toNat) h1 h2 hq true;have hbd:(Instr.sliceBounds true n c clo (some ch) (some (.int km m0))).run P w=.ok (a,b,m0.toNat) w:=by
     have hm1:=run_sliceBound (P:=P) w km m0 c BoundsCode.slice3Acap hb.1 (by omega);obtain⟨hv,q1,q2,q3,rfl,q4⟩:=Quk hq;obtain⟨kh,rfl⟩:=Uq q1;cases h2;have hh2:=run_sliceBound (P:=P) w kh hv m0.toNat BoundsCode.slice3B q2 q3;unfold Instr.sliceBounds;simp only[if_true,Sem.run_bind,hm1,hh2,Result.andThen_ok,Sem.run_pure];rcases q4 with⟨rfl,rfl⟩ | ⟨l0,lv,rfl,q5,q6,q7,rfl⟩
     ·cases clo with
      |some _=>exact h1.elim
      |none=>simp
     ·obtain⟨kl,rfl⟩:=Uq q5;cases clo with
      |none=>exact h1.elim
      |some cl =>
       cases h1;have hl2:=run_sliceBound (P:=P) w kl lv hv.toNat BoundsCode.slice3C q6 (by omega);simp[hl2]
    have hrun:(Instr.sliceAt t (.slice A n c) clo (some ch) (some (.int km m0))).run P w=.ok (.slice (if m0.toNat=a then A else A.map (·.add (a*te.size))) (b-a) (m0.toNat-a)) w:=by
     simp[Instr.sliceAt,Instr.slice,run_underlying hd,hbd,Fz hie,k1]
    refine⟨_,hrun,?_⟩;subst h;split
    ·rename_i hma
     have:b-a=0:=by omega
     rw[this,show m0.toNat-a=0 by omega];exact .zc _
    ·exact .any _
  ·cases h
 ·cases h
theorem Qiu {t:TypeId} {ti:TI} (ht:Ai P t=some ti) {x v:AV} {cx:Value} (hx:VR w F x cx) (h:L4 ti x=some v) (ty:TypeId) :
    ∃cv,(Builtin.len_ #[t] ty #[cx]).run P w=.ok cv w∧VR w F v cv:=by
  obtain⟨i,d,z,hinf,hd,hz,g1,g2,g3,g4,g5⟩:=(Eu ht).get
  unfold L4 at h
  split at h<;>(try cases h)<;>rename_i hc<;>rw[←g3]at hc<;>cases d<;>simp only[Ds,reduceCtorEq]at hc
  all_goals first
    |(cases hx with
       |sl0=>exact⟨.int .i64 0,by simp[Builtin.len_,run_underlying hd,goInt],by simp;exact .int _ _⟩
       |sl=>exact⟨_,by simp[Builtin.len_,run_underlying hd,goInt],.int _ _⟩)
    |(cases hx;exact⟨_,by simp[Builtin.len_,run_underlying hd,goInt],.int _ _⟩)
/-! ### Aggregates -/
theorem Oq (l:List Value):∀(cells:Array Value) (off k:Nat),off+k+l.length≤cells.size →
  ∀j,((l.zipIdx k).foldl (fun cs (p:Value × Nat)=>cs.setIfInBounds (off+p.2) p.1) cells)[j]?=if off+k≤j∧j<off+k+l.length then l[j-(off+k)]? else cells[j]?:=by
 induction l with
 |nil=>intro cells off k _ j;simp;intro h1 h2;omega
 |cons v l ih =>
  intro cells off k h j;simp only[List.zipIdx_cons,List.foldl_cons,List.length_cons]at *;rw[ih (cells.setIfInBounds (off+k) v) off (k+1) (by simp;omega) j];by_cases h1:off+(k+1)≤j∧j<off+(k+1)+l.length
  ·rw[if_pos h1,if_pos (by omega)];obtain⟨m,hm⟩:∃m,j-(off+k)=m+1:=⟨j-(off+k)-1,by omega⟩;rw[hm,List.getElem?_cons_succ]
   congr 1
   omega
  ·rw[if_neg h1];by_cases h2:j=off+k
   ·subst h2;rw[if_pos (by omega)];rw[Array.getElem?_setIfInBounds,if_pos rfl,if_pos (by omega)];simp
   ·rw[if_neg (by omega),Array.getElem?_setIfInBounds,if_neg (by omega)]
theorem Hw (l:List Value):∀(cells:Array Value) (off k:Nat),((l.zipIdx k).foldl (fun cs (p:Value × Nat)=>cs.setIfInBounds (off+p.2) p.1) cells).size=cells.size:=by
 induction l with
 |nil=>intros;rfl
 |cons v l ih=>intro cells off k;simp only[List.zipIdx_cons,List.foldl_cons];rw[ih];simp
def Qeu (w:World) (F:Nat→Prop) (cs:List AV) (vs:Array Value):Prop:=vs.size=cs.length∧∀(j:Nat) (u:AV) (v:Value),cs[j]?=some u→vs[j]?=some v→VR w F u v
theorem Ut (places:List (Nat × Nat × Option Bool)) (place:Nat→Option (Nat × Nat)) (hp:∀k,place k=(places[k]?).map fun x=>(x.1,x.2.1)) :
  ∀(parts:List (Nat × AV)) (cparts:List (Nat × Value)) (cells:List AV) (vs:Array Value),Qeu w F cells vs →
   parts.length=cparts.length→(∀(j:Nat) (p:Nat × AV) (q:Nat × Value),parts[j]?=some p→cparts[j]?=some q→p.1=q.1∧VR w F p.2 q.2) →
   ∀out,Jh places cells parts=some out→∃vs',Instr.fill place vs cparts=some vs'∧Qeu w F out vs'
 |[],cparts,cells,vs,hc,hl,_,out,h=>by
  cases cparts with
  |cons _ _=>simp at hl
  |nil=>simp only[Jh,Option.some.injEq]at h;subst h;exact⟨vs,rfl,hc⟩
 |(i,v)::rest,cparts,cells,vs,hc,hl,hr,out,h=>by
  cases cparts with
  |nil=>simp at hl
  |cons q crest =>
   obtain⟨i',cv⟩:=q;obtain⟨e1,e2⟩:=hr 0 (i,v) (i',cv) rfl rfl;simp only at e1 e2;subst e1;unfold Jh at h;split at h
   ·rename_i off size g hpl
    split at h
    ·rename_i hb
     have hany:v≠.any:=by intro e;subst e;simp at h
     have h':Jh places (cells.take off++v.cells++cells.drop (off+size)) rest=some out:=by
      cases v<;>first | exact absurd rfl hany | exact h
     obtain⟨s1,s2⟩:=e2.cells hany;have hpk:place i=some (off,size):=by rw[hp,hpl];rfl
     unfold Instr.fill;simp only[hpk];have hsz:cv.cells.size=size:=by rw[s1];exact hb.1
     have hfit:¬((decide (cv.cells.size≠size) || decide (off+cv.cells.size>vs.size))=true):=by simp[hsz,hc.1];omega
     rw[if_neg hfit];refine Ut places place hp rest crest _ _ ⟨?_,fun j u x hu hx=>?_⟩ (by simpa using hl) (fun j p q h1 h2=>hr (j+1) p q h1 h2) out h'
     ·rw[←Array.foldl_toList,Array.toList_zipIdx,Hw,hc.1];simp;omega
     ·rw[←Array.foldl_toList,Array.toList_zipIdx,Oq _ _ _ _ (by rw[Nat.add_zero,Array.length_toList,hsz,hc.1];exact hb.2)]at hx;simp only[Nat.add_zero,Array.length_toList,hsz,Array.getElem?_toList]at hx;by_cases hj:off≤j∧j<off+size
      ·rw[if_pos hj]at hx;refine s2 (j-off) u x ?_ hx;rw[List.append_assoc,List.getElem?_append_right (by simp;omega),List.getElem?_append_left (by simp;omega)]at hu;rw[←hu];congr 1;simp;omega
      ·rw[if_neg hj]at hx;refine hc.2 j u x ?_ hx;rcases Nat.lt_or_ge j off with hlt | hge
       ·rw[List.append_assoc,List.getElem?_append_left (by simp;omega),List.getElem?_take,if_pos hlt]at hu;exact hu
       ·rw[List.getElem?_append_right (by simp;omega),List.getElem?_drop]at hu;rw[←hu];congr 1;simp;omega
    ·cases h
   ·cases h
end
end Go.Av
end
section
namespace Go.Av
section
variable {P:Program} {w:World} {F:Nat→Prop}
theorem Qfa (fs:List Field) (h:∀f∈fs,P.cellsOf f.type≠0) (w:World) :
  (fs.mapM fun f=>do pure (f.offset,←sizeOf f.type):Sem (List (Nat × Nat))).run P w=.ok (fs.map fun f=>(f.offset,P.cellsOf f.type)) w:=by
 induction fs with
 |nil=>rfl
 |cons f fs ih =>
  have hi:=ih (fun g hg=>h g (by simp[hg]));simp only[List.mapM_cons,Sem.run_bind,Q5 (h f (by simp)) w,Result.andThen_ok,Sem.run_pure,hi,List.map_cons]
theorem Qcm {t:TypeId} {ti:TI} (ht:Ai P t=some ti) {parts:List (Nat × AV)} {cparts:Array (Nat × Value)} (hl:parts.length=cparts.size)
  (hr:∀(j:Nat) (p:Nat × AV) (q:Nat × Value),parts[j]?=some p→cparts[j]?=some q→p.1=q.1∧VR w F p.2 q.2) {v:AV} (h:Qr ti parts=some v) :
  ∃cv,(Instr.build t cparts).run P w=.ok cv w∧VR w F v cv:=by
 obtain⟨i,d,z,hi,hd,hz,h1,h2,h3,h4,h5⟩:=(Eu ht).get;unfold Qr at h;split at h
 ·rename_i zs hc hzs
  rw[←h3]at hc;cases d<;>simp only[Ds,reduceCtorEq]at hc
  rename_i fs
  simp only at h5;split at h
  ·rename_i hall
   cases hf:Jh ti.fields zs parts with
   |none=>simp[hf]at h
   |some out =>
    simp only[hf,Option.map_some,Option.some.injEq]at h;subst h;have hne:∀f∈fs.toList,P.cellsOf f.type≠0:=by
     intro f hf';rw[h5,List.all_map,List.all_eq_true]at hall;simpa using hall f hf'
    have hzc:VR w F (.agg zs) z:=by rw[←hzs,←h4];exact Ig w F z
    have hzR:Qeu w F zs z.cells:=by
     have:=hzc.cells (by simp);exact this
    obtain⟨vs',e1,e2⟩:=Ut (w:=w) (F:=F) ti.fields (fun k=>((fs.toList.map fun f=>(f.offset,P.cellsOf f.type)).toArray)[k]?) (fun k=>by
      rw[h5];simp[List.getElem?_map,Option.map_map];rfl) parts cparts.toList zs z.cells hzR (by simpa using hl) (fun j p q h1 h2=>hr j p q h1 (by rw[←Array.getElem?_toList];exact h2)) out hf
    refine⟨.agg vs',?_,.agg _ _ e2.1 e2.2⟩;have hzv:(zeroValue t).run P w=.ok z w:=by simp[zeroValue,typeInfo,hi,hz]
    unfold Instr.build;simp only[Sem.run_bind,hzv,run_underlying hd,Result.andThen_ok,Array.mapM_eq_mapM_toList,Sem.run_map,Qfa fs.toList hne,e1,Sem.run_pure]
  ·cases h
 ·cases h
theorem J3 (c:Call) {n:Nat} (h:(Op.call c).operands.toList.all (G6 n)=true):c.args.toList.all (G6 n)=true:=by
 unfold Op.operands Call.operands at h;rw[Array.toList_append,List.all_append,Bool.and_eq_true]at h;exact h.2
theorem Qke {G:Nat→Prop} {w0:World} {s:St} {a:Act} (hrel:Ee F G w0 s a w) {o:Oper} (hok:Fg s.n o=true) {v:AV} (h:Rq P o s=some v) :
  ∃cv,(execOp a.eval o).run P w=.ok (.value cv) w∧VR w (C2 F s.m) v cv:=by
 unfold Fg at hok;rw[Bool.and_eq_true]at hok;have hall:∀x∈o.op.operands.toList,G6 s.n x=true:=List.all_eq_true.1 hok.2;have fin:∀{m:Sem Value} {cv:Value},m.run P w=.ok cv w→((do pure (.value (←m)):Sem Next)).run P w=.ok (.value cv) w:=by
  intro m cv hm;simp[hm]
 unfold Rq at h;unfold execOp;split at h
 ·rename_i x ho
  rw[ho]at hall ⊢;cases h;exact⟨_,rfl,hrel.ev (hall _ (by simp[Op.operands]))⟩
 ·rename_i x ho
  rw[ho]at hall ⊢;cases h;exact⟨_,rfl,hrel.ev (hall _ (by simp[Op.operands]))⟩
 ·rename_i c x y ho
  rw[ho]at hall ⊢;have hc:=hrel.ev (hall c (by simp[Op.operands]));split at h
  ·rename_i t hct
   rw[hct]at hc;cases h;have hcv:a.eval c=.bool t:=by
    generalize a.eval c=cc at hc;cases hc;rfl
   refine⟨if t=true then a.eval x else a.eval y,by simp[hcv,asBool],?_⟩;split
   ·exact hrel.ev (hall x (by simp[Op.operands]))
   ·exact hrel.ev (hall y (by simp[Op.operands]))
  ·cases h
 ·rename_i t parts ho
  rw[ho]at hall ⊢;cases ht:Ai P t with
  |none=>simp[ht]at h
  |some ti =>
   simp only[ht,Option.bind_some]at h;obtain⟨cv,e1,e2⟩:=Qcm (w:=w) (F:=C2 F s.m) ht (cparts:=parts.map fun(i,x)=>(i,a.eval x)) (by simp) (fun j p q h1 h2=>by
    rw[List.getElem?_map]at h1;rw[Array.getElem?_map]at h2;cases hj:parts[j]? with
    |none=>simp[hj]at h2
    |some y =>
     rw[Array.getElem?_toList,hj]at h1;rw[hj]at h2;simp only[Option.map_some,Option.some.injEq]at h1 h2;subst h1;subst h2;refine⟨rfl,hrel.ev (hall _ ?_)⟩;simp only[Op.operands,List.mem_map];exact⟨y,List.mem_of_getElem? (by rw[Array.getElem?_toList];exact hj),rfl⟩) h
   exact⟨cv,fin e1,e2⟩
 ·rename_i t x ho
  rw[ho]at hall ⊢;cases ht:Ai P t with
  |none=>simp[ht]at h
  |some ti =>
   simp only[ht,Option.bind_some]at h;obtain⟨cv,e1,e2⟩:=La (w:=w) (F:=C2 F s.m) hrel.heap ht (hrel.ev (hall x (by simp[Op.operands]))) h;exact⟨cv,fin e1,e2⟩
 ·rename_i x ho
  rw[ho]at hall ⊢;have hx:=hrel.ev (hall x (by simp[Op.operands]));split at h<;>(try cases h)<;>rename_i hx'<;>rw[hx']at hx
  ·obtain⟨cx,hcx⟩:∃cx,a.eval x=cx:=⟨_,rfl⟩;rw[hcx]at hx;cases hx;exact⟨_,by simp only[hcx];exact Sem.run_pure _ _ _,.ptr _ _ _ _⟩
  ·obtain⟨cx,hcx⟩:∃cx,a.eval x=cx:=⟨_,rfl⟩;rw[hcx]at hx;cases hx with
   |rptr _ _ _ f hF hb hv hm=>exact⟨_,by simp only[hcx];exact Sem.run_pure _ _ _,.rptr _ _ _ f hF hb hv hm⟩
  ·obtain⟨cx,hcx⟩:∃cx,a.eval x=cx:=⟨_,rfl⟩;rw[hcx]at hx;cases hx with
   |fn _ _ _ hs hv=>exact⟨_,by simp only[hcx];exact Sem.run_pure _ _ _,.fn _ _ _ hs hv⟩
 ·rename_i op t x y yt ho
  rw[ho]at hall ⊢;cases ht:Ai P t with
  |none=>simp[ht]at h
  |some ti =>
   simp only[ht,Option.bind_some]at h;obtain⟨cv,e1,e2⟩:=Qbp (w:=w) (F:=C2 F s.m) ht (hrel.ev (hall x (by simp[Op.operands]))) (hrel.ev (hall y (by simp[Op.operands]))) h x y;exact⟨cv,fin e1,e2⟩
 ·rename_i op t x ho
  rw[ho]at hall ⊢;obtain⟨cv,e1,e2⟩:=Qnl (P:=P) (w:=w) (F:=C2 F s.m) (hrel.ev (hall x (by simp[Op.operands]))) h;exact⟨cv,fin e1,e2⟩
 ·rename_i src dst x ho
  rw[ho]at hall ⊢;cases hs:Ai P src with
  |none=>simp[hs]at h
  |some ts =>
   cases ht:Ai P dst with
   |none=>simp[hs,ht]at h
   |some ti =>
    simp only[hs,ht,Option.bind_some]at h;obtain⟨cv,e1,e2⟩:=Qgh (w:=w) (F:=C2 F s.m) hs ht (hrel.ev (hall x (by simp[Op.operands]))) h;exact⟨cv,fin e1,e2⟩
 ·rename_i f first captured ho
  rw[ho]at hall ⊢;split at h
  ·rename_i hf
   cases h;have:first=#[]:=Array.eq_empty_of_size_eq_zero hf;subst this;refine⟨.func (.func f) #[] (captured.map a.eval),by simp[Instr.makeFunc],.fn _ _ _ (by simp) (fun j u v hu hv=>?_)⟩;rw[List.getElem?_map,Array.getElem?_toList]at hu;rw[Array.getElem?_map]at hv;cases hj:captured[j]? with
   |none=>simp[hj]at hu
   |some y =>
    simp only[hj,Option.map_some,Option.some.injEq]at hu hv;subst hu;subst hv;exact hrel.ev (hall y (by simp[Op.operands];exact Array.mem_of_getElem? hj))
  ·cases h
 ·rename_i t x lo hi mx ho
  rw[ho]at hall ⊢;split at h
  ·cases ht:Ai P t with
   |none=>simp[ht]at h
   |some ti =>
    simp only[ht,Option.bind_some]at h;have ho:∀{y:Option Operand},(∀z,y=some z→G6 s.n z=true)→Qdl w (C2 F s.m) (y.map s.ev) (y.map a.eval):=by
     intro y hy;cases y with
     |none=>trivial
     |some z=>exact hrel.ev (hy z rfl)
    obtain⟨cv,e1,e2⟩:=Qdh (w:=w) (F:=C2 F s.m) ht (hrel.ev (hall x (by simp[Op.operands]))) (ho (y:=lo) (fun z hz=>hall z (by simp[Op.operands,hz]))) (ho (y:=hi) (fun z hz=>hall z (by simp[Op.operands,hz]))) h;exact⟨cv,fin e1,e2⟩
  ·rename_i mxo
   cases ht:Ai P t with
   |none=>simp[ht]at h
   |some ti =>
    simp only[ht,Option.bind_some]at h;have ho:∀{y:Option Operand},(∀z,y=some z→G6 s.n z=true)→Qdl w (C2 F s.m) (y.map s.ev) (y.map a.eval):=by
     intro y hy;cases y with
     |none=>trivial
     |some z=>exact hrel.ev (hy z rfl)
    obtain⟨cv,e1,e2⟩:=Z9 (w:=w) (F:=C2 F s.m) ht (hrel.ev (hall x (by simp[Op.operands]))) (hrel.ev (hall mxo (by simp[Op.operands]))) (ho (y:=lo) (fun z hz=>hall z (by simp[Op.operands,hz]))) (ho (y:=hi) (fun z hz=>hall z (by simp[Op.operands,hz]))) h;exact⟨cv,fin e1,e2⟩
 ·rename_i t x f ho
  rw[ho]at hall ⊢;cases ht:Ai P t with
  |none=>simp[ht]at h
  |some ti =>
   simp only[ht,Option.bind_some]at h;obtain⟨cv,e1,e2⟩:=Tz (w:=w) (F:=C2 F s.m) ht (hrel.ev (hall x (by simp[Op.operands]))) h;exact⟨cv,fin e1,e2⟩
 ·rename_i t x f ho
  rw[ho]at hall ⊢;cases ht:Ai P t with
  |none=>simp[ht]at h
  |some ti =>
   simp only[ht,Option.bind_some]at h;obtain⟨cv,e1,e2⟩:=Qay (w:=w) (F:=C2 F s.m) ht (hrel.ev (hall x (by simp[Op.operands]))) h;exact⟨cv,fin e1,e2⟩
 ·rename_i t x y ho
  rw[ho]at hall ⊢;cases ht:Ai P t with
  |none=>simp[ht]at h
  |some ti =>
   simp only[ht,Option.bind_some]at h;obtain⟨cv,e1,e2⟩:=Tx (w:=w) (F:=C2 F s.m) ht (hrel.ev (hall x (by simp[Op.operands]))) (hrel.ev (hall y (by simp[Op.operands]))) h;exact⟨cv,fin e1,e2⟩
 ·rename_i t x y ho
  rw[ho]at hall ⊢;cases ht:Ai P t with
  |none=>simp[ht]at h
  |some ti =>
   simp only[ht,Option.bind_some]at h;obtain⟨cv,e1,e2⟩:=Qbr (w:=w) (F:=C2 F s.m) ht (hrel.ev (hall x (by simp[Op.operands]))) (hrel.ev (hall y (by simp[Op.operands]))) h;exact⟨cv,fin e1,e2⟩
 ·rename_i t k ho
  rw[ho]at hall ⊢;have hx:=hrel.ev (hall t (by simp[Op.operands]));split at h
  ·rename_i vs ht
   rw[ht]at hx;obtain⟨ct,hct⟩:∃ct,a.eval t=ct:=⟨_,rfl⟩;rw[hct]at hx;cases hx
   rename_i cvs hs hv
   have hlt:k<cvs.size:=by rw[hs];exact(List.getElem?_eq_some_iff.1 h).1
   have hk:cvs[k]?=some cvs[k]:=Array.getElem?_eq_getElem hlt;exact⟨cvs[k],by simp[hct,Instr.extract,hk],hv k v _ h hk⟩
  ·cases h
 ·rename_i c ho
  rw[ho]at hall ⊢;have hargs:=List.all_eq_true.1 (J3 c (n:=s.n) (by rw[ho]at hok;exact hok.2));split at h
  ·rename_i x t hcal hxs hts
   obtain⟨callee,args,argTypes⟩:=c;simp only at hcal hxs hts hargs;subst hcal;have ha:args=#[x]:=Array.toList_inj.1 hxs;have hb:argTypes=#[t]:=Array.toList_inj.1 hts;subst ha;subst hb;cases ht:Ai P t with
   |none=>simp[ht]at h
   |some ti =>
    simp only[ht,Option.bind_some]at h;obtain⟨cv,e1,e2⟩:=Qiu (w:=w) (F:=C2 F s.m) ht (hrel.ev (hargs x (by simp))) h o.type;exact⟨cv,by simp[resolve,invoke,builtin,e1],e2⟩
  ·rename_i ts x y hcal hxs
   obtain⟨callee,args,argTypes⟩:=c;simp only at hcal hxs hargs;subst hcal;have ha:args=#[x,y]:=Array.toList_inj.1 hxs;subst ha;have hx:=hrel.ev (hargs x (by simp));have hy:=hrel.ev (hargs y (by simp));split at h
   ·rename_i e1 e2
    rw[e1]at hx;rw[e2]at hy;cases h;have q1:∃cx,a.eval x=cx:=⟨_,rfl⟩;have q2:∃cx,a.eval y=cx:=⟨_,rfl⟩;obtain⟨cx,q1⟩:=q1;obtain⟨cy,q2⟩:=q2;rw[q1]at hx;rw[q2]at hy;cases hx;cases hy;exact⟨_,by simp[resolve,invoke,builtin,q1,q2,Builtin.max_,Builtin.max2],.int _ _⟩
   ·cases h
  ·rename_i ts x y hcal hxs
   obtain⟨callee,args,argTypes⟩:=c;simp only at hcal hxs hargs;subst hcal;have ha:args=#[x,y]:=Array.toList_inj.1 hxs;subst ha;have hx:=hrel.ev (hargs x (by simp));have hy:=hrel.ev (hargs y (by simp));split at h
   ·rename_i e1 e2
    rw[e1]at hx;rw[e2]at hy;cases h;have q1:∃cx,a.eval x=cx:=⟨_,rfl⟩;have q2:∃cx,a.eval y=cx:=⟨_,rfl⟩;obtain⟨cx,q1⟩:=q1;obtain⟨cy,q2⟩:=q2;rw[q1]at hx;rw[q2]at hy;cases hx;cases hy;exact⟨_,by simp[resolve,invoke,builtin,q1,q2,Builtin.min_,Builtin.min2],.int _ _⟩
   ·cases h
  ·cases h
 ·cases h
end
end Go.Av
end
section
namespace Go.Av
def P4 (P : Program) (f : FuncId) : Prop := ∃ fn, P.funcs[f]? = some fn ∧ (fn.name == "runtime.NumGoroutine") = false ∧ fn.body.isNone = false
def VRs (w:World) (F:Nat→Prop) (args:List AV) (cargs:Array Value):Prop :=
 cargs.size=args.length∧∀(j:Nat) (u:AV) (v:Value),args[j]?=some u→cargs[j]?=some v→VR w F u v
def Ak (P:Program) (f:FuncId) (args:List AV) (g:Ac) (R:AV→Ac→Prop):Prop :=
 P4 P f∧∀(w:World) (F:Nat→Prop) (cargs:Array Value),(∀b,F b→b<w.heap.size∧g b=none)→K4 w (C2 F g) g→VRs w (C2 F g) args cargs →
  Calls P f cargs w fun e w'=>∃v cv g',e=.returned cv∧R v g'∧K4 w' (C2 F g') g'∧VR w' (C2 F g') v cv∧Ez (fun b=>g b≠none) w w'∧∀b,g' b≠none→g b≠none∨w.heap.size≤b
theorem Ak.mono {P:Program} {f:FuncId} {args:List AV} {g:Ac} {R R':AV→Ac→Prop} (h:Ak P f args g R) (hr:∀v g',R v g'→R' v g'):Ak P f args g R' :=
 ⟨h.1,fun w F cargs h1 h2 h3=>(h.2 w F cargs h1 h2 h3).mono fun e w' ⟨v,cv,g',e1,e2,e3⟩=>⟨v,cv,g',e1,hr v g' e2,e3⟩⟩
def flat1:AV→Bool
 |.bool _ | .int _ _ | .str _ | .nil | .nptr=>true
 |_=>false
def flat2:AV→Bool
 |.agg cs=>cs.all flat1
 |v=>flat1 v
def AV.flat:AV→Bool
 |.tup vs=>vs.all flat2
 |v=>flat2 v
section
variable {w w':World} {F F':Nat→Prop}
theorem VR.flat1 {a:AV} {v:Value} (h:VR w F a v) (hf:flat1 a=true):VR w' F' a v:=by
 cases h<;>first | (constructor;done) | cases hf
theorem VR.flat2 {a:AV} {v:Value} (h:VR w F a v) (hf:flat2 a=true):VR w' F' a v:=by
 cases h with
 |agg cs vs hs hv =>
  refine .agg cs vs hs (fun j u v hu hx=>(hv j u v hu hx).flat1 ?_);exact List.all_eq_true.1 hf u (List.mem_of_getElem? hu)
 |_=>first | (constructor;done) | cases hf
theorem VR.flat {a:AV} {v:Value} (h:VR w F a v) (hf:a.flat=true):VR w' F' a v:=by
 cases h with
 |tup cs vs hs hv =>
  refine .tup cs vs hs (fun j u v hu hx=>(hv j u v hu hx).flat2 ?_);exact List.all_eq_true.1 hf u (List.mem_of_getElem? hu)
 |agg cs vs hs hv=>exact VR.flat2 (.agg cs vs hs hv) hf
 |_=>first | (constructor;done) | cases hf
end
inductive B2 (m m':Ac):AV→AV→Prop
 |same (a:AV):B2 m m' a a
 |forget (a:AV) (h:a.cells.length=1):B2 m m' a .any
 |nilsl (z:Nat):B2 m m' .nil (.sl z [])
 |osl (b z i n:Nat) (x:Fb) (l':List AV) (hx:m b=some x) (hb:m' b=none) (hz:x.z=z) (hl:l'.length=n) (hn:i+n≤x.l.length)
   (hv:∀(k:Nat) (v v':AV),x.l[i+k]?=some v→l'[k]?=some v'→B2 m m' v v'):B2 m m' (.osl b z i n) (.sl z l')
 |ptr (b z i j:Nat) (x:Fb) (v:AV) (hx:m b=some x) (hb:m' b=none) (hz:x.z=z) (hv:x.l[i]?=some v):B2 m m' (.ptr b z i j) (.rptr (v.cells.drop j))
 |agg (cs cs':List AV) (hl:cs'.length=cs.length) (hv:∀(k:Nat) (v v':AV),cs[k]?=some v→cs'[k]?=some v'→B2 m m' v v'):B2 m m' (.agg cs) (.agg cs')
 |tup (cs cs':List AV) (hl:cs'.length=cs.length) (hv:∀(k:Nat) (v v':AV),cs[k]?=some v→cs'[k]?=some v'→B2 m m' v v'):B2 m m' (.tup cs) (.tup cs')
def valOf (a:AV) (f:Nat→Value):Value :=
 match a with
 |.agg cs=>.agg ((List.range cs.length).map f).toArray
 |_=>f 0
theorem S9 {w:World} {F:Nat→Prop} {a:AV} {f:Nat→Value} (h:∀(j:Nat) (u:AV),a.cells[j]?=some u→VR w F u (f j)):VR w F a (valOf a f):=by
 unfold valOf;split
 ·rename_i cs
  refine .agg cs _ (by simp) (fun j u v hu hv=>?_);have hj:j<cs.length:=(List.getElem?_eq_some_iff.1 hu).1;rw[List.getElem?_toArray,List.getElem?_map,List.getElem?_range hj]at hv;cases hv;exact h j u hu
 ·rename_i hne
  have hc:a.cells=[a]:=by cases a<;>first | rfl | exact absurd rfl (hne _)
  exact h 0 a (by rw[hc];rfl)
theorem Tm {w:World} {F:Nat→Prop} {a:AV} {f:Nat→Value} (h:VR w F a (valOf a f)):∀(j:Nat) (u:AV),a.cells[j]?=some u→VR w F u (f j):=by
 intro j u hu;unfold valOf at h;split at h
 ·rename_i cs
  have hj:j<cs.length:=(List.getElem?_eq_some_iff.1 hu).1;cases h with
  |agg _ _ hs hv=>exact hv j u _ hu (by rw[List.getElem?_toArray,List.getElem?_map,List.getElem?_range hj];rfl)
 ·rename_i hne
  have hc:a.cells=[a]:=by cases a<;>first | rfl | exact absurd rfl (hne _)
  rw[hc]at hu;rcases j with _ | j
  ·simp only[List.getElem?_cons_zero,Option.some.injEq]at hu;subst hu;exact h
  ·simp at hu
theorem B2.length {m m':Ac} {a a':AV} (h:B2 m m' a a'):a'.cells.length=a.cells.length:=by
 cases h with
 |agg cs cs' hl hv=>exact hl
 |forget a h=>rw[h];rfl
 |_=>rfl
theorem B2.valOf {w:World} {F:Nat→Prop} {m m':Ac} {a a':AV} (h:B2 m m' a a') (f:Nat→Value):VR w F a' (valOf a f)→VR w F a' (valOf a' f):=by
 intro hv;cases h with
 |same=>exact hv
 |forget a h=>exact .any _
 |osl=>exact hv
 |ptr=>exact hv
 |nilsl=>exact hv
 |tup=>exact hv
 |agg cs cs' hl _=>unfold Av.valOf at hv ⊢;simp only at hv ⊢;rw[hl];exact hv
theorem B2.sound {w:World} {F F':Nat→Prop} {m m':Ac} (hh:K4 w (C2 F m) m) (hF:∀b,C2 F' m' b→C2 F m b) (hf:∀b,F' b→m b=none) {a a':AV} (h:B2 m m' a a'):∀{v:Value},VR w (C2 F m) a v→VR w (C2 F' m') a' v:=by
 have hsame:∀{u:AV} {v:Value},VR w (C2 F m) u v→VR w (C2 F' m') u v:=fun hv=>hv.mono (Ez.refl (fun _=>False) w) (fun _ _ x=>x.elim) (fun b _ x=>hF b x);have hnot:∀b x,m b=some x→m' b=none→¬C2 F' m' b:=by
  intro b x h1 h2 h3;rcases h3 with h3 | h3
  ·rw[hf b h3]at h1;cases h1
  ·exact h3 h2
 induction h with
 |same a=>exact fun hv=>hsame hv
 |forget a h=>exact fun hv=>.any _
 |nilsl z =>
  intro v hr;cases hr;exact .sl0 _ _ _
 |agg cs cs' hl hv ih =>
  intro v hr;cases hr with
  |agg _ vs hs hvv =>
   refine .agg _ vs (by rw[hs,hl]) (fun j u x hu hx=>?_);have hj:j<cs.length:=by rw[←hl];exact(List.getElem?_eq_some_iff.1 hu).1
   exact ih j _ u (List.getElem?_eq_getElem hj) hu (hvv j _ x (List.getElem?_eq_getElem hj) hx)
 |tup cs cs' hl hv ih =>
  intro v hr;cases hr with
  |tup _ vs hs hvv =>
   refine .tup _ vs (by rw[hs,hl]) (fun j u x hu hx=>?_);have hj:j<cs.length:=by rw[←hl];exact(List.getElem?_eq_some_iff.1 hu).1
   exact ih j _ u (List.getElem?_eq_getElem hj) hu (hvv j _ x (List.getElem?_eq_getElem hj) hx)
 |osl b z i n x l' hx hb hz hl hn hv ih =>
  intro v hr;cases hr with
  |osl _ _ _ _ c hc hm =>
   obtain⟨cells0,e0,m1,m2⟩:=hm;obtain⟨z0,zs,ones,cells,cap,h1,h2,h3,h4,h5⟩:=hh b x hx;rw[m1]at h1;cases h1;subst hz;by_cases hn0:n=0
   ·subst hn0;have:l'=[]:=List.eq_nil_of_length_eq_zero hl;subst this;exact .sl0 _ _ _
   ·rw[←hl];have hcell:∀k j u',A4 l' k j=some u'→VR w (C2 F' m') u' ((cells0[(i+k)*x.z+j]?).getD undef)∧∃cv,cells0[(i+k)*x.z+j]?=some cv:=by
     intro k j u' hu;unfold A4 at hu;cases hk:l'[k]? with
     |none=>simp[hk]at hu
     |some v' =>
      simp only[hk,Option.bind_some]at hu;have hkl:k<l'.length:=(List.getElem?_eq_some_iff.1 hk).1;have hxl:x.l[i+k]?=some x.l[i+k]:=List.getElem?_eq_getElem (by omega);have hvw:=hv k _ v' hxl hk;have hcs:∀(q:Nat) (u:AV),(x.l[i+k]).cells[q]?=some u→VR w (C2 F m) u ((cells0[(i+k)*x.z+q]?).getD undef):=by
       intro q u hq;obtain⟨cv,g1,g2⟩:=h5 _ _ _ (Dq hxl hq);rw[g1];exact g2
      have h6:=ih k _ v' hxl hk (S9 hcs);have h7:=Tm (hvw.valOf _ h6);refine⟨h7 j u' hu,?_⟩;have hj:j<(x.l[i+k]).cells.length:=by rw[←hvw.length];exact(List.getElem?_eq_some_iff.1 hu).1
      obtain⟨cv,g1,_⟩:=h5 _ _ _ (Dq hxl (List.getElem?_eq_getElem hj));exact⟨cv,g1⟩
    refine .sl x.z l' b (i*x.z) c (fun k j=>(cells0[(i+k)*x.z+j]?).getD undef) (hnot b x hx hb) (Array.getElem?_eq_some_iff.1 m1).1 (by omega) (fun v' hv'=>?_) (fun k j u hu=>(hcell k j u hu).1) (fun k j u hu=>?_)
    ·obtain⟨k,hk⟩:=List.getElem?_of_mem hv';have hkl:k<l'.length:=(List.getElem?_eq_some_iff.1 hk).1;have hxl:x.l[i+k]?=some x.l[i+k]:=List.getElem?_eq_getElem (by omega);rw[(hv k _ v' hxl hk).length];exact zs _ (List.mem_of_getElem? hxl)
    ·obtain⟨_,cv,g1⟩:=hcell k j u hu;have:i*x.z+(k*x.z+j)=(i+k)*x.z+j:=by rw[Nat.add_mul];omega
     simp[World.cell?,m1,this,g1]
 |ptr b z i j x v hx hb hz hv =>
  intro cv hr;cases hr;obtain⟨z0,zs,ones,cells,cap,h1,h2,h3,h4,h5⟩:=hh b x hx;subst hz;refine .rptr _ b (i*x.z+j) (fun k=>(cells[i*x.z+(j+k)]?).getD undef) (hnot b x hx hb) (Array.getElem?_eq_some_iff.1 h1).1 (fun k u hu=>?_) (fun k u hu=>?_)
  ·rw[List.getElem?_drop]at hu;obtain⟨cv,g1,g2⟩:=h5 i (j+k) u (Dq hv hu);simp only[g1,Option.getD_some];exact hsame g2
  ·rw[List.getElem?_drop]at hu;obtain⟨cv,g1,g2⟩:=h5 i (j+k) u (Dq hv hu);simp[World.cell?,h1,Nat.add_assoc,g1]
structure Bm (m m':Ac):Prop where
 mem:∀b x',m' b=some x'→∃x,m b=some x∧x'.e=x.e∧x'.z=x.z∧x'.l.length=x.l.length∧∀(k:Nat) (v v':AV),x.l[k]?=some v→x'.l[k]?=some v'→B2 m m' v v'∧v'.cells.all AV.one=true
theorem Bm.heap {w:World} {F F':Nat→Prop} {m m':Ac} (h:Bm m m') (hh:K4 w (C2 F m) m) (hF:∀b,C2 F' m' b→C2 F m b) (hf:∀b,F' b→m b=none):K4 w (C2 F' m') m':=by
 intro b x' hx';obtain⟨x,h1,h2,h3,h4,h5⟩:=h.mem b x' hx';obtain⟨z0,zs,ones,cells,cap,g1,g2,g3,g4,g5⟩:=hh b x h1;have hel:∀(k:Nat) (v':AV),x'.l[k]?=some v'→∃v,x.l[k]?=some v∧B2 m m' v v'∧v'.cells.all AV.one=true:=by
  intro k v' hv';have hk:k<x.l.length:=by rw[←h4];exact(List.getElem?_eq_some_iff.1 hv').1
  exact⟨_,List.getElem?_eq_getElem hk,h5 k _ v' (List.getElem?_eq_getElem hk) hv'⟩
 refine⟨by rw[h3];exact z0,fun v' hv'=>?_,fun i j u hu=>?_,cells,cap,by rw[h2];exact g1,by rw[h3];exact g2,g3,by rw[h4];exact g4,fun i j u hu=>?_⟩
 ·obtain⟨k,hk⟩:=List.getElem?_of_mem hv';obtain⟨v,q1,q2,_⟩:=hel k v' hk;rw[q2.length,h3];exact zs v (List.mem_of_getElem? q1)
 ·unfold A4 at hu;cases hk:x'.l[i]? with
  |none=>simp[hk]at hu
  |some v' =>
   simp only[hk,Option.bind_some]at hu;obtain⟨v,q1,q2,q3⟩:=hel i v' hk;exact List.all_eq_true.1 q3 u (List.mem_of_getElem? hu)
 ·unfold A4 at hu;cases hk:x'.l[i]? with
  |none=>simp[hk]at hu
  |some v' =>
   simp only[hk,Option.bind_some]at hu;obtain⟨v,q1,q2,q3⟩:=hel i v' hk;have hcs:∀(q:Nat) (u:AV),v.cells[q]?=some u→VR w (C2 F m) u ((cells[i*x.z+q]?).getD undef):=by
    intro q u hq;obtain⟨cv,p1,p2⟩:=g5 _ _ _ (Dq q1 hq);rw[p1];exact p2
   have h6:=q2.sound hh hF hf (S9 hcs);have h7:=Tm (q2.valOf _ h6) j u hu;have hj:j<v.cells.length:=by rw[←q2.length];exact(List.getElem?_eq_some_iff.1 hu).1
   obtain⟨cv,p1,_⟩:=g5 _ _ _ (Dq q1 (List.getElem?_eq_getElem hj));rw[h3];rw[p1]at h7;exact⟨cv,p1,h7⟩
def Ff (m g g':Ac):Ac:=fun b=>match g' b with
 |some x=>some x
 |none=>match g b with
  |some _=>none
  |none=>m b
def Q19 (m:Ac) (args args':List AV):Prop:=args'.length=args.length∧∀(j:Nat) (u u':AV),args[j]?=some u→args'[j]?=some u'→B2 m Ac.emp u u'
theorem Ak.view {P:Program} {f:FuncId} {args args':List AV} {g:Ac} {R:AV→Ac→Prop} (hv:args'.length=args.length∧∀(j:Nat) (u u':AV),args[j]?=some u→args'[j]?=some u'→B2 g Ac.emp u u') (h:Ak P f args' Ac.emp R):Ak P f args g R:=by
 refine⟨h.1,fun w F cargs h1 h2 h3=>?_⟩;have hO:C2 F Ac.emp=F:=by funext b;simp[C2,Ac.emp]
 refine(h.2 w F cargs (fun b hb=>⟨(h1 b hb).1,rfl⟩) (fun b x hx=>by cases hx) ⟨by rw[h3.1,hv.1],fun j u' v hu' hx=>?_⟩).mono ?_
 ·have hj:j<args.length:=by rw[←hv.1];exact(List.getElem?_eq_some_iff.1 hu').1
  have hu:args[j]?=some args[j]:=List.getElem?_eq_getElem hj;exact(hv.2 j _ u' hu hu').sound (F':=F) h2 (fun b hb=>by rw[hO]at hb;exact .inl hb) (fun b hb=>(h1 b hb).2) (h3.2 j _ v hu hx)
 ·rintro e w' ⟨v,cv,g',rfl,hR,hh',hv',hg',hd'⟩;exact⟨v,cv,g',rfl,hR,hh',hv',hg'.mono (fun b _ hb=>absurd rfl hb),fun b hb=>(hd' b hb).elim (fun x=>absurd rfl x) .inr⟩
def Aa (P:Program) (av:Nat→Prop) (f:FuncId) (args:List AV) (m:Ac) (k:AV→Ac→Prop):Prop :=
 (∃g R,(∀b x,g b=some x→m b=some x∧¬av b)∧Ak P f args g R∧∀v g',R v g'→(∀b,g' b≠none→g b≠none∨(m b=none∧¬av b))→k v (Ff m g g')) ∨
 (∃args' R,Q19 m args args'∧Ak P f args' Ac.emp R∧∀v g',R v g'→v.flat=true∧k v m)
theorem Aa.mono {P:Program} {av:Nat→Prop} {f:FuncId} {args:List AV} {m:Ac} {K K':AV→Ac→Prop} (h:Aa P av f args m K) (hk:∀v m,K v m→K' v m):Aa P av f args m K':=by
 rcases h with⟨g,R,h1,h2,h3⟩|⟨args',R,h1,h2,h3⟩
 ·exact .inl ⟨g,R,h1,h2,fun v g' hr hf=>hk _ _ (h3 v g' hr hf)⟩
 ·exact .inr ⟨args',R,h1,h2,fun v g' hr=>⟨(h3 v g' hr).1,hk _ _ (h3 v g' hr).2⟩⟩
theorem Aa.sound {P:Program} {av:Nat→Prop} {f:FuncId} {args:List AV} {F G:Nat→Prop} {w0 w:World} {s:St} {a:Act} {K:AV→Ac→Prop} (hrel:Ee F G w0 s a w) {cargs:Array Value} (ha:VRs w (C2 F s.m) args cargs)
  (hav:∀b,av b→b<w.heap.size) (h:Aa P av f args s.m K):P4 P f∧Calls P f cargs w fun e w'=>∃v cv m',e=.returned cv∧K v m'∧Ee F G w0 {s with m:=m'} a w'∧VR w' (C2 F m') v cv:=by
 rcases h with⟨g,R,h1,⟨hcal,h2⟩,h3⟩|⟨args',R,h1,⟨hcal,h2⟩,h3⟩
 ·refine⟨hcal,?_⟩;have hown:C2 (fun b=>F b∨(s.m b≠none∧g b=none)) g=C2 F s.m:=by
   funext b
   refine propext ⟨fun h=>?_,fun h=>?_⟩
   ·rcases h with(h|h)|h
    ·exact .inl h
    ·exact .inr h.1
    ·cases hg:g b with
     |none=>exact absurd hg h
     |some x=>exact .inr (by rw[(h1 b x hg).1];simp)
   ·rcases h with h|h
    ·exact .inl (.inl h)
    ·cases hg:g b with
     |none=>exact .inl (.inr ⟨h,hg⟩)
     |some x=>exact .inr (by simp[hg])
  refine(h2 w (fun b=>F b∨(s.m b≠none∧g b=none)) cargs (fun b hb=>?_) (by rw[hown];exact fun b x hx=>hrel.heap b x (h1 b x hx).1) (by rw[hown];exact ha)).mono ?_
  ·rcases hb with hb|hb
   ·refine⟨Nat.lt_of_lt_of_le (hrel.far b hb).1 hrel.grow.size,?_⟩;cases hg:g b with
    |none=>rfl
    |some x=>have:=(h1 b x hg).1;rw[(hrel.far b hb).2]at this;cases this
   ·exact⟨hrel.lt hb.1,hb.2⟩
  ·rintro e w' ⟨v,cv,g',rfl,hR,hh',hv',hg',hd'⟩;have hmerge:∀b,Ff s.m g g' b≠none↔g' b≠none∨(g b=none∧s.m b≠none):=by
    intro b;unfold Ff;cases hg1:g' b with
    |some x=>simp
    |none =>
     cases hg2:g b with
     |some x=>simp
     |none=>simp
   have hown':C2 (fun b=>F b∨(s.m b≠none∧g b=none)) g'=C2 F (Ff s.m g g'):=by
    funext b
    refine propext ⟨fun h=>?_,fun h=>?_⟩
    ·rcases h with(h|h)|h
     ·exact .inl h
     ·exact .inr ((hmerge b).2 (.inr ⟨h.2,h.1⟩))
     ·exact .inr ((hmerge b).2 (.inl h))
    ·rcases h with h|h
     ·exact .inl (.inl h)
     ·rcases(hmerge b).1 h with h|h
      ·exact .inr h
      ·exact .inl (.inr ⟨h.2,h.1⟩)
   have hgm:∀b,g b≠none→s.m b≠none:=by
    intro b hb;cases hg2:g b with
    |none=>exact absurd hg2 hb
    |some x=>rw[(h1 b x hg2).1];simp
   rw[hown']at hh' hv';have hnew:∀b,g' b≠none→g b≠none∨(s.m b=none∧¬av b):=by
    intro b hb;rcases hd' b hb with h | h
    ·exact .inl h
    ·refine .inr ⟨?_,fun hb=>by have:=hav b hb;omega⟩;cases hsm:s.m b with
     |none=>rfl
     |some x=>have:=hrel.lt (b:=b) (by rw[hsm];simp);omega
   have hdom:∀b,Ff s.m g g' b≠none→s.m b≠none∨w.heap.size≤b:=by
    intro b hb;rcases(hmerge b).1 hb with h | h
    ·rcases hd' b h with h|h
     ·exact .inl (hgm b h)
     ·exact .inr h
    ·exact .inl h.2
   refine⟨v,cv,Ff s.m g g',rfl,h3 v g' hR hnew,hrel.world _ (hg'.mono fun b _ hb=>hgm b hb) (fun b x hx=>?_) hdom,hv'⟩;by_cases hb:g' b=none
   ·have hx':=hx;unfold Ff at hx';rw[hb]at hx';cases hg2:g b with
    |some y=>simp[hg2]at hx'
    |none =>
     simp only[hg2]at hx';refine(hrel.heap b x hx').mono hg' (by simp[hg2]) (fun k _ hk=>.inr (hgm k hk)) (fun k hk hok=>?_);rcases hok with h | h
     ·exact .inl h
     ·rcases hdom k h with h|h
      ·exact .inr h
      ·omega
   ·have hx':=hx;unfold Ff at hx';cases hg1:g' b with
    |none=>exact absurd hg1 hb
    |some y =>
     rw[hg1]at hx';cases hx';exact hh' b x hg1
 ·refine⟨hcal,?_⟩;have hemp:C2 (fun _=>False) Ac.emp=(fun _=>False):=by
   funext b
   simp[C2,Ac.emp]
  refine(h2 w (fun _=>False) cargs (fun b hb=>hb.elim) (fun b x hx=>by cases hx) ⟨by rw[ha.1,h1.1],fun j u' v hu' hv=>?_⟩).mono ?_
  ·rw[hemp];have hj:j<args.length:=by rw[←h1.1];exact(List.getElem?_eq_some_iff.1 hu').1
   have hu:args[j]?=some args[j]:=List.getElem?_eq_getElem hj;have:=(h1.2 j _ u' hu hu').sound (F':=fun _=>False) hrel.heap (fun b hb=>by rw[hemp]at hb;exact hb.elim) (fun b hb=>hb.elim) (ha.2 j _ v hu hv)
   rwa [hemp]at this
  ·rintro e w' ⟨v,cv,g',rfl,hR,hh',hv',hg',hd'⟩;obtain⟨hf,hk⟩:=h3 v g' hR;refine⟨v,cv,s.m,rfl,hk,?_,hv'.flat hf⟩;have hg2:Ez (fun _=>False) w w':=hg'.mono (fun b _ hb=>hb rfl);exact hrel.world s.m (hg2.mono fun _ _ x=>x.elim) (fun b x hx=>(hrel.heap b x hx).mono hg2 (by simp) (fun _ _ x=>x.elim) (fun _ _ x=>x)) (fun b hb=>.inl hb)
end Go.Av
end
section
namespace Go.Av
def Ea (x:Option AV) (k:AV→Prop):Prop:=∃v,x=some v∧k v
@[simp] theorem Qzm (v:AV) (k:AV→Prop):Ea (some v) k↔k v:=by simp[Ea]
@[simp] theorem Qzg (k:AV→Prop):Ea none k↔False:=by simp[Ea]
def Fq (m:Ac) (z:Nat):AV→Option (List AV)
 |.nil=>some []
 |.zc=>some []
 |.sl z' l=>if z'=z then some l else none
 |.osl b z' i n=>if z'=z then (match m b with | some x=>if x.z=z∧i+n≤x.l.length then some ((x.l.drop i).take n) else none | none=>none) else none
 |_=>none
structure Dy where
 ro:Nat→Bool
 av:Nat→Prop
 dm:Bool
def Dy.txt (ro:Nat→Bool):Dy:=⟨ro,fun _=>False,false⟩
def newVar (cf:Dy) (d:Option Tmp) (t:TypeId) (z:Nat) (v:AV) (m:Ac) (k:AV→Ac→Prop):Prop :=
 v≠.any∧match d with
 |some d=>if cf.ro d=true then k (.rptr v.cells) m else
   v.cells.length=z∧0<z∧(v.cells.all AV.one)=true∧∀b,m b=none→¬cf.av b→k (.ptr b z 0 0) (m.set b ⟨t,z,[v]⟩)
 |none=>False
def Cd (z size:Nat) (old v:AV) (j:Nat):AV :=
 if j=0∧size=z then v else .agg (old.cells.take j++v.cells++old.cells.drop (j+size))
def roO (ro:Nat→Bool):Option Tmp→Bool
 |some d=>ro d
 |none=>false
def Fc (P:Program) (cf:Dy) (o:Oper) (s:St) (k:AV→Ac→Prop):Prop :=
  match o.op with
  |.alloc t=>∃ti,Ai P t=some ti∧newVar cf o.dst t ti.size ti.zero s.m k
  |.box t x=>∃ti,Ai P t=some ti∧newVar cf o.dst t ti.size (s.ev x) s.m k
  |.buildSlice t len parts=>∃ti e te,Ai P t=some ti∧ti.cls=.slice e∧Ai P e=some te∧0<te.size∧len*te.size≤16777216 ∧
      parts.toList.map (·.1)=List.range len∧((parts.toList.map fun(p:Nat × Operand)=>s.ev p.2).all fun v=>v.cells.length==te.size&&v.cells.all AV.one)=true ∧
      (match o.dst with
       |some d=>if cf.ro d=true then k (.sl te.size (parts.toList.map fun(p:Nat × Operand)=>s.ev p.2)) s.m else
          ∀b,s.m b=none→¬cf.av b→k (.osl b te.size 0 len) (s.m.set b ⟨e,te.size,parts.toList.map fun(p:Nat × Operand)=>s.ev p.2⟩)
       |none=>False)
  |.makeSlice t l c=>∃ti e te k1 n k2 n',Ai P t=some ti∧ti.cls=.slice e∧Ai P e=some te∧s.ev l=.int k1 n∧s.ev c=.int k2 n'∧0≤n∧n≤n'∧0<te.size∧0<te.bytes∧(te.bytes:Int)*n'≤281474976710656 ∧
      te.zero.cells.length=te.size∧(te.zero.cells.all AV.one)=true ∧
      ∀b,s.m b=none→¬cf.av b→k (.osl b te.size 0 n.toNat) (s.m.set b ⟨e,te.size,List.replicate n.toNat te.zero⟩)
  |.store t a x=>∃ti b z i j blk old,Ai P t=some ti∧s.ev a=.ptr b z i j∧s.m b=some blk∧blk.z=z∧blk.l[i]?=some old∧(s.ev x).cells.length=ti.size∧j+ti.size≤z∧((s.ev x).cells.all AV.one)=true ∧
      k .any (s.m.set b {blk with l:=blk.l.set i (Cd z ti.size old (s.ev x) j)})
  |.load _ a=>(cf.dm=true→match s.ev a with | .ptr b _ _ _=>cf.av b | _=>True)∧Ea (Rq P o s) fun v=>k v s.m
  |.call c =>
    match c.callee with
    |.builtin .append=>∃x y t ti e te l ys,c.args.toList=[x,y]∧c.argTypes.toList=[t,t]∧Ai P t=some ti∧ti.cls=.slice e∧Ai P e=some te∧0<te.size∧te.zero.cells.length=te.size∧Fq s.m te.size (s.ev y)=some ys ∧
        (ys.all fun v=>v.cells.length==te.size&&v.cells.all AV.one)=true ∧
        ((l.length+ys.length)+(l.length+ys.length) / 4+192)*te.bytes≤281474976710656∧l.length+ys.length≤maxLen ∧
        (if roO cf.ro o.dst=true then (∃b i n,s.ev x=.osl b te.size i n∧s.m b=some ⟨e,te.size,l⟩∧¬cf.av b∧i+n+ys.length≤l.length∧k (.osl b te.size i (n+ys.length)) (s.m.set b ⟨e,te.size,l.take (i+n)++ys++l.drop (i+n+ys.length)⟩)) else
         ((s.ev x=.nil∨s.ev x=.zc)∧l=[]∧(ys=[]→k (.sl te.size []) s.m)∧(ys≠[]→∀b,s.m b=none→¬cf.av b→k (.osl b te.size 0 ys.length) (s.m.set b ⟨e,te.size,ys⟩))) ∨
         (∃b,s.ev x=.osl b te.size 0 l.length∧s.m b=some ⟨e,te.size,l⟩∧¬cf.av b ∧
          ∀b',(s.m.del b) b'=none→¬cf.av b'→k (.osl b' te.size 0 (l.length+ys.length)) ((s.m.del b).set b' ⟨e,te.size,l++ys⟩)))
    |.builtin .copy=>∃x y t t' ti e te b i n blk ys,c.args.toList=[x,y]∧c.argTypes.toList=[t,t']∧Ai P t=some ti∧ti.cls=.slice e∧Ai P e=some te∧te.size=1∧s.ev x=.osl b 1 i n∧s.m b=some blk∧blk.z=1∧i+n≤blk.l.length ∧
        Fq s.m 1 (s.ev y)=some ys∧(ys.all fun v=>v.cells.length==1&&v.cells.all AV.one)=true ∧
        k (.int .i64 (min ys.length n:Nat)) (s.m.set b {blk with l:=blk.l.take i++ys.take n++blk.l.drop (i+min ys.length n)})
    |.value (.func f)=>Aa P cf.av f (c.args.toList.map s.ev) s.m k
    |.value (.tmp t)=>∃f caps,s.r t=.fn f caps∧Aa P cf.av f (c.args.toList.map s.ev++caps) s.m k
    |_=>Ea (Rq P o s) fun v=>k v s.m
  |_=>Ea (Rq P o s) fun v=>k v s.m
def E0 (P:Program) (cf:Dy) (o:Oper) (K:St→Prop) (s:St):Prop:=Fc P cf o s fun v m'=>K ({s with m:=m'}.put o.dst v)
section
variable {P:Program} {F G:Nat→Prop} {w0 w:World} {s:St} {a:Act}
def En (F G:Nat→Prop) (w0:World) (n:Nat) (K:St→Prop) (a:Act) (w:World):Prop:=∃s,K s∧s.n=n∧Ee F G w0 s a w
theorem H5 (s:St) (d:Option Tmp) (v:AV):(s.put d v).n=s.n:=by cases d<;>rfl
theorem Qm1 (hrel:Ee F G w0 s a w) {v:AV} {cv:Value} (hv:VR w (C2 F s.m) v cv) (ha:v≠.any) (t:TypeId) :
  VR (w.alloc (.cells cv.cells t)) (C2 F s.m) (.rptr v.cells) (.pointer (some ⟨w.heap.size,0,none⟩)):=by
 obtain⟨h1,h2⟩:=hv.cells ha;have hg:=Hg (fun _=>False) w (.cells cv.cells t);refine .rptr _ _ _ (fun j=>(cv.cells[j]?).getD undef) (fun h=>?_) (by simp) (fun j u hu=>?_) (fun j u hu=>?_)
 ·rcases h with h|h
  ·have:=(hrel.far _ h).1;have:=hrel.grow.size;omega
  ·exact h hrel.fresh
 ·have hlt:j<cv.cells.size:=by rw[h1];exact(List.getElem?_eq_some_iff.1 hu).1
  have hx:cv.cells[j]?=some cv.cells[j]:=Array.getElem?_eq_getElem hlt;rw[hx];exact(h2 j u _ hu hx).mono hg (fun _ _ x=>x.elim) (fun _ _ x=>x)
 ·have hlt:j<cv.cells.size:=by rw[h1];exact(List.getElem?_eq_some_iff.1 hu).1
  have hx:cv.cells[j]?=some cv.cells[j]:=Array.getElem?_eq_getElem hlt;simp[hx]
theorem Pu (hrel:Ee F G w0 s a w) {cf:Dy} (hav:∀b,cf.av b→b<w.heap.size) {d:Option Tmp} (hd:L5 s.n d=true) {t:TypeId} {z:Nat} {v:AV} {cv:Value} (hv:VR w (C2 F s.m) v cv) {K:St→Prop}
  (h:newVar cf d t z v s.m fun v m'=>K ({s with m:=m'}.put d v)) :
  En F G w0 s.n K (a.put d (.pointer (some ⟨w.heap.size,0,none⟩))) (w.alloc (.cells cv.cells t)):=by
 unfold newVar at h;obtain⟨hany,h⟩:=h;cases d with
 |none=>exact h.elim
 |some d =>
  simp only at h;obtain⟨h1,h2⟩:=hv.cells hany;split at h
  ·exact⟨_,h,rfl,(hrel.allocRo _).put hd (Qm1 hrel hv hany t)⟩
  ·obtain⟨hz,hz0,hones,hk⟩:=h;have hb:=hk _ hrel.fresh (fun hb=>by have:=hav _ hb;omega);refine⟨_,hb,rfl,?_⟩;have hal:=hrel.alloc (⟨t,z,[v]⟩:Fb) cv.cells hz0 (fun u hu=>by simp at hu;rw[hu];exact hz) (fun i j u hu=>by
     rcases i with _|i
     ·simp[A4]at hu;exact List.all_eq_true.1 hones u (List.mem_of_getElem? hu)
     ·simp[A4]at hu) 1 (by rw[h1];simp[hz]) (by simp[maxLen]) (by simp) (fun i j u hu=>by
     rcases i with _|i
     ·simp[A4]at hu;have hlt:j<cv.cells.size:=by rw[h1];exact(List.getElem?_eq_some_iff.1 hu).1
      have hx:cv.cells[j]?=some cv.cells[j]:=Array.getElem?_eq_getElem hlt;exact⟨_,by simpa using hx,h2 j u _ hu hx⟩
     ·simp[A4]at hu)
   refine hal.put hd ?_;have:=VR.ptr (w:=w.alloc (.cells cv.cells t)) (F:=C2 F (s.m.set w.heap.size ⟨t,z,[v]⟩)) w.heap.size z 0 0
   rwa [Nat.zero_mul,Nat.zero_add]at this
end
end Go.Av
end
section
namespace Go.Av
section
variable {P:Program} {F G:Nat→Prop} {w0 w:World} {s:St} {a:Act}
theorem Qbc (z:Nat):∀(vs:List Value) (k:Nat) (cells:Array Value),(∀v∈vs,v.cells.size=z)→(k+vs.length)*z≤cells.size →
  ∃out,Instr.fill (fun i=>some (i*z,z)) cells ((vs.zipIdx k).map fun p=>(p.2,p.1))=some out∧out.size=cells.size ∧
   (∀i v,vs[i]?=some v→∀j,j<z→out[(k+i)*z+j]?=v.cells[j]?)∧(∀j,j<k*z→out[j]?=cells[j]?)
 |[],k,cells,_,_=>⟨cells,rfl,rfl,fun i v h=>by simp at h,fun _ _=>rfl⟩
 |v::vs,k,cells,hv,hl=>by
  have hsz:v.cells.size=z:=hv v (by simp);have hl':k*z+z+vs.length*z≤cells.size:=by
   have e:(k+(v::vs).length)*z=k*z+z+vs.length*z:=by rw[List.length_cons];simp only[Nat.add_mul,Nat.one_mul];omega
   omega
  have hfit:¬((decide (v.cells.size≠z) || decide (k*z+v.cells.size>cells.size))=true):=by simp[hsz];omega
  obtain⟨out,h1,h2,h3,h4⟩:=Qbc z vs (k+1) (v.cells.zipIdx.foldl (fun cs (p:Value × Nat)=>cs.setIfInBounds (k*z+p.2) p.1) cells) (fun u hu=>hv u (by simp[hu]))
   (by
    rw[←Array.foldl_toList,Array.toList_zipIdx,Hw];have e:(k+1+vs.length)*z=k*z+z+vs.length*z:=by simp only[Nat.add_mul,Nat.one_mul]
    omega)
  refine⟨out,?_,?_,?_,?_⟩
  ·simp only[List.zipIdx_cons,List.map_cons];unfold Instr.fill;simp only[if_neg hfit];exact h1
  ·rw[h2,←Array.foldl_toList,Array.toList_zipIdx,Hw]
  ·intro i u hu j hj;rcases i with _ | i
   ·simp only[List.getElem?_cons_zero,Option.some.injEq]at hu;subst hu;have hlt:k*z+j<(k+1)*z:=by rw[Nat.add_mul,Nat.one_mul];omega
    rw[Nat.add_zero,h4 _ hlt,←Array.foldl_toList,Array.toList_zipIdx,Oq _ _ _ _ (by rw[Nat.add_zero,Array.length_toList,hsz];omega),if_pos (by rw[Nat.add_zero,Array.length_toList,hsz];omega)];rw[Array.getElem?_toList]
    congr 1
    omega
   ·have e:(k+(i+1))*z=(k+1+i)*z:=by congr 1;omega
    rw[e];exact h3 i u (by simpa using hu) j hj
  ·intro j hj;have hlt:j<(k+1)*z:=by rw[Nat.add_mul,Nat.one_mul];omega
   rw[h4 j hlt,←Array.foldl_toList,Array.toList_zipIdx,Oq _ _ _ _ (by rw[Nat.add_zero,Array.length_toList,hsz];omega),if_neg (by omega)]
theorem Jw {l:List AV} {z:Nat} (h:(l.all fun v=>v.cells.length==z&&v.cells.all AV.one)=true) :
  (∀v∈l,v.cells.length=z)∧∀i j u,A4 l i j=some u→u.one=true:=by
 rw[List.all_eq_true]at h;refine⟨fun v hv=>?_,fun i j u hu=>?_⟩
 ·have:=h v hv;rw[Bool.and_eq_true,beq_iff_eq]at this;exact this.1
 ·unfold A4 at hu;cases hi:l[i]? with
  |none=>simp[hi]at hu
  |some v =>
   simp only[hi,Option.bind_some]at hu;have:=h v (List.mem_of_getElem? hi);rw[Bool.and_eq_true]at this;exact List.all_eq_true.1 this.2 u (List.mem_of_getElem? hu)
theorem Ng {v:AV} (h:(v.cells.all AV.one)=true) (hl:0<v.cells.length):v≠.any:=by
 intro e;subst e;simp[AV.cells,AV.one]at h
theorem Rk (hrel:Ee F G w0 s a w) {t e:TypeId} {len:Nat} {parts:Array (Nat × Operand)} {ti te:TI} (ht:Ai P t=some ti) (hc:ti.cls=.slice e) (hte:Ai P e=some te) (hz0:0<te.size) (hlim:len*te.size≤16777216)
  (hseq:parts.toList.map (·.1)=List.range len) (hall:((parts.toList.map fun(p:Nat × Operand)=>s.ev p.2).all fun v=>v.cells.length==te.size&&v.cells.all AV.one)=true)
  (hok:∀p∈parts.toList,G6 s.n p.2=true) :
  ∃cells:Array Value,(Instr.buildSlice t len (parts.map fun(i,x)=>(i,a.eval x))).run P w=.ok (.slice (some ⟨w.heap.size,0,none⟩) len len) (w.alloc (.cells cells e))∧cells.size=len*te.size ∧
   ∀i j u,A4 (parts.toList.map fun(p:Nat × Operand)=>s.ev p.2) i j=some u→∃v,cells[i*te.size+j]?=some v∧VR w (C2 F s.m) u v:=by
 obtain⟨i,d,z,hi,hd,hz,g1,g2,g3,g4,g5⟩:=(Eu ht).get;obtain⟨ie,de,ze,hie,hde,hze,k1,k2,k3,k4,k5⟩:=(Eu hte).get;rw[←g3]at hc;cases d<;>simp only[Ds,reduceCtorEq,Mc.slice.injEq]at hc
 rw[hc]at hd;obtain⟨hzs,hones⟩:=Jw hall;have hlen:parts.toList.length=len:=by
  have:=congrArg List.length hseq;simpa using this
 have hvr:∀p∈parts.toList,VR w (C2 F s.m) (s.ev p.2) (a.eval p.2)∧(a.eval p.2).cells.size=te.size∧(s.ev p.2)≠.any:=by
  intro p hp;have h1:=hrel.ev (hok p hp);have h2:(s.ev p.2).cells.length=te.size:=hzs _ (List.mem_map.2 ⟨p,hp,rfl⟩);have h3:s.ev p.2≠.any:=by
   rw[List.all_eq_true]at hall;have:=hall _ (List.mem_map.2 ⟨p,hp,rfl⟩);rw[Bool.and_eq_true]at this;exact Ng this.2 (by omega)
  exact⟨h1,by rw[(h1.cells h3).1];exact h2,h3⟩
 have hparts:(parts.map fun(i,x)=>(i,a.eval x)).toList=((parts.toList.map fun p=>a.eval p.2).zipIdx 0).map fun p=>(p.2,p.1):=by
  apply List.ext_getElem?;intro k;simp only[Array.toList_map,List.getElem?_map,List.getElem?_zipIdx];cases hk:parts.toList[k]? with
  |none=>simp
  |some p =>
   have:(parts.toList.map (·.1))[k]?=some p.1:=by rw[List.getElem?_map,hk];rfl
   rw[hseq]at this;have hk':k<len:=by rw[←hlen];exact(List.getElem?_eq_some_iff.1 hk).1
   rw[List.getElem?_range hk']at this;cases this;simp
 have hzv:(zeroValue e).run P w=.ok ze w:=by simp[zeroValue,typeInfo,hie,hze]
 obtain⟨zero,hzero⟩:∃zero:Array Value,(if len*te.size=0 then pure #[] else do pure (←zeroValue e).cells:Sem (Array Value)).run P w=.ok zero w:=by
  split
  ·exact⟨_,rfl⟩
  ·exact⟨ze.cells,by simp[hzv]⟩
 obtain⟨out,h1,h2,h3,h4⟩:=Qbc te.size (parts.toList.map fun p=>a.eval p.2) 0 ((Array.range (len*te.size)).map (zero[· % zero.size]!)) (fun v hv=>by
   obtain⟨p,hp,rfl⟩:=List.mem_map.1 hv;exact(hvr p hp).2.1) (by rw[Nat.zero_add,List.length_map,hlen];simp)
 have hsz:(sizeOf e).run P w=.ok te.size w:=by rw[Fz hie,k1]
 refine⟨out,?_,by rw[h2];simp,fun i j u hu=>?_⟩
 ·unfold Instr.buildSlice;have hlim':¬(len*te.size>2^24):=by simpa using hlim
  simp only[Sem.run_bind,run_underlying hd,Result.andThen_ok,hsz,if_neg hlim',Sem.run_pure];rw[hparts]at *;have hz2:((if len*te.size=0 then pure #[] else do pure (←zeroValue e).cells:Sem (Array Value)).run P w)=.ok zero w:=hzero;split at hz2
  ·rename_i h0
   simp only[Sem.run_pure,Result.ok.injEq,and_true]at hz2;subst hz2;simp only[h0,if_true,Sem.run_bind,Sem.run_pure,Result.andThen_ok,hparts];simp only[h0]at h1;rw[h1];simp[newRow]
  ·rename_i h0
   have hz3:ze.cells=zero:=by simpa[hzv]using hz2
   subst hz3;simp only[h0,if_false,Sem.run_bind,Sem.run_pure,Result.andThen_ok,hzv,hparts];rw[h1];simp[newRow]
 ·unfold A4 at hu;rw[List.getElem?_map]at hu;cases hk:parts.toList[i]? with
  |none=>simp[hk]at hu
  |some p =>
   simp only[hk,Option.map_some,Option.bind_some]at hu;have hp:=List.mem_of_getElem? hk;obtain⟨q1,q2,q3⟩:=hvr p hp;obtain⟨c1,c2⟩:=q1.cells q3;have hj:j<te.size:=by
    have:=(List.getElem?_eq_some_iff.1 hu).1;rw[hzs _ (List.mem_map.2 ⟨p,hp,rfl⟩)]at this;exact this
   have hx:(a.eval p.2).cells[j]?=some (a.eval p.2).cells[j]:=Array.getElem?_eq_getElem (by omega);refine⟨(a.eval p.2).cells[j]'(by omega),?_,c2 j u _ hu hx⟩;have:=h3 i (a.eval p.2) (by rw[List.getElem?_map,hk];rfl) j hj;rw[Nat.zero_add]at this;rw[this,hx]
end
end Go.Av
end
section
namespace Go.Av
section
variable {P:Program} {F G:Nat→Prop} {w0 w:World} {s:St} {a:Act}
def Xz (n z:Nat) (f:Nat→Nat→Value):List Value:=(List.range (n*z)).map fun q=>f (q / z) (q % z)
theorem P0 (n z:Nat) (f:Nat→Nat→Value):(Xz n z f).length=n*z:=by simp[Xz]
theorem Yc {n z:Nat} (f:Nat→Nat→Value) {i j:Nat} (hi:i<n) (hj:j<z):(Xz n z f)[i*z+j]?=some (f i j):=by
 have hlt:i*z+j<n*z:=by
  have:(i+1)*z≤n*z:=Nat.mul_le_mul_right _ hi;rw[Nat.add_mul,Nat.one_mul]at this;omega
 have hz:0<z:=by omega
 unfold Xz;rw[List.getElem?_map,List.getElem?_range hlt];have h1:(i*z+j) / z=i:=by rw[Nat.add_comm,Nat.add_mul_div_right _ _ hz,Nat.div_eq_of_lt hj];omega
 have h2:(i*z+j) % z=j:=by rw[Nat.add_comm,Nat.add_mul_mod_self_right,Nat.mod_eq_of_lt hj]
 simp[h1,h2]
theorem Qdp {q z n:Nat} (hz:0<z) (h:q<n*z):q / z<n∧q % z<z∧(q / z)*z+q % z=q:=by
 refine⟨(Nat.div_lt_iff_lt_mul hz).2 h,Nat.mod_lt _ hz,?_⟩;rw[Nat.mul_comm];exact Nat.div_add_mod q z
theorem Dp {l:List AV} {z i j:Nat} {u:AV} (hzs:∀v∈l,v.cells.length=z) (h:A4 l i j=some u):i<l.length∧j<z:=by
 unfold A4 at h;cases hi:l[i]? with
 |none=>simp[hi]at h
 |some v =>
  simp only[hi,Option.bind_some]at h;have h1:=(List.getElem?_eq_some_iff.1 hi).1;have h2:=(List.getElem?_eq_some_iff.1 h).1;rw[hzs v (List.mem_of_getElem? hi)]at h2;exact⟨h1,h2⟩
theorem Qa8 {l:List AV} {z i j:Nat} (hzs:∀v∈l,v.cells.length=z) (hi:i<l.length) (hj:j<z):∃u,A4 l i j=some u:=by
 have h1:l[i]?=some l[i]:=List.getElem?_eq_getElem hi;have h2:j<l[i].cells.length:=by rw[hzs _ (List.getElem_mem hi)];exact hj
 exact⟨_,Dq h1 (List.getElem?_eq_getElem h2)⟩
theorem Ho (hrel:Ee F G w0 s a w) {z:Nat} (hz0:0<z) {y:AV} {cy:Value} (hy:VR w (C2 F s.m) y cy) {ys:List AV} (h:Fq s.m z y=some ys)
  (hall:(ys.all fun v=>v.cells.length==z&&v.cells.all AV.one)=true) :
  ∃A c,cy=.slice A ys.length c∧(A=none→ys=[])∧∀ad,A=some ad →
   ∃news:List Value,news.length=ys.length*z∧(∀(j:Nat) (u:Value),news[j]?=some u→w.cell? (ad.add j)=some u)∧(∀u∈news,u.oneCell'=true) ∧
    ∀i j u,A4 ys i j=some u→∃v,news[i*z+j]?=some v∧VR w (C2 F s.m) u v:=by
 obtain⟨hzs,hones⟩:=Jw hall
 -- out of a function of cells
 have mk:∀(b o:Nat) (f:Nat→Nat→Value),(∀i j u,A4 ys i j=some u→VR w (C2 F s.m) u (f i j))→(∀i j u,A4 ys i j=some u→w.cell? ⟨b,o+(i*z+j),none⟩=some (f i j)) →
   ∃news:List Value,news.length=ys.length*z∧(∀(j:Nat) (u:Value),news[j]?=some u→w.cell? ((⟨b,o,none⟩:Addr).add j)=some u)∧(∀u∈news,u.oneCell'=true) ∧
    ∀i j u,A4 ys i j=some u→∃v,news[i*z+j]?=some v∧VR w (C2 F s.m) u v:=by
  intro b o f h1 h2;have key:∀q u,(Xz ys.length z f)[q]?=some u→∃i j x,A4 ys i j=some x∧i*z+j=q∧u=f i j:=by
   intro q u hq;have hlt:q<ys.length*z:=by have:=(List.getElem?_eq_some_iff.1 hq).1;rwa [P0]at this
   obtain⟨e1,e2,e3⟩:=Qdp hz0 hlt;obtain⟨x,hx⟩:=Qa8 hzs e1 e2;refine⟨_,_,x,hx,e3,?_⟩;have:=Yc f e1 e2;rw[e3,hq]at this;exact Option.some.inj this
  refine⟨Xz ys.length z f,P0 _ _ _,fun q u hq=>?_,fun u hu=>?_,fun i j u hu=>?_⟩
  ·obtain⟨i,j,x,hx,rfl,rfl⟩:=key q u hq;rw[El];exact h2 i j x hx
  ·obtain⟨q,hq⟩:=List.getElem?_of_mem hu;obtain⟨i,j,x,hx,_,rfl⟩:=key q u hq;exact(h1 i j x hx).oneCell (hones i j x hx)
  ·obtain⟨e1,e2⟩:=Dp hzs hu;exact⟨f i j,Yc f e1 e2,h1 i j u hu⟩
 cases hy<;>simp only[Fq,reduceCtorEq,Option.some.injEq]at h
 ·subst h;exact⟨_,_,rfl,fun _=>rfl,fun ad h=>by cases h⟩
 ·split at h
  ·cases h;refine⟨_,_,rfl,fun _=>rfl,fun ad _=>⟨[],by simp,(fun j u hu=>by simp at hu),(fun u hu=>by simp at hu),(fun i j u hu=>by simp[A4]at hu)⟩⟩
  ·cases h
 ·rename_i z' l b o c f hF hb hc hz hv hm
  split at h
  ·rename_i hzz
   cases h;subst hzz;refine⟨_,_,rfl,(fun h=>by cases h),fun ad had=>?_⟩;cases had;exact mk b o f hv hm
  ·cases h
 ·rename_i b z' i n c hc hm
  split at h
  ·rename_i hzz
   subst hzz;split at h
   ·rename_i x hx
    split at h
    ·rename_i hb
     cases h;obtain⟨hxz,hn⟩:=hb;obtain⟨z0,zs,ones,cells,cap,h1,h2,h3,h4,h5⟩:=hrel.heap b x hx;have hlen:((x.l.drop i).take n).length=n:=by simp;omega
     have hcell:∀i' j u,A4 ((x.l.drop i).take n) i' j=some u→A4 x.l (i+i') j=some u:=by
      intro i' j u hu;unfold A4 at hu ⊢;rw[List.getElem?_take]at hu;split at hu
      ·rwa [List.getElem?_drop]at hu
      ·simp at hu
     refine⟨some ⟨b,i*z',none⟩,c,(by rw[hlen]),(fun h=>by cases h),fun ad had=>?_⟩;cases had;refine mk b (i*z') (fun i' j=>(cells[(i+i')*z'+j]?).getD undef) (fun i' j u hu=>?_) (fun i' j u hu=>?_)
     ·obtain⟨v,g1,g2⟩:=h5 _ _ _ (hcell i' j u hu);rw[hxz]at g1;simp only[g1,Option.getD_some];exact g2
     ·obtain⟨v,g1,g2⟩:=h5 _ _ _ (hcell i' j u hu);rw[hxz]at g1;have e:i*z'+(i'*z'+j)=(i+i')*z'+j:=by rw[Nat.add_mul];omega
      simp[World.cell?,h1,e,g1]
    ·cases h
   ·cases h
  ·cases h
 ·subst h;exact⟨_,_,rfl,fun _=>rfl,fun ad _=>⟨[],by simp,(fun j u hu=>by simp at hu),(fun u hu=>by simp at hu),(fun i j u hu=>by simp[A4]at hu)⟩⟩
theorem Tp {z size:Nat} {old v:AV} {j:Nat} (ho:old.cells.length=z) (hv:v.cells.length=size) (hj:j+size≤z) :
  (Cd z size old v j).cells.length=z∧∀k u,(Cd z size old v j).cells[k]?=some u→(j≤k∧k<j+size∧v.cells[k-j]?=some u)∨((k<j∨j+size≤k)∧old.cells[k]?=some u):=by
 unfold Cd;split
 ·rename_i h
  obtain⟨rfl,rfl⟩:=h;refine⟨hv,fun k u hu=>.inl ⟨by omega,?_,by simpa using hu⟩⟩;have:=(List.getElem?_eq_some_iff.1 hu).1;omega
 ·refine⟨?_,fun k u hu=>?_⟩
  ·show(old.cells.take j++v.cells++old.cells.drop (j+size)).length=z
   simp;omega
  replace hu:(old.cells.take j++v.cells++old.cells.drop (j+size))[k]?=some u:=hu;rcases Nat.lt_or_ge k j with h1 | h1
  ·rw[List.append_assoc,List.getElem?_append_left (by simp;omega),List.getElem?_take,if_pos h1]at hu;exact .inr ⟨.inl h1,hu⟩
  ·rcases Nat.lt_or_ge k (j+size)with h2|h2
   ·rw[List.append_assoc,List.getElem?_append_right (by simp;omega),List.getElem?_append_left (by simp;omega)]at hu;refine .inl ⟨h1,h2,?_⟩;rw[←hu];congr 1;simp;omega
   ·rw[List.getElem?_append_right (by simp;omega),List.getElem?_drop]at hu;refine .inr ⟨.inr h2,?_⟩;rw[←hu];congr 1;simp;omega
theorem K7 (cells:Array Value) (vs:List Value) (o k:Nat) (h:o+vs.length≤cells.size) :
  (cells.toList.take o++vs++cells.toList.drop (o+vs.length)).toArray[k]?=if o≤k∧k<o+vs.length then vs[k-o]? else cells[k]?:=by
 rw[List.getElem?_toArray];by_cases h1:k<o
 ·rw[if_neg (by omega),List.append_assoc,List.getElem?_append_left (by simp;omega),List.getElem?_take,if_pos h1,Array.getElem?_toList]
 ·by_cases h2:k<o+vs.length
  ·rw[if_pos (by omega),List.append_assoc,List.getElem?_append_right (by simp;omega),List.getElem?_append_left (by simp;omega)]
   congr 1;simp;omega
  ·rw[if_neg (by omega),List.getElem?_append_right (by simp;omega),List.getElem?_drop,Array.getElem?_toList]
   congr 1;simp;omega
theorem Kh (cells:Array Value) (vs:List Value) (o:Nat) (h:o+vs.length≤cells.size):(cells.toList.take o++vs++cells.toList.drop (o+vs.length)).toArray.size=cells.size:=by
 simp;omega
theorem Qdk (hrel:Ee F G w0 s a w) {t:TypeId} {ti:TI} (ht:Ai P t=some ti) {b i j:Nat} {blk:Fb} (hb:s.m b=some blk) {old v:AV} (ho:blk.l[i]?=some old) {cv:Value} (hv:VR w (C2 F s.m) v cv)
  (hvl:v.cells.length=ti.size) (hj:j+ti.size≤blk.z) (hones:(v.cells.all AV.one)=true) :
  ∃w',(Instr.storeAt t (.pointer (some ⟨b,i*blk.z+j,none⟩)) cv).run P w=.ok () w'∧Ee F G w0 {s with m:=s.m.set b {blk with l:=blk.l.set i (Cd blk.z ti.size old v j)}} a w':=by
 obtain⟨inf,d,z,hinf,hd,hz,g1,g2,g3,g4,g5⟩:=(Eu ht).get;obtain⟨z0,zs,ones,cells,cap,h1,h2,h3,h4,h5⟩:=hrel.heap b blk hb;have hil:i<blk.l.length:=(List.getElem?_eq_some_iff.1 ho).1;have hcs:cv.cells.size=v.cells.length∧∀(j:Nat) (u:AV) (x:Value),v.cells[j]?=some u→cv.cells[j]?=some x→VR w (C2 F s.m) u x:=by
  by_cases hany:v=.any
  ·subst hany;simp[AV.cells,AV.one]at hones
  ·exact hv.cells hany
 have hfit:i*blk.z+j+cv.cells.toList.length≤cells.size:=by
  rw[Array.length_toList,hcs.1,hvl,h2];have:(i+1)*blk.z≤cap*blk.z:=Nat.mul_le_mul_right _ (by omega);rw[Nat.add_mul,Nat.one_mul]at this;omega
 have hst:=run_storeCells_at P b (i*blk.z+j) blk.e cv.cells.toList 0 cells w h1 (by simpa using hfit) (fun x hx=>by
  obtain⟨k,hk⟩:=List.getElem?_of_mem hx;rw[Array.getElem?_toList]at hk;have hlt:k<v.cells.length:=by rw[←hcs.1];exact(Array.getElem?_eq_some_iff.1 hk).1
  have hu:v.cells[k]?=some v.cells[k]:=List.getElem?_eq_getElem hlt;exact(hcs.2 k _ x hu hk).oneCell (List.all_eq_true.1 hones _ (List.getElem_mem hlt)))
 simp only[Nat.add_zero]at hst;have holdz:old.cells.length=blk.z:=zs old (List.mem_of_getElem? ho);obtain⟨q1,q2⟩:=Tp (j:=j) holdz hvl hj;refine⟨w.setRow b (cells.toList.take (i*blk.z+j)++cv.cells.toList++cells.toList.drop (i*blk.z+j+cv.cells.toList.length)).toArray,by simp only[Instr.storeAt,Instr.sureAddr,storeVar,Sem.run_bind,Sem.run_pure,Result.andThen_ok,Fz hinf,g1,hcs.1,hvl,ne_eq,not_true_eq_false,if_false,hst],?_⟩;refine hrel.setRow hb {blk with l:=blk.l.set i (Cd blk.z ti.size old v j)} rfl rfl h1 _ (Kh cells _ _ hfit) (by rw[List.length_set,h2];exact Nat.mul_le_mul_right _ h4) (fun x hx=>?_) (fun i' j' u hu=>?_) (fun i' j' u hu=>?_)
 ·rcases List.mem_or_eq_of_mem_set hx with hx|hx
  ·exact zs x hx
  ·rw[hx];exact q1
 ·by_cases hi:i'=i
  ·subst hi;simp only[A4,List.getElem?_set_self hil,Option.bind_some]at hu;rcases q2 j' u hu with⟨_,_,hu'⟩ | ⟨_,hu'⟩
   ·exact List.all_eq_true.1 hones _ (List.mem_of_getElem? hu')
   ·exact ones i' j' u (Dq ho hu')
  ·simp only[A4,List.getElem?_set_ne (Ne.symm hi)]at hu;exact ones i' j' u hu
 ·by_cases hi:i'=i
  ·subst hi;simp only[A4,List.getElem?_set_self hil,Option.bind_some]at hu;rw[K7 cells _ _ _ hfit];simp only[Array.length_toList,hcs.1,hvl,Array.getElem?_toList];rcases q2 j' u hu with⟨e1,e2,hu'⟩ | ⟨e1,hu'⟩
   ·rw[if_pos (by omega)];have hlt:j'-j<cv.cells.size:=by rw[hcs.1];exact(List.getElem?_eq_some_iff.1 hu').1
    have hx:cv.cells[j'-j]?=some cv.cells[j'-j]:=Array.getElem?_eq_getElem hlt;refine⟨_,?_,hcs.2 _ _ _ hu' hx⟩;rw[←hx];congr 1;omega
   ·rw[if_neg (by omega)];exact h5 i' j' u (Dq ho hu')
  ·simp only[A4,List.getElem?_set_ne (Ne.symm hi)]at hu;have hj':j'<blk.z:=(Dp zs (show A4 blk.l i' j'=some u from hu)).2;rw[K7 cells _ _ _ hfit,if_neg ?_]
   ·exact h5 i' j' u hu
   ·simp only[Array.length_toList,hcs.1,hvl];rcases Nat.lt_or_ge i' i with h' | h'
    ·have:(i'+1)*blk.z≤i*blk.z:=Nat.mul_le_mul_right _ h';rw[Nat.add_mul,Nat.one_mul]at this;omega
    ·have:(i+1)*blk.z≤i'*blk.z:=Nat.mul_le_mul_right _ (by omega);rw[Nat.add_mul,Nat.one_mul]at this;omega
end
end Go.Av
end
section
namespace Go.Av
section
variable {P:Program} {F G:Nat→Prop} {w0 w:World} {s:St} {a:Act}
theorem Qe4 (hrel:Ee F G w0 s a w) {t e:TypeId} {ti te:TI} (ht:Ai P t=some ti) (hc:ti.cls=.slice e) (hte:Ai P e=some te) (hz0:0<te.size) (hb0:0<te.bytes) {k k':IntKind} {n n':Int} (h0:0≤n) (hn:n≤n')
  (hby:(te.bytes:Int)*n'≤281474976710656) (hzl:te.zero.cells.length=te.size) (hones:(te.zero.cells.all AV.one)=true) :
  ∃w',(Instr.makeSlice t (.int k n) (.int k' n')).run P w=.ok (.slice (some ⟨w.heap.size,0,none⟩) n.toNat n'.toNat) w' ∧
   Ee F G w0 {s with m:=s.m.set w.heap.size ⟨e,te.size,List.replicate n.toNat te.zero⟩} a w'∧VR w' (C2 F (s.m.set w.heap.size ⟨e,te.size,List.replicate n.toNat te.zero⟩)) (.osl w.heap.size te.size 0 n.toNat) (.slice (some ⟨w.heap.size,0,none⟩) n.toNat n'.toNat):=by
 obtain⟨i,d,z,hi,hd,hz,g1,g2,g3,g4,g5⟩:=(Eu ht).get;obtain⟨ie,de,ze,hie,hde,hze,k1,k2,k3,k4,k5⟩:=(Eu hte).get;rw[←g3]at hc;cases d<;>simp only[Ds,reduceCtorEq,Mc.slice.injEq]at hc
 rw[hc]at hd;have h63:n'≤9223372036854775807:=by
  have:n'≤(te.bytes:Int)*n':=by
   have h1:(1:Int)*n'≤(te.bytes:Int)*n':=Int.mul_le_mul_of_nonneg_right (by omega) (by omega);omega
  omega
 have hr:=run_make (P:=P) w t e ie ze hd hie hze k k' n n' h0 hn (by rw[k2];exact hby) h63;have hzany:te.zero≠.any:=Ng hones (by omega);have hzc:VR w (C2 F s.m) te.zero ze:=by rw[←k4];exact Ig w _ ze
 obtain⟨c1,c2⟩:=hzc.cells hzany;rw[k1]at hr;have hzsz:ze.cells.size=te.size:=by rw[c1,hzl]
 have hget:∀q,q<n'.toNat*te.size→(madeCells ze.cells (n'.toNat*te.size))[q]?=ze.cells[q % te.size]?:=by
  intro q hq;have hlt:q % ze.cells.size<ze.cells.size:=Nat.mod_lt _ (by omega);rw[←hzsz]at hq ⊢;unfold madeCells;rw[Array.getElem?_map,Array.getElem?_eq_getElem (by simpa using hq)];simp only[Array.getElem_range,Option.map_some];rw[getElem!_pos ze.cells (q % ze.cells.size) hlt,Array.getElem?_eq_getElem hlt]
 refine⟨_,hr,?_,?_⟩
 ·refine hrel.alloc (⟨e,te.size,List.replicate n.toNat te.zero⟩:Fb) _ hz0 (fun v hv=>by rw[List.eq_of_mem_replicate hv];exact hzl) (fun i j u hu=>?_) n'.toNat (by simp[madeCells]) (by simp only[maxLen];omega) (by simp;omega) (fun i j u hu=>?_)
  ·unfold A4 at hu;rw[List.getElem?_replicate]at hu;split at hu
   ·simp only[Option.bind_some]at hu;exact List.all_eq_true.1 hones u (List.mem_of_getElem? hu)
   ·simp at hu
  ·unfold A4 at hu;rw[List.getElem?_replicate]at hu;split at hu
   ·rename_i hin
    simp only[Option.bind_some]at hu;have hj:j<te.size:=by rw[←hzl];exact(List.getElem?_eq_some_iff.1 hu).1
    have hlt:i*te.size+j<n'.toNat*te.size:=by
     have:(i+1)*te.size≤n'.toNat*te.size:=Nat.mul_le_mul_right _ (by omega);rw[Nat.add_mul,Nat.one_mul]at this;omega
    have hmod:(i*te.size+j) % te.size=j:=by rw[Nat.add_comm,Nat.add_mul_mod_self_right,Nat.mod_eq_of_lt hj]
    have hx:ze.cells[j]?=some (ze.cells[j]'(by omega)):=Array.getElem?_eq_getElem (by omega);refine⟨ze.cells[j]'(by omega),?_,c2 j u _ hu hx⟩;show(madeCells ze.cells (n'.toNat*te.size))[i*te.size+j]?=_
    rw[hget _ hlt,hmod,hx]
   ·simp at hu
 ·have:=VR.osl (w:=w.alloc (.cells (madeCells ze.cells (n'.toNat*te.size)) e)) (F:=C2 F (s.m.set w.heap.size ⟨e,te.size,List.replicate n.toNat te.zero⟩)) w.heap.size te.size 0 n.toNat n'.toNat (by omega) ⟨_,_,Iw w _,by simp[madeCells]⟩
  rwa [Nat.zero_mul]at this
theorem Qeg (hrel:Ee F G w0 s a w) {t t' e:TypeId} {ti te:TI} (ht:Ai P t=some ti) (hc:ti.cls=.slice e) (hte:Ai P e=some te) (hz1:te.size=1) {b i n:Nat} {blk:Fb} (hb:s.m b=some blk) (hbz:blk.z=1) (hin:i+n≤blk.l.length)
  {cx cy:Value} (hx:VR w (C2 F s.m) (.osl b 1 i n) cx) {y:AV} (hy:VR w (C2 F s.m) y cy) {ys:List AV} (hys:Fq s.m 1 y=some ys) (hall:(ys.all fun v=>v.cells.length==1&&v.cells.all AV.one)=true) (ty:TypeId) :
  ∃w',(Builtin.copy_ #[t,t'] ty #[cx,cy]).run P w=.ok (.int .i64 (min ys.length n:Nat)) w' ∧
   Ee F G w0 {s with m:=s.m.set b {blk with l:=blk.l.take i++ys.take n++blk.l.drop (i+min ys.length n)}} a w':=by
 obtain⟨inf,d,z,hi,hd,hz,g1,g2,g3,g4,g5⟩:=(Eu ht).get;obtain⟨ie,de,ze,hie,hde,hze,k1,k2,k3,k4,k5⟩:=(Eu hte).get;rw[←g3]at hc;cases d<;>simp only[Ds,reduceCtorEq,Mc.slice.injEq]at hc
 rw[hc]at hd;obtain⟨z0,zs,ones,cells,cap,h1,h2,h3,h4,h5⟩:=hrel.heap b blk hb;rw[hbz]at h2 h5 zs;obtain⟨A,c,rfl,hA,hnews⟩:=Ho hrel (by omega) hy hys hall;obtain⟨yzs,yones⟩:=Jw hall;cases hx with
 |osl _ _ _ _ cx hcx hmx =>
  simp only[Nat.mul_one];cases A with
  |none =>
   have hy0:=hA rfl;subst hy0;simp only[List.length_nil,Nat.zero_min,List.take_nil,List.append_nil,Nat.add_zero,List.take_append_drop];refine⟨w,by simp[Builtin.copy_,run_underlying hd,Builtin.lenOf,Builtin.firstCells,sizeOf,typeInfo,hie,storeCells,goInt,loadCells,loadCellsFrom],?_⟩;have:s.m.set b {blk with l:=blk.l}=s.m:=by
    funext k
    by_cases hk:k=b
    ·subst hk;rw[Ac.set_same,hb]
    ·rw[Ac.set_other _ _ hk]
   rw[this];exact hrel
  |some ad =>
   obtain⟨news,e1,e2,e3,e4⟩:=hnews ad rfl;rw[Nat.mul_one]at e1;have hmin:Nat.min ys.length n=min ys.length n:=rfl;have hlen:(news.take n).length=min ys.length n:=by rw[List.length_take,e1,Nat.min_comm]
   have hfit:i+(news.take n).length≤cells.size:=by rw[hlen,h2];omega
   have hr:=run_copy_row P w t t' ty e b i n cx ad ys.length c cells blk.e (news.take n) hd (by rw[hie];simp[k1,hz1]) h1 hlen (fun j v hv=>by
    rw[List.getElem?_take]at hv;split at hv
    ·exact e2 j v hv
    ·cases hv) hfit (fun v hv=>e3 v (List.mem_of_mem_take hv))
   rw[hlen]at hr;refine⟨_,hr,?_⟩;have hsz:=Kh cells (news.take n) i hfit;rw[hlen]at hsz hfit;have hll:(blk.l.take i++ys.take n++blk.l.drop (i+min ys.length n)).length=blk.l.length:=by simp;omega
   -- what stands where
   have hget:∀k,(blk.l.take i++ys.take n++blk.l.drop (i+min ys.length n))[k]?=if i≤k∧k<i+min ys.length n then ys[k-i]? else blk.l[k]?:=by
    intro k;by_cases q1:k<i
    ·rw[if_neg (by omega),List.append_assoc,List.getElem?_append_left (by simp;omega),List.getElem?_take,if_pos q1]
    ·by_cases q2:k<i+min ys.length n
     ·rw[if_pos (by omega),List.append_assoc,List.getElem?_append_right (by simp;omega),List.getElem?_append_left (by simp;omega),List.getElem?_take];rw[if_pos (by simp;omega)]
      congr 1;simp;omega
     ·rw[if_neg (by omega),List.getElem?_append_right (by simp;omega),List.getElem?_drop]
      congr 1;simp;omega
   refine hrel.setRow hb {blk with l:=blk.l.take i++ys.take n++blk.l.drop (i+min ys.length n)} rfl rfl h1 _ hsz (by rw[hll,hbz,Nat.mul_one,h2];omega) (fun x hx=>?_) (fun i' j' u hu=>?_) (fun i' j' u hu=>?_)
   ·rw[hbz];rcases List.mem_append.1 hx with hx | hx
    ·rcases List.mem_append.1 hx with hx|hx
     ·exact zs x (List.mem_of_mem_take hx)
     ·exact yzs x (List.mem_of_mem_take hx)
    ·exact zs x (List.mem_of_mem_drop hx)
   ·simp only[A4,hget]at hu;split at hu
    ·exact yones _ _ u hu
    ·exact ones _ _ u hu
   ·rw[hbz];have hj':j'=0:=by
     simp only[A4,hget]at hu;split at hu
     ·have:=(Dp yzs (show A4 ys (i'-i) j'=some u from hu)).2;omega
     ·have:=(Dp zs (show A4 blk.l i' j'=some u from hu)).2;omega
    subst hj';simp only[A4,hget]at hu;have hsg:=K7 cells (news.take n) i (i'*1+0) (by rw[hlen];exact hfit);rw[hlen]at hsg;rw[hsg];split at hu
    ·rename_i hb'
     rw[if_pos (by omega),List.getElem?_take,if_pos (by omega)];obtain⟨v,q1,q2⟩:=e4 (i'-i) 0 u hu;refine⟨v,?_,q2⟩;rw[←q1];congr 1;omega
    ·rename_i hb'
     rw[if_neg (by omega)];exact h5 i' 0 u hu
end
end Go.Av
end
section
namespace Go.Av
section
variable {P:Program} {F G:Nat→Prop} {w0 w:World} {s:St} {a:Act}
theorem Ro (hrel:Ee F G w0 s a w) {t e:TypeId} {ti te:TI} (ht:Ai P t=some ti) (hc:ti.cls=.slice e) (hte:Ai P e=some te) (hz0:0<te.size) (hzl:te.zero.cells.length=te.size)
  {y:AV} {cy:Value} (hy:VR w (C2 F s.m) y cy) {ys:List AV} (hys:Fq s.m te.size y=some ys) (hall:(ys.all fun v=>v.cells.length==te.size&&v.cells.all AV.one)=true)
  (hby:(ys.length+ys.length / 4+192)*te.bytes≤281474976710656) (hml:ys.length≤maxLen) (ty:TypeId) (Ab:Option Addr) :
  (ys=[]∧∃A c,(Builtin.append_ #[t,t] ty #[.slice Ab 0 0,cy]).run P w=.ok (.slice A 0 c) w) ∨
  (ys≠[]∧∃cv w',(Builtin.append_ #[t,t] ty #[.slice Ab 0 0,cy]).run P w=.ok cv w'∧Ee F G w0 {s with m:=s.m.set w.heap.size ⟨e,te.size,ys⟩} a w' ∧
   VR w' (C2 F (s.m.set w.heap.size ⟨e,te.size,ys⟩)) (.osl w.heap.size te.size 0 ys.length) cv):=by
 obtain⟨inf,d,z,hi,hd,hz,g1,g2,g3,g4,g5⟩:=(Eu ht).get;obtain⟨ie,de,ze,hie,hde,hze,k1,k2,k3,k4,k5⟩:=(Eu hte).get;rw[←g3]at hc;cases d<;>simp only[Ds,reduceCtorEq,Mc.slice.injEq]at hc
 rw[hc]at hd;obtain⟨A,c,rfl,hA,hnews⟩:=Ho hrel hz0 hy hys hall;obtain⟨yzs,yones⟩:=Jw hall;by_cases hy0:ys=[]
 ·subst hy0;refine .inl ⟨rfl,Ab,0,?_⟩;cases Ab<;>cases A<;>simp[Builtin.append_,run_underlying hd,sizeOf,typeInfo,hie,Builtin.lenOf,Builtin.firstCells,loadCells,loadCellsFrom,storeCells]
 ·refine .inr ⟨hy0,?_⟩;cases A with
  |none=>exact absurd (hA rfl) hy0
  |some ad =>
   have hpos:0<ys.length:=by
    rcases Nat.eq_zero_or_pos ys.length with h|h
    ·exact absurd (List.eq_nil_of_length_eq_zero h) hy0
    ·exact h
   obtain⟨news,e1,e2,e3,e4⟩:=hnews ad rfl;have h63:(ys.length:Int)≤9223372036854775807:=by simp only[maxLen]at hml;omega
   have hr:(Builtin.append_ #[t,t] ty #[.slice Ab 0 0,.slice (some ad) ys.length c]).run P w=.ok (.slice (some ⟨w.heap.size,0,none⟩) ys.length (grownCap w ys.length 0 e)) (w.drew.alloc (.cells (news.toArray++Builtin.zeroCells ze.cells (grownCap w ys.length 0 e-ys.length)) e)):=by
    cases Ab with
    |none=>exact run_append_nil (P:=P) w t ty e ie ze hd hie hze ad ys.length c news (by rw[k1];exact e1) e2 hpos h63 (by rw[k2];exact Nat.le_trans (Nat.mul_le_mul_right _ (by omega)) hby)
    |some ab =>
     have:=run_append_grow (P:=P) w t ty e ie ze hd hie hze ab 0 0 [] (by simp) (by simp) ad ys.length c news (by rw[k1];exact e1) e2 (by omega) (by simpa using h63) (growslice_fits_wide (by omega) (by rw[k2,Nat.zero_add];exact hby));simpa using this
   have hge:=grownCap_ge w ys.length 0 e;have hzsz:ze.cells.size=te.size:=by
    have hzc:VR w (C2 F s.m) te.zero ze:=by rw[←k4];exact Ig w _ ze
    by_cases hany:te.zero=.any
    ·have hz1:te.size=1:=by rw[←hzl,hany];rfl
     rw[hz1];rw[←k4]at hany;unfold Rd at hany;split at hany
     ·cases hany
     ·rename_i v hv
      cases ze<;>first | rfl | exact absurd rfl (hv _)
    ·rw[(hzc.cells hany).1,hzl]
   have hal:=hrel.drew.alloc (⟨e,te.size,ys⟩:Fb) (news.toArray++Builtin.zeroCells ze.cells (grownCap w ys.length 0 e-ys.length)) hz0 yzs yones (grownCap w ys.length 0 e)
    (by simp only[Array.size_append,List.size_toArray,size_zeroCells,e1,hzsz,←Nat.add_mul];congr 1;omega)
    (grownCap_le_maxLen w ys.length 0 e hml) hge (fun i j u hu=>by
     obtain⟨v,q1,q2⟩:=e4 i j u hu;have hlt:i*te.size+j<news.length:=(List.getElem?_eq_some_iff.1 q1).1;refine⟨v,?_,q2.mono (Ez.mono (G:=fun _=>False) ⟨rfl,rfl,rfl,Nat.le_refl _,fun _ _ _=>rfl,fun _ c _ hc=>⟨c,hc,rfl⟩⟩ (fun _ _ x=>x.elim):Ez (fun _=>False) w w.drew) (fun _ _ x=>x.elim) (fun _ _ x=>x)⟩;rw[Array.getElem?_append_left (by simpa using hlt)];simpa using q1)
   refine⟨_,_,hr,hal,?_⟩;have:=VR.osl (w:=w.drew.alloc (.cells (news.toArray++Builtin.zeroCells ze.cells (grownCap w ys.length 0 e-ys.length)) e)) (F:=C2 F (s.m.set w.heap.size ⟨e,te.size,ys⟩)) w.heap.size te.size 0 ys.length (grownCap w ys.length 0 e) hge
    ⟨_,_,Iw w.drew _,by simp only[Array.size_append,List.size_toArray,size_zeroCells,e1,hzsz,←Nat.add_mul];congr 1;omega⟩
   rwa [Nat.zero_mul]at this
theorem Ts (hrel:Ee F G w0 s a w) {t e:TypeId} {ti te:TI} (ht:Ai P t=some ti) (hc:ti.cls=.slice e) (hte:Ai P e=some te) (hz0:0<te.size)
  {y:AV} {cy:Value} (hy:VR w (C2 F s.m) y cy) {ys:List AV} (hys:Fq s.m te.size y=some ys) (hall:(ys.all fun v=>v.cells.length==te.size&&v.cells.all AV.one)=true)
  {b i n:Nat} {l:List AV} (hb:s.m b=some ⟨e,te.size,l⟩) {cx:Value} (hx:VR w (C2 F s.m) (.osl b te.size i n) cx) (hin:i+n+ys.length≤l.length) (ty:TypeId) :
  ∃cv w',(Builtin.append_ #[t,t] ty #[cx,cy]).run P w=.ok cv w'∧Ee F G w0 {s with m:=s.m.set b ⟨e,te.size,l.take (i+n)++ys++l.drop (i+n+ys.length)⟩} a w' ∧
   VR w' (C2 F (s.m.set b ⟨e,te.size,l.take (i+n)++ys++l.drop (i+n+ys.length)⟩)) (.osl b te.size i (n+ys.length)) cv:=by
 obtain⟨inf,d,z,hi,hd,hz,g1,g2,g3,g4,g5⟩:=(Eu ht).get;obtain⟨ie,de,ze,hie,hde,hze,k1,k2,k3,k4,k5⟩:=(Eu hte).get;rw[←g3]at hc;cases d<;>simp only[Ds,reduceCtorEq,Mc.slice.injEq]at hc
 rw[hc]at hd;obtain⟨A,c,rfl,hA,hnews⟩:=Ho hrel hz0 hy hys hall;obtain⟨yzs,yones⟩:=Jw hall;obtain⟨z0,zs,ones,cells,cap,h1,h2,h3,h4,h5⟩:=hrel.heap b _ hb;simp only at z0 zs ones h1 h2 h4 h5;have hset:ys=[]→s.m.set b ⟨e,te.size,l.take (i+n)++ys++l.drop (i+n+ys.length)⟩=s.m:=fun hy0=>by
  subst hy0;simp only[List.append_nil,List.length_nil,Nat.add_zero,List.take_append_drop]
  funext k
  by_cases hk:k=b
  ·subst hk;rw[Ac.set_same,hb]
  ·rw[Ac.set_other _ _ hk]
 cases hx with
 |osl _ _ _ _ cc hcc hmm =>
  obtain⟨cells',e',m1,m2⟩:=hmm;rw[h1]at m1;cases m1;have hcc2:i+cc=cap:=Nat.eq_of_mul_eq_mul_right z0 (by rw[m2,h2]);have hroom:n+ys.length≤cc:=by omega
  cases A with
  |none =>
   have hy0:=hA rfl;refine⟨.slice (some ⟨b,i*te.size,none⟩) n cc,w,?_,?_,?_⟩
   ·subst hy0;simp[Builtin.append_,run_underlying hd,sizeOf,typeInfo,hie,Builtin.lenOf,Builtin.firstCells,hcc,storeCells]
   ·rw[hset hy0];exact hrel
   ·rw[hset hy0,hy0];exact .osl _ _ _ _ _ hcc ⟨_,_,h1,m2⟩
  |some ad =>
   obtain⟨news,e1,e2,e3,e4⟩:=hnews ad rfl;have hfit:(i+n)*te.size+news.length≤cells.size:=by
    rw[e1,h2,←Nat.add_mul];exact Nat.mul_le_mul_right _ (by omega)
   have hst:=run_storeCells_at P b ((i+n)*te.size) e news 0 cells w h1 (by simpa using hfit) e3;simp only[Nat.add_zero]at hst;have hr:(Builtin.append_ #[t,t] ty #[.slice (some ⟨b,i*te.size,none⟩) n cc,.slice (some ad) ys.length c]).run P w=.ok (.slice (some ⟨b,i*te.size,none⟩) (n+ys.length) cc) (w.setRow b (cells.toList.take ((i+n)*te.size)++news++cells.toList.drop ((i+n)*te.size+news.length)).toArray):=by
    have hf:=run_firstCells_some (P:=P) w te.size ys.length ad ys.length c news e1 e2;have had:(⟨b,i*te.size,none⟩:Addr).add (n*te.size)=⟨b,(i+n)*te.size,none⟩:=by rw[El,Nat.add_mul]
    simp[Builtin.append_,run_underlying hd,sizeOf,typeInfo,hie,Builtin.lenOf,hroom,hf,k1,had,hst]
   have hsz:=Kh cells news ((i+n)*te.size) hfit;have hll:(l.take (i+n)++ys++l.drop (i+n+ys.length)).length=l.length:=by simp;omega
   have hget:∀k,(l.take (i+n)++ys++l.drop (i+n+ys.length))[k]?=if i+n≤k∧k<i+n+ys.length then ys[k-(i+n)]? else l[k]?:=by
    intro k;by_cases q1:k<i+n
    ·rw[if_neg (by omega),List.append_assoc,List.getElem?_append_left (by simp;omega),List.getElem?_take,if_pos q1]
    ·by_cases q2:k<i+n+ys.length
     ·rw[if_pos (by omega),List.append_assoc,List.getElem?_append_right (by simp;omega),List.getElem?_append_left (by simp;omega)]
      congr 1;simp;omega
     ·rw[if_neg (by omega),List.getElem?_append_right (by simp;omega),List.getElem?_drop]
      congr 1;simp;omega
   refine⟨_,_,hr,hrel.setRow hb (⟨e,te.size,l.take (i+n)++ys++l.drop (i+n+ys.length)⟩:Fb) rfl rfl h1 _ hsz (by rw[hll,h2];exact Nat.mul_le_mul_right _ h4) (fun x hx=>?_) (fun i' j u hu=>?_) (fun i' j u hu=>?_),?_⟩
   ·rcases List.mem_append.1 hx with hx|hx
    ·rcases List.mem_append.1 hx with hx|hx
     ·exact zs x (List.mem_of_mem_take hx)
     ·exact yzs x hx
    ·exact zs x (List.mem_of_mem_drop hx)
   ·unfold A4 at hu;rw[hget]at hu;split at hu
    ·exact yones _ j u hu
    ·exact ones _ j u hu
   ·have hseg:=K7 cells news ((i+n)*te.size) (i'*te.size+j) hfit;simp only at hseg ⊢;rw[hseg];obtain⟨hi',hj⟩:=Dp (z:=te.size) (l:=l.take (i+n)++ys++l.drop (i+n+ys.length)) (fun x hx=>by
     rcases List.mem_append.1 hx with hx|hx
     ·rcases List.mem_append.1 hx with hx|hx
      ·exact zs x (List.mem_of_mem_take hx)
      ·exact yzs x hx
     ·exact zs x (List.mem_of_mem_drop hx)) hu
    unfold A4 at hu;rw[hget]at hu;split at hu
    ·rename_i hb'
     have q1:(i+n)*te.size≤i'*te.size:=Nat.mul_le_mul_right _ hb'.1;have q2:(i'-(i+n))*te.size=i'*te.size-(i+n)*te.size:=Nat.sub_mul _ _ _;have q3:(i'-(i+n)+1)*te.size≤ys.length*te.size:=Nat.mul_le_mul_right _ (by omega);rw[Nat.add_mul,Nat.one_mul]at q3;rw[if_pos (by rw[e1];omega)];obtain⟨v,p1,p2⟩:=e4 _ j u hu;refine⟨v,?_,p2⟩;rw[←p1];congr 1;omega
    ·rename_i hb'
     obtain⟨v,p1,p2⟩:=h5 i' j u hu;refine⟨v,?_,p2⟩;rcases Nat.lt_or_ge i' (i+n)with hlt|hge
     ·have q3:(i'+1)*te.size≤(i+n)*te.size:=Nat.mul_le_mul_right _ (by omega);rw[Nat.add_mul,Nat.one_mul]at q3;rw[if_neg (by omega)];exact p1
     ·have q3:(i+n+ys.length)*te.size≤i'*te.size:=Nat.mul_le_mul_right _ (by omega);rw[Nat.add_mul]at q3;rw[if_neg (by rw[e1];omega)];exact p1
   ·exact .osl _ _ _ _ _ hroom ⟨_,_,setRow_heap w b cells _ _ _ h1,by rw[hsz];exact m2⟩
theorem R6 (hrel:Ee F G w0 s a w) {t e:TypeId} {ti te:TI} (ht:Ai P t=some ti) (hc:ti.cls=.slice e) (hte:Ai P e=some te) (hz0:0<te.size) (hzl:te.zero.cells.length=te.size)
  {y:AV} {cy:Value} (hy:VR w (C2 F s.m) y cy) {ys:List AV} (hys:Fq s.m te.size y=some ys) (hall:(ys.all fun v=>v.cells.length==te.size&&v.cells.all AV.one)=true)
  {b:Nat} {l:List AV} (hb:s.m b=some ⟨e,te.size,l⟩) {cx:Value} (hx:VR w (C2 F s.m) (.osl b te.size 0 l.length) cx)
  (hby:((l.length+ys.length)+(l.length+ys.length) / 4+192)*te.bytes≤281474976710656) (hml:l.length+ys.length≤maxLen) (ty:TypeId) :
  ∃b' cv w',(b'=b∨(s.m b'=none∧¬b'<w.heap.size))∧(Builtin.append_ #[t,t] ty #[cx,cy]).run P w=.ok cv w'∧Ee F G w0 {s with m:=(s.m.del b).set b' ⟨e,te.size,l++ys⟩} a w' ∧
   VR w' (C2 F ((s.m.del b).set b' ⟨e,te.size,l++ys⟩)) (.osl b' te.size 0 (l.length+ys.length)) cv:=by
 obtain⟨inf,d,z,hi,hd,hz,g1,g2,g3,g4,g5⟩:=(Eu ht).get;obtain⟨ie,de,ze,hie,hde,hze,k1,k2,k3,k4,k5⟩:=(Eu hte).get;rw[←g3]at hc;cases d<;>simp only[Ds,reduceCtorEq,Mc.slice.injEq]at hc
 rw[hc]at hd;obtain⟨A,c,rfl,hA,hnews⟩:=Ho hrel hz0 hy hys hall;obtain⟨yzs,yones⟩:=Jw hall;obtain⟨z0,zs,ones,cells,cap,h1,h2,h3,h4,h5⟩:=hrel.heap b _ hb;simp only at z0 zs ones h1 h2 h4 h5;have hsame:(s.m.del b).set b ⟨e,te.size,l++ys⟩=s.m.set b ⟨e,te.size,l++ys⟩:=by
  funext k
  by_cases hk:k=b
  ·subst hk;rw[Ac.set_same,Ac.set_same]
  ·rw[Ac.set_other _ _ hk,Ac.set_other _ _ hk,Ac.del_other _ hk]
 cases hx with
 |osl _ _ _ _ cc hcc hmm =>
  obtain⟨cells',e',m1,m2⟩:=hmm;rw[h1]at m1;cases m1;rw[Nat.zero_add,h2]at m2;have hcc2:cc=cap:=Nat.eq_of_mul_eq_mul_right z0 m2;subst hcc2;simp only[Nat.zero_mul];cases A with
  |none =>
   have hy0:=hA rfl;subst hy0;refine⟨b,.slice (some ⟨b,0,none⟩) l.length cc,w,.inl rfl,by simp[Builtin.append_,run_underlying hd,sizeOf,typeInfo,hie,Builtin.lenOf,Builtin.firstCells,hcc,storeCells],?_,?_⟩
   ·rw[hsame,List.append_nil];have:s.m.set b ⟨e,te.size,l⟩=s.m:=by
     funext k
     by_cases hk:k=b
     ·subst hk;rw[Ac.set_same,hb]
     ·rw[Ac.set_other _ _ hk]
    rw[this];exact hrel
   ·have:=VR.osl (w:=w) (F:=C2 F ((s.m.del b).set b ⟨e,te.size,l++[]⟩)) b te.size 0 l.length cc hcc ⟨_,_,h1,by rw[Nat.zero_add,h2]⟩
    rwa [Nat.zero_mul]at this
  |some ad =>
   obtain⟨news,e1,e2,e3,e4⟩:=hnews ad rfl;by_cases hroom:l.length+ys.length≤cc
   ·-- room
    have hfit:l.length*te.size+news.length≤cells.size:=by
     rw[e1,h2,←Nat.add_mul];exact Nat.mul_le_mul_right _ hroom
    have hr:=run_append_room (P:=P) w t ty e ie hd hie b l.length cc cells h1 ad ys.length c news (by rw[k1];exact e1) e2 e3 hroom (by rw[k1];exact hfit);rw[k1]at hr;have hsz:=Kh cells news (l.length*te.size) hfit;refine⟨b,_,_,.inl rfl,hr,?_,?_⟩
    ·rw[hsame];refine hrel.setRow hb (⟨e,te.size,l++ys⟩:Fb) rfl rfl h1 _ hsz (by rw[List.length_append,Nat.add_mul,←e1];exact hfit) (fun x hx=>?_) (fun i j u hu=>?_) (fun i j u hu=>?_)
     ·rcases List.mem_append.1 hx with hx|hx
      ·exact zs x hx
      ·exact yzs x hx
     ·unfold A4 at hu;rcases Nat.lt_or_ge i l.length with hi | hi
      ·rw[List.getElem?_append_left hi]at hu;exact ones i j u hu
      ·rw[List.getElem?_append_right hi]at hu;exact yones _ j u hu
     ·have hseg:=K7 cells news (l.length*te.size) (i*te.size+j) hfit;simp only at hseg ⊢;rw[hseg];unfold A4 at hu;rcases Nat.lt_or_ge i l.length with hi | hi
      ·rw[List.getElem?_append_left hi]at hu;have hj:=(Dp zs (show A4 l i j=some u from hu)).2;have:(i+1)*te.size≤l.length*te.size:=Nat.mul_le_mul_right _ hi;rw[Nat.add_mul,Nat.one_mul]at this;rw[if_neg (by omega)];exact h5 i j u hu
      ·rw[List.getElem?_append_right hi]at hu;obtain⟨hil,hj⟩:=Dp yzs (show A4 ys (i-l.length) j=some u from hu);have q1:l.length*te.size≤i*te.size:=Nat.mul_le_mul_right _ hi;have q2:(i-l.length)*te.size=i*te.size-l.length*te.size:=Nat.sub_mul _ _ _;have q3:(i-l.length+1)*te.size≤ys.length*te.size:=Nat.mul_le_mul_right _ hil;rw[Nat.add_mul,Nat.one_mul]at q3;rw[if_pos (by rw[e1];omega)];obtain⟨v,p1,p2⟩:=e4 _ j u hu;refine⟨v,?_,p2⟩;rw[←p1];congr 1;omega
    ·have:=VR.osl (w:=w.setRow b (cells.toList.take (l.length*te.size)++news++cells.toList.drop (l.length*te.size+news.length)).toArray) (F:=C2 F ((s.m.del b).set b ⟨e,te.size,l++ys⟩)) b te.size 0 (l.length+ys.length) cc hroom
      ⟨_,_,setRow_heap w b cells _ _ _ h1,by rw[hsz,h2,Nat.zero_add]⟩
     rwa [Nat.zero_mul]at this
   ·-- it grows
    have hlt:cc<l.length+ys.length:=by omega
    have h63:((l.length+ys.length:Nat):Int)≤9223372036854775807:=by simp only[maxLen]at hml;omega
    have holds:∀(j:Nat) (v:Value),(cells.toList.take (l.length*te.size))[j]?=some v→w.cell? ((⟨b,0,none⟩:Addr).add j)=some v:=by
     intro j v hv;rw[El,Nat.zero_add];rw[List.getElem?_take]at hv;split at hv
     ·simp[World.cell?,h1];rwa [Array.getElem?_toList]at hv
     ·cases hv
    have hlold:(cells.toList.take (l.length*te.size)).length=l.length*te.size:=by
     have e0:cells.toList.length=cells.size:=Array.length_toList;have:=Nat.mul_le_mul_right te.size h4;rw[List.length_take,e0,h2];omega
    have hr:=run_append_grow (P:=P) w t ty e ie ze hd hie hze ⟨b,0,none⟩ l.length cc (cells.toList.take (l.length*te.size)) (by rw[k1];exact hlold) holds ad ys.length c news (by rw[k1];exact e1) e2 hlt h63 (growslice_fits_wide hlt (by rw[k2];exact hby));have hge:=grownCap_ge w (l.length+ys.length) cc e;have hzsz:ze.cells.size=te.size:=by
     have hzc:VR w (C2 F s.m) te.zero ze:=by rw[←k4];exact Ig w _ ze
     by_cases hany:te.zero=.any
     ·have hz1:te.size=1:=by rw[←hzl,hany];rfl
      rw[hz1];rw[←k4]at hany;unfold Rd at hany;split at hany
      ·cases hany
      ·rename_i v hv
       cases ze<;>first | rfl | exact absurd rfl (hv _)
     ·rw[(hzc.cells hany).1,hzl]
    have hsize:((cells.toList.take (l.length*te.size)).toArray++news.toArray++Builtin.zeroCells ze.cells (grownCap w (l.length+ys.length) cc e-(l.length+ys.length))).size=grownCap w (l.length+ys.length) cc e*te.size:=by
     simp only[Array.size_append,List.size_toArray,size_zeroCells,hlold,e1,hzsz,←Nat.add_mul]
     congr 1
     omega
    have hdel:=hrel.drop (s.m.del b) (fun k x hk=>by
     by_cases hkb:k=b
     ·subst hkb;rw[Ac.del_same]at hk;cases hk
     ·rwa [Ac.del_other _ hkb]at hk)
    have hF:∀k,k<w.heap.size→C2 F (s.m.del b) k→C2 F s.m k:=by
     intro k _ hk;rcases hk with hk | hk
     ·exact .inl hk
     ·by_cases hkb:k=b
      ·subst hkb;exact absurd (Ac.del_same _ _) hk
      ·rw[Ac.del_other _ hkb]at hk;exact .inr hk
    have hgd:Ez (fun _=>False) w w.drew:=⟨rfl,rfl,rfl,Nat.le_refl _,fun _ _ _=>rfl,fun _ c _ hc=>⟨c,hc,rfl⟩⟩;have hal:=hdel.drew.alloc (⟨e,te.size,l++ys⟩:Fb) _ hz0 (fun x hx=>by
      rcases List.mem_append.1 hx with hx|hx
      ·exact zs x hx
      ·exact yzs x hx) (fun i j u hu=>by
      unfold A4 at hu;rcases Nat.lt_or_ge i l.length with hi | hi
      ·rw[List.getElem?_append_left hi]at hu;exact ones i j u hu
      ·rw[List.getElem?_append_right hi]at hu;exact yones _ j u hu) (grownCap w (l.length+ys.length) cc e) hsize (grownCap_le_maxLen w _ cc e hml) (by rw[List.length_append];exact hge) (fun i j u hu=>by
      unfold A4 at hu;rcases Nat.lt_or_ge i l.length with hi | hi
      ·rw[List.getElem?_append_left hi]at hu;obtain⟨v,p1,p2⟩:=h5 i j u hu;have hj:=(Dp zs (show A4 l i j=some u from hu)).2;have:(i+1)*te.size≤l.length*te.size:=Nat.mul_le_mul_right _ hi;rw[Nat.add_mul,Nat.one_mul]at this;refine⟨v,?_,p2.mono hgd (fun _ _ x=>x.elim) hF⟩;show _[i*te.size+j]?=some v
       rw[Array.append_assoc,Array.getElem?_append_left (by rw[List.size_toArray,hlold];omega),List.getElem?_toArray,List.getElem?_take,if_pos (by omega),Array.getElem?_toList];exact p1
      ·rw[List.getElem?_append_right hi]at hu;obtain⟨hil,hj⟩:=Dp yzs (show A4 ys (i-l.length) j=some u from hu);have q1:l.length*te.size≤i*te.size:=Nat.mul_le_mul_right _ hi;have q2:(i-l.length)*te.size=i*te.size-l.length*te.size:=Nat.sub_mul _ _ _;have q3:(i-l.length+1)*te.size≤ys.length*te.size:=Nat.mul_le_mul_right _ hil;rw[Nat.add_mul,Nat.one_mul]at q3;obtain⟨v,p1,p2⟩:=e4 _ j u hu;refine⟨v,?_,p2.mono hgd (fun _ _ x=>x.elim) hF⟩;show _[i*te.size+j]?=some v
       rw[Array.append_assoc,Array.getElem?_append_right (by rw[List.size_toArray,hlold];omega),Array.getElem?_append_left (by rw[List.size_toArray,List.size_toArray,hlold,e1];omega),List.getElem?_toArray];rw[←p1];congr 1;rw[List.size_toArray,hlold];omega)
    refine⟨w.heap.size,_,_,.inr ⟨hrel.fresh,by omega⟩,hr,hal,?_⟩;have:=VR.osl (w:=w.drew.alloc (.cells ((cells.toList.take (l.length*te.size)).toArray++news.toArray++Builtin.zeroCells ze.cells (grownCap w (l.length+ys.length) cc e-(l.length+ys.length))) e)) (F:=C2 F ((s.m.del b).set w.heap.size ⟨e,te.size,l++ys⟩)) w.heap.size te.size 0 (l.length+ys.length) (grownCap w (l.length+ys.length) cc e) hge
     ⟨_,_,Iw w.drew _,by rw[hsize,Nat.zero_add]⟩
    rwa [Nat.zero_mul]at this
end
end Go.Av
end
section
namespace Go.Av
section
variable {P:Program} {F G:Nat→Prop} {w0 w:World} {s:St} {a:Act}
theorem Dr {o:Oper} {cv:Value} {w':World} {next:Act→World→Prop} {Q:Exit→Act→World→Prop} (h:(execOp a.eval o).run P w=.ok (.value cv) w') (hn:next (a.put o.dst cv) w'):o.wp P a w next Q:=by
 unfold Oper.wp;rw[h];exact hn
theorem Qlp {o:Oper} {w':World} {next:Act→World→Prop} {Q:Exit→Act→World→Prop} (h:(execOp a.eval o).run P w=.ok .skip w') (hn:next (a.put o.dst undef) w'):o.wp P a w next Q:=by
 unfold Oper.wp;rw[h];exact hn
theorem My (hrel:Ee F G w0 s a w) {o:Oper} (hok:Fg s.n o=true) {K:St→Prop} (h:Ea (Rq P o s) fun v=>K ({s with m:=s.m}.put o.dst v)) (Q:Exit→Act→World→Prop):o.wp P a w (En F G w0 s.n K) Q:=by
 obtain⟨v,h1,h2⟩:=h;obtain⟨cv,e1,e2⟩:=Qke hrel hok h1;have hd:L5 s.n o.dst=true:=by unfold Fg at hok;rw[Bool.and_eq_true]at hok;exact hok.1
 exact Dr e1 ⟨_,h2,H5 _ _ _,hrel.put hd e2⟩
theorem Po {f:FuncId} (h:P4 P f) (args:Array Value) (w:World):(callFunc f args).run P w=.ok (.enter f args) w:=by
 obtain⟨fn,h1,h2,h3⟩:=h;unfold callFunc;simp only[Sem.run_bind,run_program,Result.andThen_ok,h1,h2,h3,Bool.false_eq_true,if_false,Sem.run_pure]
theorem Wk (hrel:Ee F G w0 s a w) {o:Oper} (hd:L5 s.n o.dst=true) {f:FuncId} {args:List AV} {cargs:Array Value} (ha:VRs w (C2 F s.m) args cargs) {K:St→Prop}
  {av:Nat→Prop} (hav:∀b,av b→b<w.heap.size) (h:Aa P av f args s.m fun v m'=>K ({s with m:=m'}.put o.dst v)) (he:P4 P f→(execOp a.eval o).run P w=.ok (.enter f cargs) w) (Q:Exit→Act→World→Prop):o.wp P a w (En F G w0 s.n K) Q:=by
 obtain⟨hcal,hc⟩:=Aa.sound hrel ha hav h;unfold Oper.wp;rw[he hcal];rw[Oper.upon_enter];refine hc.mono ?_;rintro e w' ⟨v,cv,m',rfl,hk,hr,hv⟩;exact⟨_,hk,by rw[H5],hr.put hd hv⟩
theorem Qck (hrel:Ee F G w0 s a w) {xs:Array Operand} (h:∀x∈xs.toList,G6 s.n x=true):VRs w (C2 F s.m) (xs.toList.map s.ev) (xs.map a.eval):=by
 refine⟨by simp,fun j u v hu hv=>?_⟩;rw[List.getElem?_map,Array.getElem?_toList]at hu;rw[Array.getElem?_map]at hv;cases hj:xs[j]? with
 |none=>simp[hj]at hu
 |some y =>
  simp only[hj,Option.map_some,Option.some.injEq]at hu hv;subst hu;subst hv;exact hrel.ev (h y (List.mem_of_getElem? (by rw[Array.getElem?_toList];exact hj)))
theorem VRs.append {w:World} {F:Nat→Prop} {a1 a2:List AV} {c1 c2:Array Value} (h1:VRs w F a1 c1) (h2:VRs w F a2 c2):VRs w F (a1++a2) (c1++c2):=by
 refine⟨by rw[Array.size_append,List.length_append,h1.1,h2.1],fun j u v hu hv=>?_⟩;rcases Nat.lt_or_ge j a1.length with hj | hj
 ·rw[List.getElem?_append_left hj]at hu;rw[Array.getElem?_append_left (by rw[h1.1];exact hj)]at hv;exact h1.2 j u v hu hv
 ·rw[List.getElem?_append_right hj]at hu;rw[Array.getElem?_append_right (by rw[h1.1];exact hj),h1.1]at hv;exact h2.2 _ u v hu hv
theorem Kp (hrel:Ee F G w0 s a w) {cf:Dy} (hav:∀b,cf.av b→b<w.heap.size) {o:Oper} (hok:Fg s.n o=true) {K:St→Prop} (h:E0 P cf o K s) (Q:Exit→Act→World→Prop):o.wp P a w (En F G w0 s.n K) Q:=by
 have hok0:=hok;unfold Fg at hok;rw[Bool.and_eq_true]at hok;have hd:=hok.1;have hall:∀x∈o.op.operands.toList,G6 s.n x=true:=List.all_eq_true.1 hok.2;have fin:∀{m:Sem Value} {cv:Value} {w':World},m.run P w=.ok cv w'→((do pure (.value (←m)):Sem Next)).run P w=.ok (.value cv) w':=by
  intro m cv w' hm;simp[hm]
 unfold E0 Fc at h;have hnav:¬cf.av w.heap.size:=fun hb=>by have:=hav _ hb;omega
 split at h
 ·-- alloc
  rename_i t ho
  rw[ho]at hall;obtain⟨ti,ht,hk⟩:=h;obtain⟨i,d,z,hi,hdd,hz,g1,g2,g3,g4,g5⟩:=(Eu ht).get;have hv:VR w (C2 F s.m) ti.zero z:=by rw[←g4];exact Ig w _ z
  have hl:=Pu hrel hav hd hv hk;refine Dr ?_ hl;unfold execOp;rw[ho];exact fin (by simp[Instr.alloc,zeroValue,typeInfo,hi,hz,Go.newVar,newRow])
 ·-- box
  rename_i t x ho
  rw[ho]at hall;obtain⟨ti,ht,hk⟩:=h;have hl:=Pu hrel hav hd (hrel.ev (hall x (by simp[Op.operands]))) hk;refine Dr ?_ hl;unfold execOp;rw[ho];exact fin (by simp[Instr.box,Go.newVar,newRow])
 ·-- a slice literal
  rename_i t len parts ho
  rw[ho]at hall;obtain⟨ti,e,te,ht,hc,hte,hz0,hlim,hseq,hones,hk⟩:=h;obtain⟨cells,e1,e2,e3⟩:=Rk hrel ht hc hte hz0 hlim hseq hones (fun p hp=>hall _ (by
   simp only[Op.operands,List.mem_map];exact⟨p,hp,rfl⟩))
  obtain⟨yzs,yones⟩:=Jw hones;have hlen:(parts.toList.map fun(p:Nat × Operand)=>s.ev p.2).length=len:=by
   have:=congrArg List.length hseq;simpa using this
  have hrun:(execOp a.eval o).run P w=.ok (.value (.slice (some ⟨w.heap.size,0,none⟩) len len)) (w.alloc (.cells cells e)):=by
   unfold execOp;rw[ho];exact fin e1
  have hmax:len≤maxLen:=by
   have:len*1≤len*te.size:=Nat.mul_le_mul_left _ hz0;simp only[maxLen];omega
  have hcell:∀i j u,A4 (parts.toList.map fun(p:Nat × Operand)=>s.ev p.2) i j=some u→∃v,cells[i*te.size+j]?=some v∧VR w (C2 F s.m) u v:=e3
  revert hk
  cases hdst:o.dst with
  |none=>intro hk;exact hk.elim
  |some d =>
   simp only;intro hk;rw[hdst]at hd;split at hk
   ·refine Dr hrun ⟨_,hk,rfl,?_⟩;rw[hdst];refine(hrel.allocRo _).put hd ?_;have hg:=Hg (fun _=>False) w (.cells cells e);rw[←hlen];by_cases hl0:(parts.toList.map fun(p:Nat × Operand)=>s.ev p.2)=[]
    ·rw[hl0];exact .sl0 _ _ _
    ·refine .sl te.size _ w.heap.size 0 _ (fun i j=>(cells[i*te.size+j]?).getD undef) (fun h=>?_) (by simp) (Nat.le_refl _) yzs (fun i j u hu=>?_) (fun i j u hu=>?_)
     ·rcases h with h|h
      ·have:=(hrel.far _ h).1;have:=hrel.grow.size;omega
      ·exact h hrel.fresh
     ·obtain⟨v,q1,q2⟩:=hcell i j u hu;simp only[q1,Option.getD_some];exact q2.mono hg (fun _ _ x=>x.elim) (fun _ _ x=>x)
     ·obtain⟨v,q1,q2⟩:=hcell i j u hu;rw[Nat.zero_add,World.cell?_alloc_new,q1];rfl
   ·refine Dr hrun ⟨_,hk _ hrel.fresh hnav,rfl,?_⟩;rw[hdst];refine(hrel.alloc (⟨e,te.size,parts.toList.map fun(p:Nat × Operand)=>s.ev p.2⟩:Fb) cells hz0 yzs yones len e2 hmax (by rw[hlen];exact Nat.le_refl _) hcell).put hd ?_;have:=VR.osl (w:=w.alloc (.cells cells e)) (F:=C2 F (s.m.set w.heap.size ⟨e,te.size,parts.toList.map fun(p:Nat × Operand)=>s.ev p.2⟩)) w.heap.size te.size 0 len len (Nat.le_refl _) ⟨_,_,Iw w _,by rw[e2,Nat.zero_add]⟩
    rwa [Nat.zero_mul]at this
 ·-- make
  rename_i t l c ho
  rw[ho]at hall;obtain⟨ti,e,te,k,n,k',n',ht,hc,hte,hl,hcc,h0,hn,hz0,hb0,hby,hzl,hones,hk⟩:=h;have hlv:=hrel.ev (hall l (by simp[Op.operands]));have hcv:=hrel.ev (hall c (by simp[Op.operands]));rw[hl]at hlv;rw[hcc]at hcv;have q1:a.eval l=.int k n:=by
   generalize a.eval l=x at hlv;cases hlv;rfl
  have q2:a.eval c=.int k' n':=by
   generalize a.eval c=x at hcv;cases hcv;rfl
  obtain⟨w',e1,e2,e3⟩:=Qe4 hrel ht hc hte hz0 hb0 h0 hn hby hzl hones (k:=k) (k':=k');refine Dr (cv:=.slice (some ⟨w.heap.size,0,none⟩) n.toNat n'.toNat) (w':=w') ?_ ⟨_,hk _ hrel.fresh hnav,by rw[H5],e2.put hd e3⟩;unfold execOp;rw[ho];exact fin (by rw[q1,q2];exact e1)
 ·-- store
  rename_i t x v ho
  rw[ho]at hall;obtain⟨ti,b,z,i,j,blk,old,ht,hx,hb,hz,hold,hvl,hj,hones,hk⟩:=h;subst hz;have hxv:=hrel.ev (hall x (by simp[Op.operands]));rw[hx]at hxv;have q1:a.eval x=.pointer (some ⟨b,i*blk.z+j,none⟩):=by
   generalize a.eval x=y at hxv;cases hxv;rfl
  obtain⟨w',e1,e2⟩:=Qdk hrel ht hb hold (hrel.ev (hall v (by simp[Op.operands]))) hvl hj hones;refine Qlp (w':=w') ?_ ⟨_,hk,by rw[H5],e2.put hd (.any _)⟩;unfold execOp;rw[ho];simp[q1,e1]
 ·-- load
  exact My hrel hok0 h.2 Q
 ·-- calls
  rename_i c ho
  rw[ho]at hall;have hargs:=List.all_eq_true.1 (J3 c (n:=s.n) (by rw[ho]at hok;exact hok.2));split at h
  ·-- append
   rename_i hcal
   obtain⟨x,y,t,ti,e,te,l,ys,hxs,hts,ht,hc,hte,hz0,hzl,hys,hones,hby,hml,hk⟩:=h;obtain⟨callee,args,argTypes⟩:=c;simp only at hcal hxs hts hargs;subst hcal;have ha:args=#[x,y]:=Array.toList_inj.1 hxs;have hb:argTypes=#[t,t]:=Array.toList_inj.1 hts;subst ha;subst hb;have hrun:∀{cv:Value} {w':World},(Builtin.append_ #[t,t] o.type #[a.eval x,a.eval y]).run P w=.ok cv w'→(execOp a.eval o).run P w=.ok (.value cv) w':=by
    intro cv w' hq;unfold execOp;rw[ho];simp[resolve,invoke,builtin,hq]
   have hxv:=hrel.ev (hargs x (by simp));have hyv:=hrel.ev (hargs y (by simp));split at hk
   ·obtain⟨b,i,n,hx,hbk,hnb,hin,hk⟩:=hk;rw[hx]at hxv;obtain⟨cv,w',e1,e2,e3⟩:=Ts hrel ht hc hte hz0 hyv hys hones hbk hxv hin o.type;exact Dr (hrun e1) ⟨_,hk,by rw[H5],e2.put hd e3⟩
   rcases hk with⟨hx,hl,hk1,hk2⟩|⟨b,hx,hbk,hnb,hk⟩
   ·subst hl;obtain⟨Ab,q1⟩:∃Ab,a.eval x=.slice Ab 0 0:=by
     generalize a.eval x=z at hxv;rcases hx with hx | hx<;>rw[hx]at hxv<;>cases hxv<;>exact⟨_,rfl⟩
    simp only[List.length_nil,Nat.zero_add]at hby hml;rcases Ro hrel ht hc hte hz0 hzl hyv hys hones hby hml o.type Ab with⟨hy0,A,cc,e1⟩ | ⟨hy0,cv,w',e1,e2,e3⟩
    ·refine Dr (hrun (by rw[q1];exact e1)) ⟨_,hk1 hy0,H5 _ _ _,hrel.put hd (.sl0 _ _ _)⟩
    ·exact Dr (hrun (by rw[q1];exact e1)) ⟨_,hk2 hy0 _ hrel.fresh hnav,by rw[H5],e2.put hd e3⟩
   ·rw[hx]at hxv;obtain⟨b',cv,w',hb0',e1,e2,e3⟩:=R6 hrel ht hc hte hz0 hzl hyv hys hones hbk hxv hby hml o.type;have q2:(s.m.del b) b'=none∧¬cf.av b':=by
     rcases hb0' with rfl|⟨g1,g2⟩
     ·exact⟨by simp[Ac.del],hnb⟩
     ·exact⟨by unfold Ac.del;split<;>simp[g1],fun hb=>g2 (hav b' hb)⟩
    exact Dr (hrun e1) ⟨_,hk b' q2.1 q2.2,by rw[H5],e2.put hd e3⟩
  ·-- copy
   rename_i hcal
   obtain⟨x,y,t,t',ti,e,te,b,i,n,blk,ys,hxs,hts,ht,hc,hte,hz1,hx,hb,hbz,hin,hys,hones,hk⟩:=h;obtain⟨callee,args,argTypes⟩:=c;simp only at hcal hxs hts hargs;subst hcal;have ha:args=#[x,y]:=Array.toList_inj.1 hxs;have hbt:argTypes=#[t,t']:=Array.toList_inj.1 hts;subst ha;subst hbt;have hxv:=hrel.ev (hargs x (by simp));have hyv:=hrel.ev (hargs y (by simp));rw[hx]at hxv;obtain⟨w',e1,e2⟩:=Qeg (t':=t') hrel ht hc hte hz1 hb hbz hin hxv hyv hys hones o.type;refine Dr (cv:=.int .i64 (min ys.length n:Nat)) (w':=w') ?_ ⟨_,hk,by rw[H5],e2.put hd (.int _ _)⟩
   unfold execOp;rw[ho];simp[resolve,invoke,builtin,e1]
  ·-- a function
   rename_i f hcal
   obtain⟨callee,args,argTypes⟩:=c;simp only at hcal h hargs;subst hcal;refine Wk hrel hd (Qck hrel hargs) hav h (fun hc=>?_) Q;unfold execOp;rw[ho];simp[resolve,Deferred.ofValue,invoke,Act.eval,Po hc]
  ·-- a function value
   rename_i t hcal
   obtain⟨f,caps,ht,h⟩:=h;obtain⟨callee,args,argTypes⟩:=c;simp only at hcal h hargs;subst hcal;have hv:=hrel.ev (hall (.tmp t) (by simp[Op.operands,Call.operands]));have hev:s.ev (.tmp t)=.fn f caps:=ht;rw[hev]at hv;obtain⟨ct,hct⟩:∃ct,a.eval (.tmp t)=ct:=⟨_,rfl⟩;rw[hct]at hv;cases hv with
   |fn _ _ vs hs hvv =>
    refine Wk hrel hd ((Qck hrel hargs).append ⟨hs,hvv⟩) hav h (fun hc=>?_) Q;unfold execOp;rw[ho];simp[resolve,hct,Deferred.ofValue,invoke,Po hc]
  ·exact My hrel hok0 h Q
 ·exact My hrel hok0 h Q
end
end Go.Av
end
section
namespace Go.Av
def Nb (v:AV) (want:Bool):Option Bool :=
 match v with
 |.bool t=>some (t==want)
 |.tup []=>some false
 |_=>none
def Jo (P:Program) (cf:Dy) (ops:Array Oper):List Oper→(St→Prop)→St→Prop
 |[],K,s=>K s
 |o::rest,K,s =>
  match o.guard with
  |none=>E0 P cf o (Jo P cf ops rest K) s
  |some (j,want) =>
   match (ops[j]?).bind (·.dst)with
   |some d=>∃t,Nb (s.r d) want=some t∧if t=true then E0 P cf o (Jo P cf ops rest K) s else Jo P cf ops rest K (s.put o.dst (.tup []))
   |none=>False
def B1 (n:Nat) (ops:Array Oper):Bool:=ops.toList.all fun o=>Fg n o&&Hq ops n o
def Ql7 (F G:Nat→Prop) (w0:World) (n:Nat) (Q:Exit→St→Prop):Exit→Act→World→Prop:=fun e a w =>
 match e with
 |.panic _=>False
 |.outgrown=>False
 |e=>En F G w0 n (Q e) a w
def AW (P:Program) (c:Code) (Q:Exit→St→Prop) (s:St):Prop :=
 ∀(F G:Nat→Prop) (w0:World) (a:Act) (w:World),Ee F G w0 s a w→c.wp P (Ql7 F G w0 s.n Q) a w
section
variable {P:Program} {Q:Exit→St→Prop} {s:St}
theorem VR.skip (w:World) (F:Nat→Prop):VR w F (.tup []) undef:=.tup [] #[] rfl (fun j u v hu=>by simp at hu)
theorem Ee.wanted {F G:Nat→Prop} {w0 w:World} {a:Act} (h:Ee F G w0 s a w) {d j:Nat} (hd:d<s.n) {o:Oper} {ops:Array Oper} {want t:Bool} (hg:o.guard=some (j,want)) (hj:(ops[j]?).bind (·.dst)=some d) (ht:Nb (s.r d) want=some t):Region.wanted o (yielded ops a.tmps)=t:=by
 have hv:=h.regs d hd;have hlt:d<a.tmps.size:=by rw[h.size];exact hd
 have hget:a.tmps[d]?=some (a.tmps.getD d undef):=by
  rw[Array.getD_eq_getD_getElem?,Array.getElem?_eq_getElem hlt,Option.getD_some]
 generalize a.tmps.getD d undef=v at hv hget;unfold Region.wanted yielded;simp only[hg,hj,Option.bind_some,hget];unfold Nb at ht;split at ht
 ·rename_i t' e
  rw[e]at hv;cases hv;cases ht;cases t'<;>cases want<;>rfl
 ·rename_i e
  rw[e]at hv;cases ht;cases hv;rfl
 ·cases ht
theorem Om {F G:Nat→Prop} {w0:World} {cf:Dy} (hcf:∀b,¬cf.av b) {ops:Array Oper} {K:St→Prop} {QQ:Exit→Act→World→Prop} (n:Nat) (hQ:∀a w,En F G w0 n K a w→QQ .normal a w) :
  ∀(l:List Oper) (s:St) (a:Act) (w:World),s.n=n→(∀o∈l,(Fg n o&&Hq ops n o)=true)→Ee F G w0 s a w→Jo P cf ops l K s→wpList P ops QQ l a w
 |[],s,a,w,hn,_,hr,hk=>hQ a w ⟨s,hk,hn,hr⟩
 |o::rest,s,a,w,hn,hok,hr,hk=>by
  have ho:=hok o (by simp);rw[Bool.and_eq_true]at ho;have hrest:∀o∈rest,(Fg n o&&Hq ops n o)=true:=fun x hx=>hok x (by simp[hx]);have hmono:∀{s:St} {a:Act} {w:World},s.n=n→En F G w0 s.n (Jo P cf ops rest K) a w→wpList P ops QQ rest a w:=by
   rintro s a w hn ⟨s',h1,h2,h3⟩;exact Om hcf n hQ rest s' a w (h2.trans hn) hrest h3 h1
  have hop:Ee F G w0 s a w→E0 P cf o (Jo P cf ops rest K) s→o.wp P a w (wpList P ops QQ rest) QQ:=by
   intro hr hk;have:=Kp hr (fun b hb=>(hcf b hb).elim) (by rw[hn];exact ho.1) hk QQ;unfold Oper.wp at this ⊢
   revert this
   generalize(execOp a.eval o).run P w=res;intro this;have hm:∀a w,En F G w0 s.n (Jo P cf ops rest K) a w→wpList P ops QQ rest a w:=fun a w h=>hmono hn h;unfold Oper.upon at this ⊢;split at this<;>first
    |exact hm _ _ this
    |(refine Calls.mono this ?_;intro e w' h;cases e<;>first | exact hm _ _ h | exact h)
    |(refine Rows.mono this ?_;intro e w' h;exact hm _ _ h)
    |exact this
    |exact this.elim
  unfold wpList;unfold Jo at hk;split at hk
  ·rename_i hg
   rw[if_pos (by simp[Region.wanted,hg])];exact .inl (hop hr hk)
  ·rename_i j want hg
   split at hk
   ·rename_i d hd
    obtain⟨t,ht,hk⟩:=hk;have hdn:d<s.n:=by
     have h2:=ho.2;unfold Hq at h2;simp only[hg,hd]at h2;rw[hn];simpa[Nat.blt_eq]using h2
    have hw:=hr.wanted hdn hg hd ht;rw[hw];by_cases htw:t=true
    ·rw[if_pos htw]at hk;rw[if_pos htw];exact .inl (hop hr hk)
    ·rw[if_neg htw]at hk;rw[if_neg htw];have hdst:L5 n o.dst=true:=by have h1:=ho.1;unfold Fg at h1;rw[Bool.and_eq_true]at h1;exact h1.1
     exact Om hcf n hQ rest _ _ w ((H5 _ _ _).trans hn) hrest (hr.put (by rw[hn];exact hdst) (.skip _ _)) hk
   ·exact hk.elim
theorem AW.region {id:Nat} {ops:Array Oper} (ro:Nat→Bool) (hok:B1 s.n ops=true) (h:Jo P (Dy.txt ro) ops ops.toList (Q .normal) s):AW P (.region id ops false) Q s:=by
 intro F G w0 a w hr;refine wp_region_list (Om (F:=F) (G:=G) (w0:=w0) (cf:=Dy.txt ro) (fun _ h=>h) s.n (K:=Q .normal) (fun a w h=>h) ops.toList s a w rfl (fun o ho=>?_) hr h);unfold B1 at hok;exact List.all_eq_true.1 hok o ho
theorem AW.mono {c:Code} {Q':Exit→St→Prop} (h:AW P c Q s) (hq:∀e s',s'.n=s.n→Q e s'→Q' e s'):AW P c Q' s:=by
 intro F G w0 a w hr;refine wp_mono (h F G w0 a w hr) ?_;intro e a' w' hl;unfold Ql7 at hl ⊢;cases e<;>first
  |exact hl.elim
  |(obtain⟨s',h1,h2,h3⟩:=hl;exact⟨s',hq _ _ h2 h1,h2,h3⟩)
def P8 (K:St→Prop) (Q:Exit→St→Prop):Exit→St→Prop
 |.normal=>K
 |e=>Q e
theorem AW.seq {x y:Code} (h:AW P x (P8 (fun s'=>s'.n=s.n→AW P y Q s') Q) s):AW P (.seq x y) Q s:=by
 intro F G w0 a w hr;refine wp_seq (wp_mono (h F G w0 a w hr) ?_);intro e a' w' hl;cases e with
 |normal =>
  obtain⟨s',h1,h2,h3⟩:=hl;have:=h1 h2 F G w0 a' w' h3;rw[h2]at this;exact this
 |exit id=>exact hl
 |goto l=>exact hl
 |ret=>exact hl
 |panic ch=>exact hl
 |outgrown=>exact hl
theorem AW.seq_k {x y:Code} (h:∀K:St→Prop,(∀s',s'.n=s.n→AW P y Q s'→K s')→AW P x (P8 K Q) s):AW P (.seq x y) Q s:=by
 refine AW.seq (AW.mono (h (fun s'=>s'.n=s.n∧AW P y Q s') (fun s' h1 h2=>⟨h1,h2⟩)) ?_);intro e s' hn hq;cases e with
 |normal=>exact fun _=>hq.2
 |exit id=>exact hq
 |goto l=>exact hq
 |ret=>exact hq
 |panic ch=>exact hq
 |outgrown=>exact hq
theorem AW.skip (h:Q .normal s):AW P .skip Q s:=fun _ _ _ _ _ hr=>wp_skip ⟨s,h,rfl,hr⟩
theorem AW.ret (h:Q .ret s):AW P .ret Q s:=fun _ _ _ _ _ hr=>wp_ret ⟨s,h,rfl,hr⟩
theorem AW.exit {id:Nat} (h:Q (.exit id) s):AW P (.exit id) Q s:=fun _ _ _ _ _ hr=>wp_exit ⟨s,h,rfl,hr⟩
theorem AW.label {l:Nat} (h:Q .normal s):AW P (.label l) Q s:=fun _ _ _ _ _ hr=>wp_label ⟨s,h,rfl,hr⟩
theorem AW.cond {c:Operand} {x y:Code} {t:Bool} (hok:G6 s.n c=true) (hc:s.ev c=.bool t) (h:AW P (if t=true then x else y) Q s):AW P (.cond c x y) Q s:=by
 intro F G w0 a w hr;have hv:=hr.ev hok;rw[hc]at hv;have he:a.eval c=.bool t:=by
  generalize a.eval c=v at hv;cases hv;rfl
 exact wp_cond he (h F G w0 a w hr)
theorem AW.cond_split {c:Operand} {x y:Code} {t:Bool} (hok:G6 s.n c=true) (hc:s.ev c=.bool t) (h1:t=true→AW P x Q s) (h2:t=false→AW P y Q s):AW P (.cond c x y) Q s:=by
 cases t
 ·exact AW.cond hok hc (h2 rfl)
 ·exact AW.cond hok hc (h1 rfl)
def Uu (id:Nat) (Q:Exit→St→Prop):Exit→St→Prop
 |.exit id'=>if id'=id then Q .normal else Q (.exit id')
 |e=>Q e
theorem AW.block {id:Nat} {c:Code} (h:AW P c (Uu id Q) s):AW P (.block id c) Q s:=by
 intro F G w0 a w hr;refine wp_block (wp_mono (h F G w0 a w hr) ?_);intro e a' w' hl;cases e with
 |normal=>exact hl
 |exit id' =>
  unfold Exit.inBlock;unfold Ql7 Uu at hl;simp only at hl;by_cases hid:id'=id
  ·simp only[hid,if_true]at hl ⊢;exact hl
  ·simp only[hid,if_false]at hl ⊢;exact hl
 |goto l=>exact hl
 |ret=>exact hl
 |panic ch=>exact hl
 |outgrown=>exact hl
theorem AW.scope {c:Code} (h:AW P c (fun e=>match e with | .goto _=>fun _=>False | e=>Q e) s):AW P (.scope c) Q s:=by
 intro F G w0 a w hr;refine wp_scope_straight (wp_mono (h F G w0 a w hr) ?_);intro e a' w' hl;cases e with
 |normal=>exact hl
 |exit id=>exact hl
 |goto l=>obtain⟨_,h1,_⟩:=hl;exact h1.elim
 |ret=>exact hl
 |panic ch=>exact hl
 |outgrown=>exact hl
theorem AW.loop {c:Code} (I:Nat→St→Prop) (m:Nat) (h0:I m s) (round:∀m s',s'.n=s.n→I m s'→AW P c (P8 (fun s''=>∃m',m'<m∧I m' s'') Q) s'):AW P (.loop c) Q s:=by
 intro F G w0 a w hr;refine wp_loop_ghost (fun m a w=>∃s',I m s'∧s'.n=s.n∧Ee F G w0 s' a w) m ⟨s,h0,rfl,hr⟩ ?_;rintro m a w ⟨s',h1,h2,h3⟩;refine wp_mono (round m s' h2 h1 F G w0 a w h3) ?_;intro e a' w' hl;rw[h2]at hl;cases e with
 |normal =>
  obtain⟨s'',⟨m',q1,q2⟩,q3,q4⟩:=hl;exact⟨m',q1,s'',q2,q3,q4⟩
 |exit id=>exact hl
 |goto l=>exact hl
 |ret=>exact hl
 |panic ch=>exact hl
 |outgrown=>exact hl
theorem AW.recast {c:Code} (s':St) (hn:s'.n=s.n) (hm:Bm s.m s'.m) (hr:∀t,B2 s.m s'.m (s.r t) (s'.r t)∨s'.r t=.any) (h:AW P c Q s'):AW P c Q s:=by
 intro F G w0 a w hrel;have hsub:∀b,s'.m b≠none→s.m b≠none:=by
  intro b hb;cases hx:s'.m b with
  |none=>exact absurd hx hb
  |some x=>obtain⟨y,hy,_⟩:=hm.mem b x hx;rw[hy];simp
 have hF:∀b,C2 F s'.m b→C2 F s.m b:=by
  intro b hb;rcases hb with hb | hb
  ·exact .inl hb
  ·exact .inr (hsub b hb)
 have hf:∀b,F b→s.m b=none:=fun b hb=>(hrel.far b hb).2;have hrel':Ee F G w0 s' a w:={
  size:=by rw[hn];exact hrel.size
  regs:=fun t ht=>by
   rcases hr t with h1|h1
   ·exact h1.sound hrel.heap hF hf (hrel.regs t (by rw[←hn];exact ht))
   ·rw[h1];exact .any _
  heap:=hm.heap hrel.heap hF hf
  defers:=hrel.defers
  grow:=hrel.grow
  far:=fun b hb=>⟨(hrel.far b hb).1,by
   cases hx:s'.m b with
   |none=>rfl
   |some x=>exact absurd (hrel.far b hb).2 (hsub b (by rw[hx];simp))⟩
  own:=fun b hb=>hrel.own b (hsub b hb)}
 have:=h F G w0 a w hrel';rw[hn]at this;exact this
def Mf (P:Program) (s:St):ResultVar→Option AV
 |.tmp t=>if Nat.blt t s.n then some (s.r t) else none
 |.cell t ty=>if Nat.blt t s.n then (Ai P ty).bind fun ti=>(match s.r t with | .ptr b z i j=>Gb s.m ti (.ptr b z i j) | .rptr cs=>Gb s.m ti (.rptr cs) | _=>none) else none
def D5 (P:Program) (s:St):List ResultVar→Option (List AV)
 |[]=>some []
 |r::rs=>(Mf P s r).bind fun v=>(D5 P s rs).map (v::·)
def oneOrTup:List AV→AV
 |[v]=>v
 |vs=>.tup vs
def Za (tmps:Array Value):ResultVar→Sem Value
 |.tmp t=>pure (tmps.getD t undef)
 |.cell b t=>do loadVar t (←asAddr (tmps.getD b undef))
theorem Qef (fn:Func) (tmps:Array Value):results fn tmps=(do
  let vs ←fn.results.mapM (Za tmps)
  pure (if h:vs.size=1 then vs[0] else .tuple vs)):=by
 have:(fun r=>match r with | .tmp t=>pure (tmps.getD t undef) | .cell a t=>do loadVar t (←asAddr (tmps.getD a undef)):ResultVar→Sem Value)=Za tmps:=by
  funext r
  cases r<;>rfl
 rw[←this];rfl
theorem Qam {F G:Nat→Prop} {w0 w:World} {a:Act} (hr:Ee F G w0 s a w) {r:ResultVar} {v:AV} (h:Mf P s r=some v) :
  ∃cv,(Za a.tmps r).run P w=.ok cv w∧VR w (C2 F s.m) v cv:=by
 cases r with
 |tmp t =>
  unfold Mf at h;simp only at h;split at h
  ·rename_i ht
   cases h;exact⟨_,rfl,hr.regs t (by simpa[Nat.blt_eq]using ht)⟩
  ·cases h
 |cell t ty =>
  unfold Mf at h;simp only at h;split at h
  ·rename_i ht
   have hv:=hr.regs t (by simpa[Nat.blt_eq]using ht);cases hti:Ai P ty with
   |none=>simp[hti]at h
   |some ti =>
    simp only[hti,Option.bind_some]at h;obtain⟨ca,hca⟩:∃ca,a.tmps.getD t undef=ca:=⟨_,rfl⟩;rw[hca]at hv;split at h
    ·rename_i b z i j hrt
     rw[hrt]at hv;obtain⟨cv,e1,e2⟩:=La (w:=w) hr.heap hti hv h;cases hv;exact⟨cv,by simpa[Za,hca,asAddr,Instr.loadAt,Instr.sureAddr]using e1,e2⟩
    ·rename_i cs hrt
     rw[hrt]at hv;obtain⟨cv,e1,e2⟩:=La (w:=w) hr.heap hti hv h;cases hv;exact⟨cv,by simpa[Za,hca,asAddr,Instr.loadAt,Instr.sureAddr]using e1,e2⟩
    ·cases h
  ·cases h
theorem Og {F G:Nat→Prop} {w0 w:World} {a:Act} (hr:Ee F G w0 s a w):∀(rs:List ResultVar) (vs:List AV),D5 P s rs=some vs →
  ∃cvs:List Value,(rs.mapM (Za a.tmps)).run P w=.ok cvs w∧cvs.length=vs.length∧∀(j:Nat) (u:AV) (x:Value),vs[j]?=some u→cvs[j]?=some x→VR w (C2 F s.m) u x
 |[],vs,h=>by
  cases h;exact⟨[],rfl,rfl,fun j u x hu=>by simp at hu⟩
 |r::rs,vs,h=>by
  unfold D5 at h;cases h1:Mf P s r with
  |none=>simp[h1]at h
  |some v =>
   cases h2:D5 P s rs with
   |none=>simp[h1,h2]at h
   |some vs' =>
    simp only[h1,h2,Option.bind_some,Option.map_some,Option.some.injEq]at h;subst h;obtain⟨cv,e1,e2⟩:=Qam hr h1;obtain⟨cvs,g1,g2,g3⟩:=Og hr rs vs' h2;refine⟨cv::cvs,?_,by simp[g2],fun j u x hu hx=>?_⟩
    ·simp only[List.mapM_cons,Sem.run_bind,e1,Result.andThen_ok,g1,Sem.run_pure]
    ·rcases j with _|j
     ·simp only[List.getElem?_cons_zero,Option.some.injEq]at hu hx;subst hu;subst hx;exact e2
     ·exact g3 j u x (by simpa using hu) (by simpa using hx)
theorem Xk {F G:Nat→Prop} {w0 w:World} {a:Act} (hr:Ee F G w0 s a w) {fn:Func} {vs:List AV} (h:D5 P s fn.results.toList=some vs) :
  ∃cv,(results fn a.tmps).run P w=.ok cv w∧VR w (C2 F s.m) (oneOrTup vs) cv:=by
 obtain⟨cvs,e1,e2,e3⟩:=Og hr _ vs h;refine⟨if h:cvs.toArray.size=1 then cvs.toArray[0] else .tuple cvs.toArray,?_,?_⟩
 ·rw[Qef,Array.mapM_eq_mapM_toList];simp only[Sem.run_bind,Sem.run_map,e1,Result.andThen_ok,Sem.run_pure]
 ·match vs,cvs,e2 with
  |[],[],_=>exact .tup _ _ rfl (fun j u v hu=>by simp at hu)
  |[v],[cv],_=>exact e3 0 v cv rfl rfl
  |v1::v2::vs,c1::c2::cvs,e2 =>
   simp only[List.size_toArray,List.length_cons];rw[dif_neg (by omega)];exact .tup _ _ (by simpa using e2) (fun j u x hu hx=>e3 j u x hu (by simpa using hx))
def Q3 (P:Program) (rs:List ResultVar) (R:AV→Ac→Prop):Exit→St→Prop:=fun e s =>
 match e with
 |.normal | .ret=>∃vs,D5 P s rs=some vs∧∃v' m',Bm s.m m'∧B2 s.m m' (oneOrTup vs) v'∧R v' m'
 |_=>False
def st0 (n:Nat) (args:List AV) (g:Ac):St:={n:=n,r:=fun t=>args.getD t .any,m:=g}
theorem Xi {f : FuncId} {fn : Func} {c : Code} {args : List AV} {g : Ac} {R : AV → Ac → Prop} (hf : P.funcs[f]? = some fn) (hb : fn.body = some c) (hname : (fn.name == "runtime.NumGoroutine") = false) (hn : args.length ≤ fn.ntmps)
  (h:AW P c (Q3 P fn.results.toList R) (st0 fn.ntmps args g)):Ak P f args g R:=by
 refine⟨⟨fn,hf,hname,by rw[hb];rfl⟩,fun w F cargs h1 h2 h3=>?_⟩;have hsz:(cargs++Array.replicate (fn.ntmps-cargs.size) undef).size=fn.ntmps:=by
  rw[Array.size_append,Array.size_replicate,h3.1];omega
 have hrel:Ee F (fun b=>g b≠none) w (st0 fn.ntmps args g) {tmps:=cargs++Array.replicate (fn.ntmps-cargs.size) undef,defers:=[]} w:={
  size:=hsz
  regs:=fun t ht=>by
   show VR w (C2 F g) (args.getD t .any) _
   rcases Nat.lt_or_ge t args.length with hlt|hge
   ·rw[List.getD_eq_getElem?_getD,List.getElem?_eq_getElem hlt,Option.getD_some,Array.getD_eq_getD_getElem?,Array.getElem?_append_left (by rw[h3.1];exact hlt),Array.getElem?_eq_getElem (by rw[h3.1];exact hlt),Option.getD_some];exact h3.2 t _ _ (List.getElem?_eq_getElem hlt) (Array.getElem?_eq_getElem (by rw[h3.1];exact hlt))
   ·rw[List.getD_eq_getElem?_getD,List.getElem?_eq_none hge];exact .any _
  heap:=h2
  defers:=rfl
  grow:=Ez.refl _ w
  far:=h1
  own:=fun b hb=>.inl hb}
 refine calls_of_wp hf hb (wp_mono (h F _ w _ w hrel) ?_);intro e a' w' hl;have key:∀Qe:St→Prop,(∀s,Qe s→∃vs,D5 P s fn.results.toList=some vs∧∃v' m',Bm s.m m'∧B2 s.m m' (oneOrTup vs) v'∧R v' m')→En F (fun b=>g b≠none) w fn.ntmps Qe a' w' →
   a'.defers=[]∧∃v,(results fn a'.tmps).run P w'=.ok v w'∧∃v_1 cv g',(Ending.returned v)=.returned cv∧R v_1 g'∧K4 w' (C2 F g') g'∧VR w' (C2 F g') v_1 cv∧Ez (fun b=>g b≠none) w w'∧∀b,g' b≠none→g b≠none∨w.heap.size≤b:=by
  rintro Qe hQe ⟨s',hq,hn',hr'⟩;obtain⟨vs,hvs,v',m',hrc,hvw,hR⟩:=hQe s' hq;obtain⟨cv,e1,e2⟩:=Xk hr' hvs;have hsub:∀b,m' b≠none→s'.m b≠none:=by
   intro b hb;cases hx:m' b with
   |none=>exact absurd hx hb
   |some x=>obtain⟨y,hy,_⟩:=hrc.mem b x hx;rw[hy];simp
  have hF:∀b,C2 F m' b→C2 F s'.m b:=by
   intro b hb;rcases hb with hb | hb
   ·exact .inl hb
   ·exact .inr (hsub b hb)
  have hf':∀b,F b→s'.m b=none:=fun b hb=>(hr'.far b hb).2;exact⟨hr'.defers,cv,e1,v',cv,m',rfl,hR,hrc.heap hr'.heap hF hf',hvw.sound hr'.heap hF hf' e2,hr'.grow,fun b hb=>hr'.own b (hsub b hb)⟩
 cases e with
 |normal=>exact key _ (fun s hs=>hs) hl
 |ret=>exact key _ (fun s hs=>hs) hl
 |exit id=>obtain⟨_,h1,_⟩:=hl;exact h1.elim
 |goto l=>obtain⟨_,h1,_⟩:=hl;exact h1.elim
 |panic ch=>exact hl.elim
 |outgrown=>exact hl.elim
end
end Go.Av
end
section
namespace Go.Av
inductive Kl where
 |q | l | a | z | c | b | x
 deriving DecidableEq
def Br (o:Oper):Kl :=
 match o.op with
 |.load _ _=>.l
 |.alloc _=>if o.guard.isNone then .z else .a
 |.box _ _ | .buildSlice _ _ _ | .makeSlice _ _ _=>.a
 |.store _ _ _=>.x
 |.call c=>match c.callee with
  |.builtin .append=>.b
  |.builtin .copy=>.x
  |.value (.func _) | .value (.tmp _)=>.c
  |_=>.q
 |_=>.q
def Kl.comm:Kl→Kl→Bool
 |.q,_=>true
 |.l,.x=>false
 |.l,_=>true
 |.z,.z=>true
 |.c,.z=>true
 |_,_=>false
inductive Hr where
 |no
 |quiet (ev:Ac→Option AV)
 |new (fv:Nat→AV) (x:Fb)
 |call (f:FuncId) (args:List AV)
def Hr.sem (P:Program) (av:Nat→Prop) (fo:Hr) (m:Ac) (k:AV→Ac→Prop):Prop :=
 match fo with
 |.no=>False
 |.quiet ev=>∃v,ev m=some v∧k v m
 |.new fv x=>∀b,m b=none→¬av b→k (fv b) (m.set b x)
 |.call f args=>Aa P av f args m k
def Hr.ok (av:Nat→Prop) (kl:Kl):Hr→Prop
 |.no=>True
 |.quiet ev=>if kl=.l then ∀m m',(∀b,av b→m b=m' b)→ev m=ev m' else ∀m m',ev m=ev m'
 |.new _ _=>kl=.a∨kl=.z
 |.call _ _=>kl=.c
def Db (P:Program) (cf:Dy) (ops:Array Oper) (o:Oper) (s:St) (k:AV→Ac→Prop):Prop :=
 match o.guard with
 |none=>Fc P cf o s k
 |some (j,want) =>
  match (ops[j]?).bind (·.dst)with
  |some d=>∃t,Nb (s.r d) want=some t∧if t=true then Fc P cf o s k else k (.tup []) s.m
  |none=>False
section
variable {P:Program} {cf:Dy} {ops:Array Oper}
theorem Th (kl:Kl) (hkl:kl=.a∨kl=.z) (d:Option Tmp) (t:TypeId) (z:Nat) (v:AV):∃fo:Hr,fo.ok cf.av kl∧∀m k,newVar cf d t z v m k↔fo.sem P cf.av m k:=by
 by_cases hv:v=.any
 ·exact⟨.no,trivial,fun m k=>⟨fun h=>h.1 hv,fun h=>h.elim⟩⟩
 ·cases d with
  |none=>exact⟨.no,trivial,fun m k=>⟨fun h=>h.2,fun h=>h.elim⟩⟩
  |some d =>
   by_cases hro:cf.ro d=true
   ·refine⟨.quiet fun _=>some (.rptr v.cells),by rcases hkl with h | h<;>simp[Hr.ok,h],fun m k=>?_⟩
    simp[newVar,hv,hro,Hr.sem]
   ·by_cases hc:v.cells.length=z∧0<z∧(v.cells.all AV.one)=true
    ·refine⟨.new (fun b=>.ptr b z 0 0) ⟨t,z,[v]⟩,hkl,fun m k=>?_⟩;simp only[newVar,hro,Hr.sem];exact⟨fun h=>h.2.2.2.2,fun h=>⟨hv,hc.1,hc.2.1,hc.2.2,h⟩⟩
    ·refine⟨.no,trivial,fun m k=>⟨fun h=>?_,fun h=>h.elim⟩⟩;simp only[newVar,hro]at h;exact(hc ⟨h.2.1,h.2.2.1,h.2.2.2.1⟩).elim
theorem Qow {o:Oper} (h:∀t a,o.op≠.load t a) (s:St) (m m':Ac):Rq P o {s with m:=m}=Rq P o {s with m:=m'}:=by
 unfold Rq;cases ho:o.op with
 |load t a=>exact absurd ho (h t a)
 |makeFunc fn first captured=>cases fn<;>rfl
 |_=>rfl
theorem Qne {o:Oper} (hb:Br o≠.b) (hx:Br o≠.x) (hdm:cf.dm=true) (s:St):∃fo:Hr,fo.ok cf.av (Br o)∧∀m k,Fc P cf o {s with m:=m} k↔fo.sem P cf.av m k:=by
 have plain:(∀t a,o.op≠.load t a)→Br o=.q→(∀m k,Fc P cf o {s with m:=m} k↔Ea (Rq P o {s with m:=m}) fun v=>k v m)→∃fo:Hr,fo.ok cf.av (Br o)∧∀m k,Fc P cf o {s with m:=m} k↔fo.sem P cf.av m k:=by
  intro h1 h2 h3;refine⟨.quiet fun m=>Rq P o {s with m:=m},?_,fun m k=>h3 m k⟩;rw[h2];exact fun m m'=>Qow h1 s m m'
 cases ho:o.op with
 |alloc t =>
  have hk:Br o=.a∨Br o=.z:=by
   simp only[Br,ho];split
   ·exact .inr rfl
   ·exact .inl rfl
  cases ht:Ai P t with
  |none=>exact⟨.no,trivial,fun m k=>by simp[Fc,ho,ht,Hr.sem]⟩
  |some ti =>
   obtain⟨fo,h1,h2⟩:=Th (P:=P) (cf:=cf) _ hk o.dst t ti.size ti.zero;exact⟨fo,h1,fun m k=>by simp only[Fc,ho,ht,Option.some.injEq,exists_eq_left'];exact h2 m k⟩
 |box t x =>
  have hk:Br o=.a:=by simp[Br,ho]
  rw[hk];cases ht:Ai P t with
  |none=>exact⟨.no,trivial,fun m k=>by simp[Fc,ho,ht,Hr.sem]⟩
  |some ti =>
   obtain⟨fo,h1,h2⟩:=Th (P:=P) (cf:=cf) .a (.inl rfl) o.dst t ti.size (s.ev x);refine⟨fo,h1,fun m k=>?_⟩;have:({s with m:=m}:St).ev x=s.ev x:=by cases x<;>rfl
   simp only[Fc,ho,ht,Option.some.injEq,exists_eq_left',this];exact h2 m k
 |buildSlice t len parts =>
  have hk:Br o=.a:=by simp[Br,ho]
  rw[hk];have hev:∀m,(parts.toList.map fun(p:Nat × Operand)=>({s with m:=m}:St).ev p.2)=parts.toList.map fun(p:Nat × Operand)=>s.ev p.2:=by
   intro m;refine List.map_congr_left fun p _=>?_;cases p.2<;>rfl
  by_cases hc:∃ti e te,Ai P t=some ti∧ti.cls=.slice e∧Ai P e=some te∧0<te.size∧len*te.size≤16777216 ∧
   parts.toList.map (·.1)=List.range len∧((parts.toList.map fun(p:Nat × Operand)=>s.ev p.2).all fun v=>v.cells.length==te.size&&v.cells.all AV.one)=true
  ·obtain⟨ti,e,te,c1,c2,c3,c4,c5,c6,c7⟩:=hc;cases hd:o.dst with
   |none =>
    refine⟨.no,trivial,fun m k=>⟨fun h=>?_,fun h=>h.elim⟩⟩;simp only[Fc,ho,hd]at h;obtain⟨_,_,_,_,_,_,_,_,_,_,h⟩:=h;exact h
   |some d =>
    by_cases hro:cf.ro d=true
    ·refine⟨.quiet fun _=>some (.sl te.size (parts.toList.map fun(p:Nat × Operand)=>s.ev p.2)),by simp[Hr.ok],fun m k=>?_⟩;simp only[Fc,ho,hd,hro,if_true,hev,Hr.sem,Option.some.injEq,exists_eq_left'];refine⟨fun h=>?_,fun h=>⟨ti,e,te,c1,c2,c3,c4,c5,c6,c7,h⟩⟩;obtain⟨ti',e',te',h1,h2,h3,_,_,_,_,h⟩:=h;rw[c1]at h1;cases h1;rw[c2]at h2;cases h2;rw[c3]at h3;cases h3;exact h
    ·refine⟨.new (fun b=>.osl b te.size 0 len) ⟨e,te.size,parts.toList.map fun(p:Nat × Operand)=>s.ev p.2⟩,.inl rfl,fun m k=>?_⟩;simp only[Fc,ho,hd,hro,Bool.false_eq_true,if_false,hev,Hr.sem];refine⟨fun h=>?_,fun h=>⟨ti,e,te,c1,c2,c3,c4,c5,c6,c7,h⟩⟩;obtain⟨ti',e',te',h1,h2,h3,_,_,_,_,h⟩:=h;rw[c1]at h1;cases h1;rw[c2]at h2;cases h2;rw[c3]at h3;cases h3;exact h
  ·refine⟨.no,trivial,fun m k=>⟨fun h=>?_,fun h=>h.elim⟩⟩;simp only[Fc,ho,hev]at h;obtain⟨ti,e,te,h1,h2,h3,h4,h5,h6,h7,_⟩:=h;exact(hc ⟨ti,e,te,h1,h2,h3,h4,h5,h6,h7⟩).elim
 |makeSlice t l c =>
  have hk:Br o=.a:=by simp[Br,ho]
  rw[hk];have hl:∀m,({s with m:=m}:St).ev l=s.ev l:=fun m=>by cases l<;>rfl
  have hcc:∀m,({s with m:=m}:St).ev c=s.ev c:=fun m=>by cases c<;>rfl
  by_cases hcond:∃ti e te k1 n k2 n',Ai P t=some ti∧ti.cls=.slice e∧Ai P e=some te∧s.ev l=.int k1 n∧s.ev c=.int k2 n'∧0≤n∧n≤n'∧0<te.size∧0<te.bytes∧(te.bytes:Int)*n'≤281474976710656 ∧
   te.zero.cells.length=te.size∧(te.zero.cells.all AV.one)=true
  ·obtain⟨ti,e,te,k1,n,k2,n',c1,c2,c3,c4,c5,c6,c7,c8,c9,c10,c11,c12⟩:=hcond;refine⟨.new (fun b=>.osl b te.size 0 n.toNat) ⟨e,te.size,List.replicate n.toNat te.zero⟩,.inl rfl,fun m k=>?_⟩;simp only[Fc,ho,hl,hcc,Hr.sem];refine⟨fun h=>?_,fun h=>⟨ti,e,te,k1,n,k2,n',c1,c2,c3,c4,c5,c6,c7,c8,c9,c10,c11,c12,h⟩⟩;obtain⟨ti',e',te',k1',n0,k2',n0',h1,h2,h3,h4,_,_,_,_,_,_,_,_,h⟩:=h;rw[c1]at h1;cases h1;rw[c2]at h2;cases h2;rw[c3]at h3;cases h3;rw[c4]at h4;cases h4;exact h
  ·refine⟨.no,trivial,fun m k=>⟨fun h=>?_,fun h=>h.elim⟩⟩;simp only[Fc,ho,hl,hcc]at h;obtain⟨ti,e,te,k1,n,k2,n',c1,c2,c3,c4,c5,c6,c7,c8,c9,c10,c11,c12,_⟩:=h;exact(hcond ⟨ti,e,te,k1,n,k2,n',c1,c2,c3,c4,c5,c6,c7,c8,c9,c10,c11,c12⟩).elim
 |load t x =>
  have hk:Br o=.l:=by simp[Br,ho]
  rw[hk];have hxm:∀m,({s with m:=m}:St).ev x=s.ev x:=fun m=>by cases x<;>rfl
  by_cases hc:(match s.ev x with | .ptr b _ _ _=>cf.av b | _=>True)
  ·refine⟨.quiet fun m=>Rq P o {s with m:=m},?_,fun m k=>?_⟩
   ·simp only[Hr.ok,if_true];intro m m' hm;simp only[Rq,ho,hxm];cases Ai P t with
    |none=>rfl
    |some ti =>
     simp only[Option.bind_some]
     revert hc
     cases s.ev x<;>intro hc<;>simp only[Gb]<;>try rfl
     rw[hm _ hc]
   ·simp only[Fc,ho,hdm,hxm,Hr.sem];exact⟨fun h=>h.2,fun h=>⟨fun _=>hc,h⟩⟩
  ·refine⟨.no,trivial,fun m k=>⟨fun h=>?_,fun h=>h.elim⟩⟩;simp only[Fc,ho,hdm,hxm]at h;exact(hc (h.1 trivial)).elim
 |store t x v=>exact absurd (by simp[Br,ho]) hx
 |call c =>
  have hargs:∀m,c.args.toList.map ({s with m:=m}:St).ev=c.args.toList.map s.ev:=by
   intro m;refine List.map_congr_left fun p _=>?_;cases p<;>rfl
  cases hcal:c.callee with
  |invoke r mname=>exact plain (by rw[ho];intro t a h;cases h) (by simp[Br,ho,hcal]) (fun m k=>by simp[Fc,ho,hcal])
  |builtin b =>
   by_cases h1:b=.append
   ·subst h1;exact absurd (by simp[Br,ho,hcal]) hb
   ·by_cases h2:b=.copy
    ·subst h2;exact absurd (by simp[Br,ho,hcal]) hx
    ·exact plain (by rw[ho];intro t a h;cases h) (by cases b<;>simp_all[Br]) (fun m k=>by cases b<;>simp_all[Fc])
  |value f =>
   cases f with
   |func f =>
    refine⟨.call f (c.args.toList.map s.ev),by simp[Hr.ok,Br,ho,hcal],fun m k=>?_⟩;simp only[Fc,ho,hcal,hargs,Hr.sem]
   |tmp t =>
    by_cases hf:∃f caps,s.r t=.fn f caps
    ·obtain⟨f,caps,hf⟩:=hf;refine⟨.call f (c.args.toList.map s.ev++caps),by simp[Hr.ok,Br,ho,hcal],fun m k=>?_⟩;simp only[Fc,ho,hcal,hargs,Hr.sem];refine⟨fun h=>?_,fun h=>⟨f,caps,hf,h⟩⟩;obtain⟨f',caps',h1,h2⟩:=h;rw[hf]at h1;cases h1;exact h2
    ·refine⟨.no,trivial,fun m k=>⟨fun h=>?_,fun h=>h.elim⟩⟩;simp only[Fc,ho,hcal]at h;obtain⟨f',caps',h1,_⟩:=h;exact(hf ⟨f',caps',h1⟩).elim
   |const v=>exact plain (by rw[ho];intro t a h;cases h) (by simp[Br,ho,hcal]) (fun m k=>by simp[Fc,ho,hcal])
   |global g=>exact plain (by rw[ho];intro t a h;cases h) (by simp[Br,ho,hcal]) (fun m k=>by simp[Fc,ho,hcal])
 |_=>exact plain (by rw[ho];intro t a h;cases h) (by simp[Br,ho]) (fun m k=>by simp[Fc,ho])
theorem Nu {o:Oper} (hb:Br o≠.b) (hx:Br o≠.x) (hdm:cf.dm=true) (s:St):∃fo:Hr,fo.ok cf.av (Br o)∧∀m k,Db P cf ops o {s with m:=m} k↔fo.sem P cf.av m k:=by
 obtain⟨fo,h1,h2⟩:=Qne (P:=P) (cf:=cf) hb hx hdm s;unfold Db;cases hg:o.guard with
 |none=>exact⟨fo,h1,h2⟩
 |some g =>
  obtain⟨j,want⟩:=g;simp only;cases hd:(ops[j]?).bind (·.dst)with
  |none=>exact⟨.no,trivial,fun m k=>Iff.rfl⟩
  |some d =>
   simp only;by_cases hr:∃t,Nb (s.r d) want=some t
   ·obtain⟨t,hr⟩:=hr;by_cases ht:t=true
    ·refine⟨fo,h1,fun m k=>?_⟩;rw[←h2];refine⟨fun h=>?_,fun h=>⟨t,hr,by rw[if_pos ht];exact h⟩⟩;obtain⟨t',e1,e2⟩:=h;rw[hr]at e1;cases e1;rw[if_pos ht]at e2;exact e2
    ·refine⟨.quiet fun _=>some (.tup []),by simp only[Hr.ok];split<;>simp,fun m k=>?_⟩
     simp only[Hr.sem,Option.some.injEq,exists_eq_left'];refine⟨fun h=>?_,fun h=>⟨t,hr,by rw[if_neg ht];exact h⟩⟩;obtain⟨t',e1,e2⟩:=h;rw[hr]at e1;cases e1;rw[if_neg ht]at e2;exact e2
   ·refine⟨.no,trivial,fun m k=>⟨fun h=>?_,fun h=>h.elim⟩⟩;obtain⟨t,e1,_⟩:=h;exact(hr ⟨t,e1⟩).elim
end
end Go.Av
end
section
namespace Go.Av
section
variable {P:Program} {cf:Dy} {ops:Array Oper}
theorem Qj7 {o:Oper} {s s':St} (hx:∀x∈o.op.operands.toList,s.ev x=s'.ev x) (hm:s.m=s'.m):Rq P o s=Rq P o s':=by
 unfold Rq;cases ho:o.op with
 |move x=>rw[ho]at hx;simp only[hx x (by simp[Op.operands])]
 |assign x=>rw[ho]at hx;simp only[hx x (by simp[Op.operands])]
 |pick c a b=>rw[ho]at hx;simp only[hx c (by simp[Op.operands]),hx a (by simp[Op.operands]),hx b (by simp[Op.operands])]
 |build t parts =>
  rw[ho]at hx;have:(parts.toList.map fun p=>(p.1,s.ev p.2))=parts.toList.map fun p=>(p.1,s'.ev p.2):=by
   refine List.map_congr_left fun p hp=>?_;rw[hx p.2 (by simp only[Op.operands,List.mem_map];exact⟨p,hp,rfl⟩)]
  simp only[this]
 |load t x=>rw[ho]at hx;simp only[hx x (by simp[Op.operands]),hm]
 |nilCheck x=>rw[ho]at hx;simp only[hx x (by simp[Op.operands])]
 |binOp op t x y yt=>rw[ho]at hx;simp only[hx x (by simp[Op.operands]),hx y (by simp[Op.operands])]
 |unOp op t x=>rw[ho]at hx;simp only[hx x (by simp[Op.operands])]
 |convert a b x=>rw[ho]at hx;simp only[hx x (by simp[Op.operands])]
 |makeFunc fn first captured =>
  rw[ho]at hx;cases fn with
  |func f =>
   have:captured.toList.map s.ev=captured.toList.map s'.ev:=List.map_congr_left fun p hp=>hx p (by simp[Op.operands];exact .inr (Array.mem_toList_iff.1 hp));simp only[this]
  |_=>rfl
 |slice t x lo hi mx =>
  rw[ho]at hx;have h1:=hx x (by simp[Op.operands]);have h2:lo.map s.ev=lo.map s'.ev:=by cases lo with | none=>rfl | some y=>simp[hx y (by simp[Op.operands])]
  have h3:hi.map s.ev=hi.map s'.ev:=by cases hi with | none=>rfl | some y=>simp[hx y (by simp[Op.operands])]
  cases mx with
  |none=>simp only[h1,h2,h3]
  |some m=>simp only[h1,h2,h3,hx m (by simp[Op.operands])]
 |fieldAddr t x f=>rw[ho]at hx;simp only[hx x (by simp[Op.operands])]
 |field t x f=>rw[ho]at hx;simp only[hx x (by simp[Op.operands])]
 |indexAddr t x i=>rw[ho]at hx;simp only[hx x (by simp[Op.operands]),hx i (by simp[Op.operands])]
 |index t x i=>rw[ho]at hx;simp only[hx x (by simp[Op.operands]),hx i (by simp[Op.operands])]
 |extract t i=>rw[ho]at hx;simp only[hx t (by simp[Op.operands])]
 |call c =>
  rw[ho]at hx;have ha:∀x∈c.args.toList,s.ev x=s'.ev x:=fun x h=>hx x (by unfold Op.operands Call.operands;rw[Array.toList_append];exact List.mem_append_right _ h);simp only;split
  ·rename_i x t h1 h2 h3
   rw[ha x (by rw[h2];simp)]
  ·rename_i x y h1 h2
   rw[ha _ (by rw[h2];simp),ha _ (by rw[h2];simp)]
  ·rename_i x y h1 h2
   rw[ha _ (by rw[h2];simp),ha _ (by rw[h2];simp)]
  ·rfl
 |_=>rfl
theorem Qip {o:Oper} {s s':St} (hx:∀x∈o.op.operands.toList,s.ev x=s'.ev x) (hm:s.m=s'.m) (k:AV→Ac→Prop):Fc P cf o s k↔Fc P cf o s' k:=by
 have hq:=Qj7 (P:=P) hx hm;unfold Fc;cases ho:o.op with
 |alloc t=>simp only[hm]
 |box t x=>rw[ho]at hx;simp only[hx x (by simp[Op.operands]),hm]
 |buildSlice t len parts =>
  rw[ho]at hx;have:(parts.toList.map fun(p:Nat × Operand)=>s.ev p.2)=parts.toList.map fun(p:Nat × Operand)=>s'.ev p.2:=by
   refine List.map_congr_left fun p hp=>?_;rw[hx p.2 (by simp only[Op.operands,List.mem_map];exact⟨p,hp,rfl⟩)]
  simp only[this,hm]
 |makeSlice t l c=>rw[ho]at hx;simp only[hx l (by simp[Op.operands]),hx c (by simp[Op.operands]),hm]
 |store t a v=>rw[ho]at hx;simp only[hx a (by simp[Op.operands]),hx v (by simp[Op.operands]),hm]
 |load t a=>rw[ho]at hx;simp only[hx a (by simp[Op.operands]),hm,hq]
 |call c =>
  rw[ho]at hx;have ha:∀x∈c.args.toList,s.ev x=s'.ev x:=fun x h=>hx x (by unfold Op.operands Call.operands;rw[Array.toList_append];exact List.mem_append_right _ h);have hmap:c.args.toList.map s.ev=c.args.toList.map s'.ev:=List.map_congr_left ha;simp only;split
  ·rw[hm];refine exists_congr fun x=>exists_congr fun y=>exists_congr fun t=>exists_congr fun ti=>exists_congr fun e=>exists_congr fun te=>exists_congr fun l=>exists_congr fun ys=>?_;refine and_congr_right fun hxs=>?_;rw[ha x (by rw[hxs];simp),ha y (by rw[hxs];simp)]
  ·rw[hm];refine exists_congr fun x=>exists_congr fun y=>exists_congr fun t=>exists_congr fun t'=>exists_congr fun ti=>exists_congr fun e=>exists_congr fun te=>exists_congr fun b=>exists_congr fun i=>exists_congr fun n=>exists_congr fun blk=>exists_congr fun ys=>?_;refine and_congr_right fun hxs=>?_;rw[ha x (by rw[hxs];simp),ha y (by rw[hxs];simp)]
  ·rw[hmap,hm]
  ·rename_i t hcal
   have:s.r t=s'.r t:=hx (.tmp t) (by simp[Op.operands,Call.operands,hcal]);rw[this,hmap,hm]
  ·rw[hq,hm]
 |_=>simp only[hq,hm]
theorem Qje {o:Oper} {t:Tmp} (h:.tmp t∈o.op.operands.toList):t∈o.looksAt ops:=by
 unfold Oper.looksAt;refine List.mem_append_left _ (List.mem_filterMap.2 ⟨.tmp t,h,rfl⟩)
theorem Qf {o:Oper} {s:St} {d:Option Tmp} {v:AV} (hd:∀x,d=some x→x ∉ o.looksAt ops) (k:AV→Ac→Prop):Db P cf ops o (s.put d v) k↔Db P cf ops o s k:=by
 cases d with
 |none=>exact Iff.rfl
 |some d =>
  have hd:=hd d rfl;have hev:∀x∈o.op.operands.toList,(s.put (some d) v).ev x=s.ev x:=by
   intro x hx;cases x with
   |tmp t =>
    have hne:t≠d:=by
     intro e;subst e;exact hd (Qje hx)
    show(if t=d then v else s.r t)=s.r t
    rw[if_neg hne]
   |_=>rfl
  have hc:=Qip (P:=P) (cf:=cf) hev (show(s.put (some d) v).m=s.m from rfl);unfold Db;cases hg:o.guard with
  |none=>exact hc k
  |some g =>
   obtain⟨j,want⟩:=g;simp only;cases hj:(ops[j]?).bind (·.dst)with
   |none=>exact Iff.rfl
   |some x =>
    have hxd:x≠d:=by
     intro e;subst e;refine hd ?_;unfold Oper.looksAt;refine List.mem_append_right _ ?_;simp[hg,hj]
    have:(s.put (some d) v).r x=s.r x:=by
     show(if x=d then v else s.r x)=s.r x
     rw[if_neg hxd]
    simp only[this,hc k];exact Iff.rfl
def Cr (P:Program) (cf:Dy) (ops:Array Oper) (o:Oper) (K:St→Prop) (s:St):Prop:=Db P cf ops o s fun v m'=>K ({s with m:=m'}.put o.dst v)
theorem Sm {d:Option Tmp} {t:TypeId} {z:Nat} {v:AV} {m:Ac} {k k':AV→Ac→Prop} (hk:∀v m,k v m→k' v m) (h:newVar cf d t z v m k):newVar cf d t z v m k':=by
 unfold newVar at *;refine⟨h.1,?_⟩;have h2:=h.2;cases d with
 |none=>exact h2
 |some d =>
  simp only at h2 ⊢;split
  ·rename_i hro;rw[if_pos hro]at h2;exact hk _ _ h2
  ·rename_i hro;rw[if_neg hro]at h2;exact⟨h2.1,h2.2.1,h2.2.2.1,fun b h1 h3=>hk _ _ (h2.2.2.2 b h1 h3)⟩
theorem Qdg {o:Oper} {s:St} {k k':AV→Ac→Prop} (hk:∀v m,k v m→k' v m) (h:Fc P cf o s k):Fc P cf o s k':=by
 have hq:(Ea (Rq P o s) fun v=>k v s.m)→Ea (Rq P o s) fun v=>k' v s.m:=fun⟨v,h1,h2⟩=>⟨v,h1,hk _ _ h2⟩;unfold Fc at *;split at h
 ·obtain⟨ti,h1,h2⟩:=h;exact⟨ti,h1,Sm hk h2⟩
 ·obtain⟨ti,h1,h2⟩:=h;exact⟨ti,h1,Sm hk h2⟩
 ·obtain⟨ti,e,te,h1,h2,h3,h4,h5,h6,h7,h8⟩:=h;refine⟨ti,e,te,h1,h2,h3,h4,h5,h6,h7,?_⟩
  revert h8
  cases o.dst with
  |none=>exact id
  |some d =>
   simp only;intro h8;split
   ·rename_i hro;rw[if_pos hro]at h8;exact hk _ _ h8
   ·rename_i hro;rw[if_neg hro]at h8;exact fun b q1 q2=>hk _ _ (h8 b q1 q2)
 ·obtain⟨ti,e,te,k1,n,k2,n',h1,h2,h3,h4,h5,h6,h7,h8,h9,h10,h11,h12,h13⟩:=h;exact⟨ti,e,te,k1,n,k2,n',h1,h2,h3,h4,h5,h6,h7,h8,h9,h10,h11,h12,fun b q1 q2=>hk _ _ (h13 b q1 q2)⟩
 ·obtain⟨ti,b,z,i,j,blk,old,h1,h2,h3,h4,h5,h6,h7,h8,h9⟩:=h;exact⟨ti,b,z,i,j,blk,old,h1,h2,h3,h4,h5,h6,h7,h8,hk _ _ h9⟩
 ·exact⟨h.1,hq h.2⟩
 ·split at h
  ·obtain⟨x,y,t,ti,e,te,l,ys,h1,h2,h3,h4,h5,h6,h7,h8,h9,h10,h11,h12⟩:=h;refine⟨x,y,t,ti,e,te,l,ys,h1,h2,h3,h4,h5,h6,h7,h8,h9,h10,h11,?_⟩;split at h12
   ·rename_i hro
    rw[if_pos hro];obtain⟨b,i,n,q1,q2,q3,q4,q5⟩:=h12;exact⟨b,i,n,q1,q2,q3,q4,hk _ _ q5⟩
   rename_i hro
   rw[if_neg hro];rcases h12 with⟨q1,q2,q3,q4⟩ | ⟨b,q1,q2,q3,q4⟩
   ·exact .inl ⟨q1,q2,fun h=>hk _ _ (q3 h),fun h b p1 p2=>hk _ _ (q4 h b p1 p2)⟩
   ·exact .inr ⟨b,q1,q2,q3,fun b' p p'=>hk _ _ (q4 b' p p')⟩
  ·obtain⟨x,y,t,t',ti,e,te,b,i,n,blk,ys,h1,h2,h3,h4,h5,h6,h7,h8,h9,h10,h11,h12,h13⟩:=h;exact⟨x,y,t,t',ti,e,te,b,i,n,blk,ys,h1,h2,h3,h4,h5,h6,h7,h8,h9,h10,h11,h12,hk _ _ h13⟩
  ·exact h.mono hk
  ·obtain⟨f,caps,h1,h2⟩:=h;exact⟨f,caps,h1,h2.mono hk⟩
  ·exact hq h
 ·exact hq h
theorem Bt {o:Oper} {s:St} {k k':AV→Ac→Prop} (hk:∀v m,k v m→k' v m) (h:Db P cf ops o s k):Db P cf ops o s k':=by
 unfold Db at *;split at h
 ·exact Qdg hk h
 ·split at h
  ·obtain⟨t,h1,h2⟩:=h;refine⟨t,h1,?_⟩;split
   ·rename_i ht;rw[if_pos ht]at h2;exact Qdg hk h2
   ·rename_i ht;rw[if_neg ht]at h2;exact hk _ _ h2
  ·exact h
theorem Qcl {o:Oper} (hx:Br o≠.x) {s:St} {k:AV→Ac→Prop} (h:Fc P cf o s k):Fc P cf o s fun v m'=>(∀b,cf.av b→s.m b=m' b)∧k v m':=by
 have hq:(Ea (Rq P o s) fun v=>k v s.m)→Ea (Rq P o s) fun v=>(∀b,cf.av b→s.m b=s.m b)∧k v s.m:=fun⟨v,h1,h2⟩=>⟨v,h1,fun _ _=>rfl,h2⟩;have hset:∀(m:Ac) (b:Nat) (x:Fb),¬cf.av b→∀b',cf.av b'→m b'=(m.set b x) b':=by
  intro m b x hb b' hb';rw[Ac.set_other];intro e;subst e;exact hb hb'
 have hnew:∀{d:Option Tmp} {t:TypeId} {z:Nat} {v:AV},newVar cf d t z v s.m k→newVar cf d t z v s.m fun v m'=>(∀b,cf.av b→s.m b=m' b)∧k v m':=by
  intro d t z v h;unfold newVar at *;refine⟨h.1,?_⟩;have h2:=h.2;cases d with
  |none=>exact h2
  |some d =>
   simp only at h2 ⊢;split
   ·rename_i hro;rw[if_pos hro]at h2;exact⟨fun _ _=>trivial,h2⟩
   ·rename_i hro;rw[if_neg hro]at h2;exact⟨h2.1,h2.2.1,h2.2.2.1,fun b h1 h3=>⟨hset _ _ _ h3,h2.2.2.2 b h1 h3⟩⟩
 have hcall:∀{f:FuncId} {args:List AV},Aa P cf.av f args s.m k→Aa P cf.av f args s.m fun v m'=>(∀b,cf.av b→s.m b=m' b)∧k v m':=by
  intro f args h;rcases h with⟨g,R,h1,h2,h3⟩ | ⟨args',R,h1,h2,h3⟩
  ·refine .inl ⟨g,R,h1,h2,fun v g' hr hf=>⟨fun b hb=>?_,h3 v g' hr hf⟩⟩;have hg:g b=none:=by
    cases hg:g b with
    |none=>rfl
    |some x=>exact absurd hb (h1 b x hg).2
   have hg':g' b=none:=by
    cases hg':g' b with
    |none=>rfl
    |some x =>
     rcases hf b (by rw[hg'];simp)with q|q
     ·exact absurd hg q
     ·exact absurd hb q.2
   simp[Ff,hg,hg']
  ·exact .inr ⟨args',R,h1,h2,fun v g' hr=>⟨(h3 v g' hr).1,fun _ _=>rfl,(h3 v g' hr).2⟩⟩
 unfold Fc at *;split at h
 ·obtain⟨ti,h1,h2⟩:=h;exact⟨ti,h1,hnew h2⟩
 ·obtain⟨ti,h1,h2⟩:=h;exact⟨ti,h1,hnew h2⟩
 ·obtain⟨ti,e,te,h1,h2,h3,h4,h5,h6,h7,h8⟩:=h;refine⟨ti,e,te,h1,h2,h3,h4,h5,h6,h7,?_⟩
  revert h8
  cases o.dst with
  |none=>exact id
  |some d =>
   simp only;intro h8;split
   ·rename_i hro;rw[if_pos hro]at h8;exact⟨fun _ _=>trivial,h8⟩
   ·rename_i hro;rw[if_neg hro]at h8;exact fun b q1 q2=>⟨hset _ _ _ q2,h8 b q1 q2⟩
 ·obtain⟨ti,e,te,k1,n,k2,n',h1,h2,h3,h4,h5,h6,h7,h8,h9,h10,h11,h12,h13⟩:=h;exact⟨ti,e,te,k1,n,k2,n',h1,h2,h3,h4,h5,h6,h7,h8,h9,h10,h11,h12,fun b q1 q2=>⟨hset _ _ _ q2,h13 b q1 q2⟩⟩
 ·rename_i ho;exact absurd (by simp[Br,ho]) hx
 ·exact⟨h.1,hq h.2⟩
 ·rename_i c ho
  split at h
  ·obtain⟨x,y,t,ti,e,te,l,ys,h1,h2,h3,h4,h5,h6,h7,h8,h9,h10,h11,h12⟩:=h;refine⟨x,y,t,ti,e,te,l,ys,h1,h2,h3,h4,h5,h6,h7,h8,h9,h10,h11,?_⟩;split at h12
   ·rename_i hro
    rw[if_pos hro];obtain⟨b,i,n,q1,q2,q3,q4,q5⟩:=h12;exact⟨b,i,n,q1,q2,q3,q4,hset _ _ _ q3,q5⟩
   rename_i hro
   rw[if_neg hro];rcases h12 with⟨q1,q2,q3,q4⟩ | ⟨b,q1,q2,q3,q4⟩
   ·exact .inl ⟨q1,q2,fun h=>⟨fun _ _=>rfl,q3 h⟩,fun h b p1 p2=>⟨hset _ _ _ p2,q4 h b p1 p2⟩⟩
   ·refine .inr ⟨b,q1,q2,q3,fun b' p p'=>⟨fun x hx=>?_,q4 b' p p'⟩⟩;have hxb:x≠b:=by intro e;subst e;exact q3 hx
    have hxb':x≠b':=by
     intro e;subst e;exact p' hx
    rw[Ac.set_other _ _ hxb',Ac.del_other _ hxb]
  ·rename_i hcal;exact absurd (by simp[Br,ho,hcal]) hx
  ·exact hcall h
  ·obtain⟨f,caps,h1,h2⟩:=h;exact⟨f,caps,h1,hcall h2⟩
  ·exact hq h
 ·exact hq h
theorem Qid {o:Oper} (hx:Br o≠.x) {s:St} {k:AV→Ac→Prop} (h:Db P cf ops o s k):Db P cf ops o s fun v m'=>(∀b,cf.av b→s.m b=m' b)∧k v m':=by
 unfold Db at *;split at h
 ·exact Qcl hx h
 ·split at h
  ·obtain⟨t,h1,h2⟩:=h;refine⟨t,h1,?_⟩;split
   ·rename_i ht;rw[if_pos ht]at h2;exact Qcl hx h2
   ·rename_i ht;rw[if_neg ht]at h2;exact⟨fun _ _=>rfl,h2⟩
  ·exact h
end
end Go.Av
end
section
namespace Go.Av
section
variable {P:Program} {cf:Dy} {ops:Array Oper}
theorem Ac.set_comm (m:Ac) {b c:Nat} (x y:Fb) (h:b≠c):(m.set b x).set c y=(m.set c y).set b x:=by
 funext k
 unfold Ac.set;by_cases h1:k=c
 ·subst h1;simp[Ne.symm h]
 ·by_cases h2:k=b
  ·subst h2;simp[h1]
  ·simp[h1,h2]
def zOk (P:Program) (ro:Nat→Bool) (o:Oper):Bool :=
 match o.op with
 |.alloc t =>
  match o.dst with
  |some d =>
   match Ai P t with
   |some ti=>(match ti.zero with | .any=>false | _=>true)&&(ro d || (ti.zero.cells.length==ti.size&&Nat.blt 0 ti.size&&ti.zero.cells.all AV.one))
   |none=>false
  |none=>false
 |_=>true
theorem Qkr {o:Oper} (hk:Br o=.z) (hz:zOk P cf.ro o=true) (s:St) :
  (∃v:AV,∀(m:Ac) (k:AV→Ac→Prop),Db P cf ops o {s with m:=m} k↔k v m)∨(∃(fv:Nat→AV) (x:Fb),∀(m:Ac) (k:AV→Ac→Prop),Db P cf ops o {s with m:=m} k↔∀b,m b=none→¬cf.av b→k (fv b) (m.set b x)):=by
 unfold Br at hk;split at hk<;>try cases hk
 ·rename_i t ho
  split at hk
  ·rename_i hg
   have hg':o.guard=none:=by simpa using hg
   unfold zOk at hz;simp only[ho]at hz;cases hd:o.dst with
   |none=>simp[hd]at hz
   |some d =>
    simp only[hd]at hz;cases ht:Ai P t with
    |none=>simp[ht]at hz
    |some ti =>
     simp only[ht,Bool.and_eq_true,Bool.or_eq_true,beq_iff_eq]at hz;obtain⟨hz1,hz2⟩:=hz;have hany:ti.zero≠.any:=by
      intro e;rw[e]at hz1;simp at hz1
     by_cases hro:cf.ro d=true
     ·left;refine⟨.rptr ti.zero.cells,fun m k=>?_⟩;simp[Db,hg',Fc,ho,ht,newVar,hany,hd,hro]
     ·right;have hz3:=hz2.resolve_left hro;refine⟨fun b=>.ptr b ti.size 0 0,⟨t,ti.size,[ti.zero]⟩,fun m k=>?_⟩;have h0:0<ti.size:=by simpa[Nat.blt_eq]using hz3.1.2
      simp only[Db,hg',Fc,ho,ht,newVar,hd,hro,Option.some.injEq,exists_eq_left',Bool.false_eq_true,if_false];exact⟨fun h=>h.2.2.2.2,fun h=>⟨hany,hz3.1.1,h0,hz3.2,h⟩⟩
  ·cases hk
 ·rename_i c ho
  split at hk<;>cases hk
theorem Ql5 (hdm:cf.dm=true) {o1 o2:Oper} (hc:(Br o1).comm (Br o2)=true) (hz1:Br o1=.z→zOk P cf.ro o1=true) (hz2:Br o2=.z→zOk P cf.ro o2=true) (s:St) (m0:Ac) (k:AV→AV→Ac→Prop)
  (h:Db P cf ops o1 {s with m:=m0} fun v1 m1=>Db P cf ops o2 {s with m:=m1} fun v2 m2=>k v1 v2 m2) :
  Db P cf ops o2 {s with m:=m0} fun v2 m2=>Db P cf ops o1 {s with m:=m2} fun v1 m1=>k v1 v2 m1:=by
 cases hk1:Br o1 with
 |q =>
  obtain⟨fo,f1,f2⟩:=Nu (P:=P) (cf:=cf) (ops:=ops) (o:=o1) (by rw[hk1];simp) (by rw[hk1];simp) hdm s;rw[hk1]at f1;rw[f2]at h;cases fo with
  |no=>exact h.elim
  |quiet ev =>
   obtain⟨v1,e1,e2⟩:=h;refine Bt (fun v2 m2 hk2=>?_) e2;rw[f2];exact⟨v1,by rw[←e1];exact f1 m2 m0,hk2⟩
  |new fv x=>rcases f1 with f1 | f1<;>cases f1
  |call f args=>cases f1
 |l =>
  have hx2:Br o2≠.x:=by
   intro e;rw[hk1,e]at hc;cases hc
  obtain⟨fo,f1,f2⟩:=Nu (P:=P) (cf:=cf) (ops:=ops) (o:=o1) (by rw[hk1];simp) (by rw[hk1];simp) hdm s;rw[hk1]at f1;rw[f2]at h;cases fo with
  |no=>exact h.elim
  |quiet ev =>
   obtain⟨v1,e1,e2⟩:=h;refine Bt (fun v2 m2 hk2=>?_) (Qid hx2 e2);rw[f2];refine⟨v1,?_,hk2.2⟩;rw[←e1];simp only[Hr.ok,if_true]at f1;exact(f1 m0 m2 hk2.1).symm
  |new fv x=>rcases f1 with f1 | f1<;>cases f1
  |call f args=>cases f1
 |a=>rw[hk1]at hc;cases hk2:Br o2<;>rw[hk2]at hc<;>cases hc
 |b=>rw[hk1]at hc;cases hk2:Br o2<;>rw[hk2]at hc<;>cases hc
 |x=>rw[hk1]at hc;cases hk2:Br o2<;>rw[hk2]at hc<;>cases hc
 |z =>
  have hk2:Br o2=.z:=by rw[hk1]at hc;cases hk2:Br o2<;>rw[hk2]at hc<;>first | rfl | cases hc
  rcases Qkr (P:=P) (cf:=cf) (ops:=ops) hk1 (hz1 hk1) s with⟨v1,q1⟩|⟨fv1,x1,q1⟩
  ·rw[q1]at h;refine Bt (fun v2 m2 hk2=>?_) h;rw[q1];exact hk2
  ·rw[q1]at h;rcases Qkr (P:=P) (cf:=cf) (ops:=ops) hk2 (hz2 hk2) s with⟨v2,q2⟩ | ⟨fv2,x2,q2⟩
   ·rw[q2,q1];intro b h1 h2;have:=h b h1 h2
    rwa [q2]at this
   ·rw[q2];intro b2 h1 h2;rw[q1];intro b1 h3 h4;have hne:b1≠b2:=by
     intro e;subst e;rw[Ac.set_same]at h3;cases h3
    rw[Ac.set_other _ _ hne]at h3;have:=h b1 h3 h4;rw[q2]at this;have:=this b2 (by rw[Ac.set_other _ _ (Ne.symm hne)];exact h1) h2
    rwa [Ac.set_comm _ _ _ hne]at this
 |c =>
  have hk2:Br o2=.z:=by rw[hk1]at hc;cases hk2:Br o2<;>rw[hk2]at hc<;>first | rfl | cases hc
  obtain⟨fo,f1,f2⟩:=Nu (P:=P) (cf:=cf) (ops:=ops) (o:=o1) (by rw[hk1];simp) (by rw[hk1];simp) hdm s;rw[hk1]at f1;rw[f2]at h;cases fo with
  |no=>exact h.elim
  |quiet ev =>
   obtain⟨v1,e1,e2⟩:=h;refine Bt (fun v2 m2 hk2=>?_) e2;rw[f2];refine⟨v1,?_,hk2⟩;rw[←e1];exact f1 m2 m0
  |new fv x=>rcases f1 with f1 | f1<;>cases f1
  |call f args =>
   replace h:Aa P cf.av f args m0 fun v1 m1=>Db P cf ops o2 {s with m:=m1} fun v2 m2=>k v1 v2 m2:=h;rcases Qkr (P:=P) (cf:=cf) (ops:=ops) hk2 (hz2 hk2) s with⟨v2,q2⟩ | ⟨fv2,x2,q2⟩
   ·rw[q2,f2];refine Aa.mono (show Aa P cf.av f args m0 _ from h) fun v1 m1 hk1=>?_
    rwa [q2]at hk1
   ·rw[q2];intro b2 h1 h2;rw[f2];show Aa P cf.av f args (m0.set b2 x2) _
    have hne:∀b y,m0 b=some y→b≠b2:=by
     intro b y hb e;subst e;rw[h1]at hb;cases hb
    rcases h with⟨g,R,g1,g2,g3⟩|⟨args',R,g1,g2,g3⟩
    ·have hgb:g b2=none:=by
      cases hg:g b2 with
      |none=>rfl
      |some y=>exact absurd rfl (hne b2 y (g1 b2 y hg).1)
     refine .inl ⟨g,R,fun b y hb=>⟨?_,(g1 b y hb).2⟩,g2,fun v1 g' hr hf=>?_⟩
     ·have:=g1 b y hb;rw[Ac.set_other _ _ (hne b y this.1)];exact this.1
     ·have hg'b:g' b2=none:=by
       cases hg:g' b2 with
       |none=>rfl
       |some y =>
        rcases hf b2 (by rw[hg];simp)with q|q
        ·exact absurd hgb q
        ·rw[Ac.set_same]at q;cases q.1
      have hf':∀b,g' b≠none→g b≠none∨(m0 b=none∧¬cf.av b):=by
       intro b hb;have hbb:b≠b2:=by intro e;subst e;exact hb hg'b
       have:=hf b hb
       rwa [Ac.set_other _ _ hbb]at this
      have:=g3 v1 g' hr hf';simp only[q2]at this;have:=this b2 (by simp[Ff,hgb,hg'b,h1]) h2;have e:Ff (m0.set b2 x2) g g'=(Ff m0 g g').set b2 x2:=by
       funext b
       by_cases hb:b=b2
       ·subst hb;rw[Ac.set_same];simp[Ff,hgb,hg'b,Ac.set_same]
       ·rw[Ac.set_other _ _ hb];simp only[Ff,Ac.set_other _ _ hb]
      simp only[e];exact this
    ·refine .inr ⟨args',R,⟨g1.1,fun j u u' hu hu'=>?_⟩,g2,fun v1 g' hr=>⟨(g3 v1 g' hr).1,?_⟩⟩
     ·have:=g1.2 j u u' hu hu'
      -- what is looked at is still there
      have mono:∀{a a':AV},B2 m0 Ac.emp a a'→B2 (m0.set b2 x2) Ac.emp a a':=by
       intro a a' hv
       induction hv with
       |same a=>exact .same a
       |forget a h=>exact .forget a h
       |nilsl z=>exact .nilsl z
       |osl b z i n x l' hx hb hz hl hn hv ih=>exact .osl b z i n x l' (by rw[Ac.set_other _ _ (hne b x hx)];exact hx) hb hz hl hn ih
       |ptr b z i j x v hx hb hz hv=>exact .ptr b z i j x v (by rw[Ac.set_other _ _ (hne b x hx)];exact hx) hb hz hv
       |agg cs cs' hl hv ih=>exact .agg cs cs' hl ih
       |tup cs cs' hl hv ih=>exact .tup cs cs' hl ih
      exact mono this
     ·have:=(g3 v1 g' hr).2;simp only[q2]at this;exact this b2 h1 h2
theorem St.put_comm (s:St) {d1 d2:Option Tmp} (v1 v2:AV) (h:∀d,d1=some d→d2≠some d):(s.put d1 v1).put d2 v2=(s.put d2 v2).put d1 v1:=by
 cases d1 with
 |none=>rfl
 |some d1 =>
  cases d2 with
  |none=>rfl
  |some d2 =>
   have hne:d1≠d2:=fun e=>h d1 rfl (by rw[e]);unfold St.put;simp only[St.mk.injEq,and_true,true_and]
   funext t
   by_cases h1:t=d2
   ·subst h1;simp[Ne.symm hne]
   ·simp[h1]
theorem St.put2_mem (s:St) (d1 d2:Option Tmp) (v1 v2:AV) (m m':Ac):({({s with m:=m}:St).put d1 v1 with m:=m'}:St).put d2 v2=(({s with m:=m'}:St).put d1 v1).put d2 v2:=by cases d1<;>cases d2<;>rfl
theorem Yh (hdm:cf.dm=true) {o1 o2:Oper} (hap:o1.apart ops o2=true) (hc:(Br o1).comm (Br o2)=true) (hz1:Br o1=.z→zOk P cf.ro o1=true) (hz2:Br o2=.z→zOk P cf.ro o2=true) {K:St→Prop} {s:St}
  (h:Cr P cf ops o1 (Cr P cf ops o2 K) s):Cr P cf ops o2 (Cr P cf ops o1 K) s:=by
 obtain⟨a1,a2,a3⟩:=Oper.apart_spec hap;unfold Cr at *;have h':Db P cf ops o1 {s with m:=s.m} fun v1 m1=>Db P cf ops o2 {s with m:=m1} fun v2 m2=>K (({s with m:=m2}.put o1.dst v1).put o2.dst v2):=by
  refine Bt (fun v1 m1 hk=>?_) h;rw[Qf (fun d hd=>a1 d hd)]at hk;refine Bt (fun v2 m2 hk2=>?_) hk;rw[St.put2_mem]at hk2;exact hk2
 refine Bt (fun v2 m2 hk=>?_) (Ql5 hdm hc hz1 hz2 s s.m _ h');rw[Qf (fun d hd=>a3 d hd)];refine Bt (fun v1 m1 hk1=>?_) hk;rw[St.put_comm _ _ _ a2]at hk1;rw[St.put2_mem];exact hk1
theorem Ji (o:Oper) (s:St):(∀(m:Ac) (k:AV→Ac→Prop),Db P cf ops o {s with m:=m} k↔Fc P cf o {s with m:=m} k)∨(∀(m:Ac) (k:AV→Ac→Prop),Db P cf ops o {s with m:=m} k↔k (.tup []) m)∨(∀(m:Ac) (k:AV→Ac→Prop),¬Db P cf ops o {s with m:=m} k):=by
 unfold Db;cases hg:o.guard with
 |none=>exact .inl fun _ _=>Iff.rfl
 |some g =>
  obtain⟨j,want⟩:=g;simp only;cases hd:(ops[j]?).bind (·.dst)with
  |none=>exact .inr (.inr fun _ _ h=>h)
  |some d =>
   simp only;by_cases hr:∃t,Nb (s.r d) want=some t
   ·obtain⟨t,hr⟩:=hr;by_cases ht:t=true
    ·refine .inl fun m k=>⟨fun h=>?_,fun h=>⟨t,hr,by rw[if_pos ht];exact h⟩⟩;obtain⟨t',e1,e2⟩:=h;rw[hr]at e1;cases e1;rw[if_pos ht]at e2;exact e2
    ·refine .inr (.inl fun m k=>⟨fun h=>?_,fun h=>⟨t,hr,by rw[if_neg ht];exact h⟩⟩);obtain⟨t',e1,e2⟩:=h;rw[hr]at e1;cases e1;rw[if_neg ht]at e2;exact e2
   ·refine .inr (.inr fun m k h=>?_);obtain⟨t,e1,_⟩:=h;exact hr ⟨t,e1⟩
/-! ### Cells that stand in different blocks -/
structure Iu where
 pr:Nat→Bool
 rp:Nat→Bool
 wo:Nat→Bool
def Iu.no:Iu:=⟨fun _=>false,fun _=>false,fun _=>false⟩
structure Kq (q:Iu) (blk:Nat→Nat) (av:Nat→Prop) (s:St):Prop where
 own:∀r,q.pr r=true→∀b z i j,s.r r=.ptr b z i j→b=blk r
 ne:∀r r',q.pr r=true→q.pr r'=true→r≠r'→blk r≠blk r'
 ro:∀r,q.rp r=true→∀b z i j,s.r r≠.ptr b z i j
 un:∀r,q.wo r=true→∀b z i j,s.r r=.ptr b z i j→¬av b
def Wr (q:Iu) (o1 o2:Oper):Bool :=
 match o1.op,o2.op with
 |.load _ (.tmp r1),.store _ (.tmp r2) _=>q.rp r1 || q.wo r2 || (q.pr r1&&q.pr r2&&r1 != r2)
 |.store _ (.tmp r1) _,.load _ (.tmp r2)=>q.rp r2 || q.wo r1 || (q.pr r1&&q.pr r2&&r1 != r2)
 |.store _ (.tmp r1) _,.store _ (.tmp r2) _=>q.pr r1&&q.pr r2&&r1 != r2
 |_,_=>false
def K8 (q:Iu) (o:Oper):Bool:=match o.dst with
 |some d=>!q.pr d&&!q.wo d&&(!q.rp d || (match o.op with | .fieldAddr _ (.tmp r) _=>q.rp r | _=>false))
 |none=>true
theorem Zj {ti:TI} {f:Nat} {a v:AV} (ha:∀b z i j,a≠.ptr b z i j) (h:Dd ti f a=some v):∀b z i j,v≠.ptr b z i j:=by
 intro b z i j e;subst e;unfold Dd at h;split at h
 ·split at h
  ·cases h
  ·cases a with
   |ptr b' z' i' j'=>exact ha _ _ _ _ rfl
   |_=>simp_all
 ·cases h
theorem Kq.step {q:Iu} {blk:Nat→Nat} {s:St} (h:Kq q blk cf.av s) {o:Oper} (hd:K8 q o=true) {k:AV→Ac→Prop} (he:Db P cf ops o s k):Db P cf ops o s fun v m=>Kq q blk cf.av ({s with m:=m}.put o.dst v)∧k v m:=by
 have other:(∀d,o.dst=some d→q.rp d=false)→Db P cf ops o s fun v m=>Kq q blk cf.av ({s with m:=m}.put o.dst v)∧k v m:=by
  intro hnr;refine Bt (fun v m hk=>⟨?_,hk⟩) he;unfold K8 at hd;cases ho:o.dst with
  |none=>exact⟨h.own,h.ne,h.ro,h.un⟩
  |some d =>
   rw[ho]at hd;have hnr:=hnr d ho;simp only[hnr,Bool.not_false,Bool.true_or,Bool.and_true,Bool.and_eq_true,Bool.not_eq_true']at hd;have hput:∀r,r≠d→(({s with m:=m}:St).put (some d) v).r r=s.r r:=fun r hr=>by simp[St.put,hr]
   refine⟨fun r hr b z i j he=>?_,h.ne,fun r hr b z i j he=>?_,fun r hr b z i j he=>?_⟩
   ·by_cases hrd:r=d
    ·subst hrd;rw[hd.1]at hr;cases hr
    ·rw[hput r hrd]at he;exact h.own r hr b z i j he
   ·by_cases hrd:r=d
    ·subst hrd;rw[hnr]at hr;cases hr
    ·rw[hput r hrd]at he;exact h.ro r hr b z i j he
   ·by_cases hrd:r=d
    ·subst hrd;rw[hd.2]at hr;cases hr
    ·rw[hput r hrd]at he;exact h.un r hr b z i j he
 cases ho:o.dst with
 |none=>rw[←ho];exact other (fun d hd'=>by rw[ho]at hd';cases hd')
 |some d =>
  rw[←ho];cases hrp:q.rp d with
  |false=>exact other (fun d' hd'=>by rw[ho]at hd';cases hd';exact hrp)
  |true =>
   unfold K8 at hd;rw[ho]at hd;simp only[hrp,Bool.not_true,Bool.false_or,Bool.and_eq_true,Bool.not_eq_true']at hd;obtain⟨⟨hd1,hd2⟩,hd3⟩:=hd;split at hd3
   ·rename_i t r f hop
    have hput:∀(m:Ac) (v:AV) (r:Nat),r≠d→(({s with m:=m}:St).put (some d) v).r r=s.r r:=fun m v r hr=>by simp[St.put,hr]
    have hval:∀(m:Ac) (v:AV),(({s with m:=m}:St).put (some d) v).r d=v:=fun m v=>by simp[St.put]
    have key:∀(v:AV) (m:Ac),(∀b z i j,v≠.ptr b z i j)→Kq q blk cf.av ({s with m:=m}.put o.dst v):=by
     intro v m hv;rw[ho];refine⟨fun r hr b z i j he=>?_,h.ne,fun r hr b z i j he=>?_,fun r hr b z i j he=>?_⟩
     ·by_cases hrd:r=d
      ·subst hrd;rw[hd1]at hr;cases hr
      ·rw[hput m v r hrd]at he;exact h.own r hr b z i j he
     ·by_cases hrd:r=d
      ·subst hrd;rw[hval]at he;exact hv b z i j he
      ·rw[hput m v r hrd]at he;exact h.ro r hr b z i j he
     ·by_cases hrd:r=d
      ·subst hrd;rw[hd2]at hr;cases hr
      ·rw[hput m v r hrd]at he;exact h.un r hr b z i j he
    have he':Db P cf ops o {s with m:=s.m} k:=he;show Db P cf ops o {s with m:=s.m} _
    have heff:∀k':AV→Ac→Prop,Fc P cf o s k'↔Ea ((Ai P t).bind fun ti=>Dd ti f (s.r r)) fun v=>k' v s.m:=by
     intro k';unfold Fc;simp only[hop];unfold Rq;simp only[hop];exact Iff.rfl
    rcases Ji (P:=P) (cf:=cf) (ops:=ops) o s with c1|c1|c1
    ·rw[c1]at he' ⊢;have he2:=(heff _).1 he';refine(heff _).2 ?_;obtain⟨v,e1,e2⟩:=he2;refine⟨v,e1,key v s.m ?_,e2⟩;cases ht:Ai P t with
     |none=>simp[ht]at e1
     |some ti =>
      simp only[ht,Option.bind_some]at e1;exact Zj (h.ro r hd3) e1
    ·rw[c1]at he' ⊢;exact⟨key (.tup []) s.m (fun _ _ _ _ e=>by cases e),he'⟩
    ·exact(c1 _ _ he').elim
   ·cases hd3
theorem Px {m:Ac} {b:Nat} {x:Fb} {ti:TI} {a:AV} (h:∀b' z i j,a=.ptr b' z i j→b'≠b):Gb (m.set b x) ti a=Gb m ti a:=by
 cases a with
 |ptr b' z i j =>
  have:=h b' z i j rfl;unfold Gb;simp only[Ac.set_other _ _ this]
 |_=>rfl
theorem Zp (hdm:cf.dm=true) {q:Iu} {blk:Nat→Nat} {o1 o2:Oper} (hs:Wr q o1 o2=true) {s:St} (hsep:Kq q blk cf.av s) (m0:Ac) (k:AV→AV→Ac→Prop)
  (h:Fc P cf o1 {s with m:=m0} fun v1 m1=>Fc P cf o2 {s with m:=m1} fun v2 m2=>k v1 v2 m2) :
  Fc P cf o2 {s with m:=m0} fun v2 m2=>Fc P cf o1 {s with m:=m2} fun v1 m1=>k v1 v2 m1:=by
 have hev:∀(m:Ac) (x:Operand),({s with m:=m}:St).ev x=s.ev x:=fun m x=>by cases x<;>rfl
 unfold Wr at hs;split at hs
 ·rename_i t1 r1 t2 r2 v ho1 ho2
  simp only[Bool.or_eq_true,Bool.and_eq_true,bne_iff_ne]at hs;unfold Fc at h ⊢;simp only[ho1,ho2,Rq,hev]at h ⊢;obtain⟨g1,v1,g2,ti,b,z,i,j,bk,old,e1,e2,e3,e4,e5,e6,e7,e8,e9⟩:=h;refine⟨ti,b,z,i,j,bk,old,e1,e2,e3,e4,e5,e6,e7,e8,g1,v1,?_,e9⟩;rw[←g2]
  congr 1
  funext ti'
  refine Px fun b' z' i' j' hb'=>?_;rcases hs with(h1 | h1) | ⟨⟨h1,h2⟩,h3⟩
  ·exact absurd hb' (hsep.ro r1 h1 _ _ _ _)
  ·have g3:=g1 hdm;simp only[hb']at g3;intro e;subst e;exact hsep.un r2 h1 _ _ _ _ e2 g3
  ·have q1:=hsep.own r1 h1 _ _ _ _ hb';have q2:=hsep.own r2 h2 _ _ _ _ e2;rw[q1,q2];exact hsep.ne r1 r2 h1 h2 h3
 ·rename_i t1 r1 v t2 r2 ho1 ho2
  simp only[Bool.or_eq_true,Bool.and_eq_true,bne_iff_ne]at hs;unfold Fc at h ⊢;simp only[ho1,ho2,Rq,hev]at h ⊢;obtain⟨ti,b,z,i,j,bk,old,e1,e2,e3,e4,e5,e6,e7,e8,g1,v2,g2,e9⟩:=h;refine⟨g1,v2,?_,ti,b,z,i,j,bk,old,e1,e2,e3,e4,e5,e6,e7,e8,e9⟩;rw[←g2]
  congr 1
  funext ti'
  refine(Px fun b' z' i' j' hb'=>?_).symm;rcases hs with(h1 | h1) | ⟨⟨h1,h2⟩,h3⟩
  ·exact absurd hb' (hsep.ro r2 h1 _ _ _ _)
  ·have g3:=g1 hdm;simp only[hb']at g3;intro e;subst e;exact hsep.un r1 h1 _ _ _ _ e2 g3
  ·have q1:=hsep.own r2 h2 _ _ _ _ hb';have q2:=hsep.own r1 h1 _ _ _ _ e2;rw[q1,q2];exact Ne.symm (hsep.ne r1 r2 h1 h2 h3)
 ·rename_i t1 r1 v1 t2 r2 v2 ho1 ho2
  simp only[Bool.and_eq_true,bne_iff_ne]at hs;obtain⟨⟨h1,h2⟩,h3⟩:=hs;have hne:=hsep.ne r1 r2 h1 h2 h3;unfold Fc at h ⊢;simp only[ho1,ho2,hev]at h ⊢;obtain⟨ti,b,z,i,j,bk,old,e1,e2,e3,e4,e5,e6,e7,e8,ti',b',z',i',j',bk',old',f1,f2,f3,f4,f5,f6,f7,f8,f9⟩:=h;have q1:=hsep.own r1 h1 _ _ _ _ e2;have q2:=hsep.own r2 h2 _ _ _ _ f2;have hbb:b≠b':=by rw[q1,q2];exact hne
  rw[Ac.set_other _ _ (Ne.symm hbb)]at f3;refine⟨ti',b',z',i',j',bk',old',f1,f2,f3,f4,f5,f6,f7,f8,ti,b,z,i,j,bk,old,e1,e2,?_,e4,e5,e6,e7,e8,?_⟩
  ·rw[Ac.set_other _ _ hbb];exact e3
  ·rw[Ac.set_comm _ _ _ hbb]at f9;exact f9
 ·cases hs
theorem Qlf {q:Iu} {o1 o2:Oper} (hs:Wr q o1 o2=true) {s:St} {k:AV→Ac→Prop} (h:Fc P cf o1 s k):∃v m,k v m:=by
 unfold Wr at hs;split at hs
 ·rename_i t1 r1 t2 r2 v ho1 ho2
  unfold Fc at h;simp only[ho1]at h;obtain⟨g1,v1,g2,g3⟩:=h;exact⟨_,_,g3⟩
 ·rename_i t1 r1 v t2 r2 ho1 ho2
  unfold Fc at h;simp only[ho1]at h;obtain⟨ti,b,z,i,j,bk,old,e1,e2,e3,e4,e5,e6,e7,e8,e9⟩:=h;exact⟨_,_,e9⟩
 ·rename_i t1 r1 v1 t2 r2 v2 ho1 ho2
  unfold Fc at h;simp only[ho1]at h;obtain⟨ti,b,z,i,j,bk,old,e1,e2,e3,e4,e5,e6,e7,e8,e9⟩:=h;exact⟨_,_,e9⟩
 ·cases hs
theorem Qde (hdm:cf.dm=true) {q:Iu} {blk:Nat→Nat} {o1 o2:Oper} (hs:Wr q o1 o2=true) {s:St} (hsep:Kq q blk cf.av s) (m0:Ac) (k:AV→AV→Ac→Prop)
  (h:Db P cf ops o1 {s with m:=m0} fun v1 m1=>Db P cf ops o2 {s with m:=m1} fun v2 m2=>k v1 v2 m2) :
  Db P cf ops o2 {s with m:=m0} fun v2 m2=>Db P cf ops o1 {s with m:=m2} fun v1 m1=>k v1 v2 m1:=by
 rcases Ji (P:=P) (cf:=cf) (ops:=ops) o1 s with c1|c1|c1
 ·rcases Ji (P:=P) (cf:=cf) (ops:=ops) o2 s with c2|c2|c2
  ·simp only[c1,c2]at h ⊢;exact Zp hdm hs hsep m0 k h
  ·simp only[c1,c2]at h ⊢;exact h
  ·rw[c1]at h;obtain⟨v,m,hk⟩:=Qlf hs h;exact(c2 _ _ hk).elim
 ·rcases Ji (P:=P) (cf:=cf) (ops:=ops) o2 s with c2|c2|c2
  ·simp only[c1,c2]at h ⊢;exact h
  ·simp only[c1,c2]at h ⊢;exact h
  ·rw[c1]at h;exact(c2 _ _ h).elim
 ·exact(c1 _ _ h).elim
theorem Mp {o1 o2:Oper} (hap:o1.apart ops o2=true) {K:St→Prop} {s:St}
  (hsw:∀k:AV→AV→Ac→Prop,(Db P cf ops o1 {s with m:=s.m} fun v1 m1=>Db P cf ops o2 {s with m:=m1} fun v2 m2=>k v1 v2 m2)→Db P cf ops o2 {s with m:=s.m} fun v2 m2=>Db P cf ops o1 {s with m:=m2} fun v1 m1=>k v1 v2 m1)
  (h:Cr P cf ops o1 (Cr P cf ops o2 K) s):Cr P cf ops o2 (Cr P cf ops o1 K) s:=by
 obtain⟨a1,a2,a3⟩:=Oper.apart_spec hap;unfold Cr at *;have h':Db P cf ops o1 {s with m:=s.m} fun v1 m1=>Db P cf ops o2 {s with m:=m1} fun v2 m2=>K (({s with m:=m2}.put o1.dst v1).put o2.dst v2):=by
  refine Bt (fun v1 m1 hk=>?_) h;rw[Qf (fun d hd=>a1 d hd)]at hk;refine Bt (fun v2 m2 hk2=>?_) hk;rw[St.put2_mem]at hk2;exact hk2
 refine Bt (fun v2 m2 hk=>?_) (hsw _ h');rw[Qf (fun d hd=>a3 d hd)];refine Bt (fun v1 m1 hk1=>?_) hk;rw[St.put_comm _ _ _ a2]at hk1;rw[St.put2_mem];exact hk1
def I4 (ops:Array Oper):Nat→Nat→Nat→Bool
 |0,_,_=>false
 |f+1,i,j =>
  match ops[i]? with
  |some o=>o.after.toList.any (fun e=>Region.binds .any e&&e.on==j) || o.after.toList.any (fun e=>Region.binds .any e&&I4 ops f e.on j)
  |none=>false
def Nn (ops:Array Oper) (listed:Array Bool):Prop:=∀i o,ops[i]?=some o→listed.getD i true=true→∀e∈o.after.toList,Region.binds .any e=true→listed.getD e.on false=true
theorem Lf {listed:Array Bool} (hsz:listed.size=ops.size) (hc:Nn ops listed):∀(f i j:Nat),(∀o,ops[i]?=some o→∀e∈o.after.toList,Region.binds .any e=true→listed.getD e.on false=true)→I4 ops f i j=true→listed.getD j false=true
 |0,_,_,_,h=>by cases h
 |f+1,i,j,hi,h=>by
  unfold I4 at h;split at h
  ·rename_i o ho
   rw[Bool.or_eq_true,List.any_eq_true,List.any_eq_true]at h;rcases h with⟨e,he,hb⟩ | ⟨e,he,hb⟩
   ·rw[Bool.and_eq_true,beq_iff_eq]at hb;rw[←hb.2];exact hi o ho e he hb.1
   ·rw[Bool.and_eq_true]at hb;have hl:=hi o ho e he hb.1;refine Lf hsz hc f e.on j (fun o' ho' e' he' hb'=>hc e.on o' ho' ?_ e' he' hb') hb.2;have hlt:e.on<listed.size:=by
     rcases Nat.lt_or_ge e.on listed.size with h'|h'
     ·exact h'
     ·rw[Array.getD_eq_getD_getElem?,Array.getElem?_eq_none h']at hl;cases hl
    rw[Array.getD_eq_getD_getElem?,Array.getElem?_eq_getElem hlt]at hl ⊢;exact hl
  ·cases h
def Cm (P:Program) (cf:Dy) (ops:Array Oper):List Nat→(St→Prop)→St→Prop
 |[],K,s=>K s
 |i::rest,K,s =>
  match ops[i]? with
  |some o=>Cr P cf ops o (Cm P cf ops rest K) s
  |none=>False
def Wv (P:Program) (ro:Nat→Bool) (q:Iu) (ops:Array Oper) (j i:Nat):Bool :=
 match ops[j]?,ops[i]? with
 |some oj,some oi=>oj.apart ops oi&&((Br oj).comm (Br oi)&&(Br oj != .z || zOk P ro oj)&&(Br oi != .z || zOk P ro oi) || Wr q oj oi)
 |_,_=>false
theorem Qs6 (hdm:cf.dm=true) {q:Iu} {blk:Nat→Nat} (hdst:∀(i:Nat) (o:Oper),ops[i]?=some o→K8 q o=true) {i:Nat} {K:St→Prop}:∀(R1 R2:List Nat) (s:St),Kq q blk cf.av s→(∀j∈R1,Wv P cf.ro q ops j i=true)→Cm P cf ops (R1++i::R2) K s→Cm P cf ops (i::(R1++R2)) K s
 |[],R2,s,_,_,h=>h
 |j::R1,R2,s,hsep,hp,h=>by
  have hj:=hp j (by simp);unfold Wv at hj;simp only[List.cons_append]at h ⊢;unfold Cm at h;split at h
  ·rename_i oj hoj
   simp only[hoj]at hj;cases hoi:ops[i]? with
   |none=>simp[hoi]at hj
   |some oi =>
    simp only[hoi,Bool.and_eq_true,Bool.or_eq_true,bne_iff_ne]at hj;obtain⟨p1,p2⟩:=hj;have h2:Cr P cf ops oj (Cr P cf ops oi (Cm P cf ops (R1++R2) K)) s:=by
     refine Bt (fun v m hk=>?_) (hsep.step (hdst j oj hoj) h);have:=Qs6 hdm hdst R1 R2 _ hk.1 (fun j' hj'=>hp j' (by simp[hj'])) hk.2;unfold Cm at this;simpa only[hoi]using this
    have h3:Cr P cf ops oi (Cr P cf ops oj (Cm P cf ops (R1++R2) K)) s:=by
     rcases p2 with⟨⟨p2,p3⟩,p4⟩|p2
     ·exact Yh hdm p1 p2 (fun e=>p3.resolve_left (fun h=>h e)) (fun e=>p4.resolve_left (fun h=>h e)) h2
     ·exact Mp p1 (fun k hk=>Qde hdm p2 hsep s.m k hk) h2
    unfold Cm;simp only[hoi];refine Bt (fun v m hk=>?_) h3;unfold Cm;simpa only[hoj]using hk
  ·exact h.elim
def Ii (P:Program) (ro:Nat→Bool) (q:Iu) (ops:Array Oper) (plan:List Nat):Bool :=
 ops.toList.all (K8 q)&&(
 (List.range ops.size).all (fun i=>plan.contains i)&&plan.all (fun i=>Nat.blt i ops.size)&&decide (plan.Nodup∧plan.length≤ops.size) &&
 (plan.zipIdx.all fun(i,k)=>(plan.take k).all fun j=>!I4 ops ops.size j i&&(I4 ops ops.size i j || Wv P ro q ops j i)) &&
 ops.toList.zipIdx.all fun(o,i)=>o.after.toList.all fun e=>!Region.binds .any e || (Nat.blt e.on ops.size&&e.on != i))
def Jm (P:Program) (ro:Nat→Bool) (ops:Array Oper) (plan:List Nat):Bool:=Ii P ro Iu.no ops plan
def N6 (P:Program) (cf:Dy) (ops:Array Oper) (K:St→Prop):Nat→Array Bool→St→Prop
 |0,listed,s=>Region.ready .any ops listed=[]∧K s
 |fuel+1,listed,s=>(Region.ready .any ops listed=[]→K s)∧∀i∈Region.ready .any ops listed,match ops[i]? with
  |some o=>Cr P cf ops o (N6 P cf ops K fuel (listed.setIfInBounds i true)) s
  |none=>False
theorem Ei {listed:Array Bool} {i:Nat}:i∈Region.ready .any ops listed↔i<ops.size∧listed.getD i true=false∧∀o,ops[i]?=some o→∀e∈o.after.toList,Region.binds .any e=true→listed.getD e.on false=true:=by
 unfold Region.ready;rw[List.mem_filter,List.mem_range];refine and_congr_right fun hi=>?_;have ho:ops[i]?=some ops[i]:=Array.getElem?_eq_getElem hi;rw[ho];simp only[Option.map_some,Option.getD_some,Bool.and_eq_true,Bool.not_eq_true',Option.some.injEq,forall_eq'];refine and_congr_right fun _=>?_;rw[←Array.all_toList,List.all_eq_true];refine forall_congr' fun e=>forall_congr' fun _=>?_;cases Region.binds .any e<;>simp
theorem F8 {listed:Array Bool} {i j:Nat} {d:Bool} (hi:i<listed.size):(listed.setIfInBounds i true).getD j d=if j=i then true else listed.getD j d:=by
 simp only[Array.getD_eq_getD_getElem?,Array.getElem?_setIfInBounds];by_cases h:j=i
 ·subst h;simp[hi]
 ·simp[h,Ne.symm h]
theorem Su (hdm:cf.dm=true) {q:Iu} {blk:Nat→Nat} {plan:List Nat} (hp:Ii P cf.ro q ops plan=true) {K:St→Prop}:∀(fuel:Nat) (listed:Array Bool) (s:St),Kq q blk cf.av s→listed.size=ops.size→Nn ops listed →
  (plan.filter fun i=>!listed.getD i true).length≤fuel→Cm P cf ops (plan.filter fun i=>!listed.getD i true) K s→N6 P cf ops K fuel listed s:=by
 unfold Ii at hp;simp only[Bool.and_eq_true]at hp;obtain⟨p0,⟨⟨⟨p1,p2⟩,p3⟩,p4⟩,p5⟩:=hp;have hdst:∀(i:Nat) (o:Oper),ops[i]?=some o→K8 q o=true:=fun i o ho=>List.all_eq_true.1 p0 o (List.mem_of_getElem? (by rw[Array.getElem?_toList];exact ho));have hnd:plan.Nodup:=(of_decide_eq_true p3).1;have hall:∀i,i<ops.size→i∈plan:=fun i hi=>by
  have:=List.all_eq_true.1 p1 i (List.mem_range.2 hi);simpa using this
 have hlt:∀i∈plan,i<ops.size:=fun i hi=>by
  have:=List.all_eq_true.1 p2 i hi;simpa[Nat.blt_eq]using this
 have hpair:∀R1 R2 i,plan=R1++i::R2→∀j∈R1,I4 ops ops.size j i=false∧(I4 ops ops.size i j=true∨Wv P cf.ro q ops j i=true):=by
  intro R1 R2 i hpl j hj;have h1:=List.all_eq_true.1 p4 (i,R1.length) (by
   rw[List.mem_iff_getElem?];refine⟨R1.length,?_⟩;rw[List.getElem?_zipIdx,hpl];simp)
  have h2:=List.all_eq_true.1 h1 j (by simp[hpl,hj]);simpa using h2
 have hedge:∀i o,ops[i]?=some o→∀e∈o.after.toList,Region.binds .any e=true→e.on<ops.size∧e.on≠i:=by
  intro i o ho e he hb;have h1:=List.all_eq_true.1 p5 (o,i) (by
   rw[List.mem_iff_getElem?];refine⟨i,?_⟩;rw[List.getElem?_zipIdx,Array.getElem?_toList,ho];simp)
  have h2:=List.all_eq_true.1 h1 e he;simpa[hb,Nat.blt_eq]using h2
 -- with nothing ready all has been done
 have hdone:∀(listed:Array Bool),listed.size=ops.size→Region.ready .any ops listed=[]→(plan.filter fun i=>!listed.getD i true)=[]:=by
  intro listed hsz hr;cases hf:plan.filter fun i=>!listed.getD i true with
  |nil=>rfl
  |cons h rest =>
   exfalso
   have hmem:h∈plan.filter fun i=>!listed.getD i true:=by rw[hf];simp
   have hh:=List.mem_filter.1 hmem;have hready:h∈Region.ready .any ops listed:=by
    rw[Ei];refine⟨hlt h hh.1,by simpa using hh.2,fun o ho e he hb=>?_⟩;obtain⟨e1,e2⟩:=hedge h o ho e he hb
    -- what is needed stands ahead in the plan
    cases hl:listed.getD e.on false with
    |true=>rfl
    |false =>
     exfalso
     have hl':listed.getD e.on true=false:=by
      rw[Array.getD_eq_getD_getElem?,Array.getElem?_eq_getElem (by rw[hsz];exact e1)]at hl ⊢;exact hl
     have hin:e.on∈plan.filter fun i=>!listed.getD i true:=List.mem_filter.2 ⟨hall _ e1,by simp[hl']⟩;rw[hf]at hin;have hin2:e.on∈rest:=by
      rcases List.mem_cons.1 hin with q|q
      ·exact absurd q e2
      ·exact q
     -- h stands ahead of e.on in the plan,yet needs it
     obtain⟨A,B,hAB⟩:=List.append_of_mem hin2;have hsub:List.Sublist (h::e.on::[]) plan:=by
      have s1:List.Sublist (h::e.on::[]) (h::rest):=by
       rw[hAB];exact List.Sublist.cons_cons h ((List.Sublist.cons_cons e.on (List.nil_sublist B)).trans (List.sublist_append_right A _))
      rw[←hf]at s1;exact s1.trans List.filter_sublist
     obtain⟨R1,R2,q1⟩:=List.append_of_mem (hall _ e1);have hin1:h∈R1:=by
      rw[q1]at hsub hnd;have:=hnd;rw[List.nodup_append]at this;obtain⟨n1,n2,n3⟩:=this;rcases List.sublist_append_iff.1 hsub with⟨l1,l2,hl12,s1,s2⟩
      cases l1 with
      |cons x xs =>
       have:x=h:=by simp at hl12;exact hl12.1.symm
       subst this;exact s1.subset (by simp)
      |nil =>
       simp at hl12;subst hl12;have hn2:=List.nodup_cons.1 n2;rcases List.sublist_cons_iff.1 s2 with s3 | ⟨r,hr',s3⟩
       ·exact absurd (s3.subset (by simp)) hn2.1
       ·simp at hr';obtain⟨hh1,hh2⟩:=hr';exact absurd hh1.symm (by intro q;exact e2 q)
     have:=(hpair R1 R2 e.on q1 h hin1).1;have hreach:I4 ops ops.size h e.on=true:=by
      have hpos:0<ops.size:=by omega
      obtain⟨f,hf'⟩:∃f,ops.size=f+1:=⟨ops.size-1,by omega⟩;rw[hf'];unfold I4;rw[ho];simp only[Bool.or_eq_true,List.any_eq_true];exact .inl ⟨e,he,by simp[hb]⟩
     rw[hreach]at this;cases this
   rw[hr]at hready;cases hready
 intro fuel
 induction fuel with
 |zero =>
  intro listed s hsep hsz hc hle hk;have hnil:(plan.filter fun i=>!listed.getD i true)=[]:=List.eq_nil_of_length_eq_zero (by omega);refine⟨?_,by rw[hnil]at hk;exact hk⟩;cases hr:Region.ready .any ops listed with
  |nil=>rfl
  |cons i rest =>
   exfalso
   have hi:i∈Region.ready .any ops listed:=by rw[hr];simp
   rw[Ei]at hi;have:i∈plan.filter fun i=>!listed.getD i true:=List.mem_filter.2 ⟨hall i hi.1,by simp[hi.2.1]⟩;rw[hnil]at this;cases this
 |succ fuel ih =>
  intro listed s hsep hsz hc hle hk;refine⟨fun hr=>by rw[hdone listed hsz hr]at hk;exact hk,fun i hi=>?_⟩;have hi':=Ei.1 hi;have hin:i∈plan.filter fun i=>!listed.getD i true:=List.mem_filter.2 ⟨hall i hi'.1,by simp[hi'.2.1]⟩;obtain⟨R1,R2,hR⟩:=List.append_of_mem hin;have hpass:∀j∈R1,Wv P cf.ro q ops j i=true:=by
   intro j hj;have hjf:j∈plan.filter fun i=>!listed.getD i true:=by rw[hR];simp[hj]
   have hjl:=List.mem_filter.1 hjf
   -- j stands ahead of i in the plan
   have hsub:List.Sublist (j::i::[]) plan:=by
    have s1:List.Sublist (j::i::[]) (R1++i::R2):=by
     obtain⟨A,B,hAB⟩:=List.append_of_mem hj;rw[hAB,List.append_assoc];refine List.Sublist.trans ?_ (List.sublist_append_right A _);exact List.Sublist.cons_cons j ((List.Sublist.cons_cons i (List.nil_sublist R2)).trans (List.sublist_append_right B _))
    rw[←hR]at s1;exact s1.trans List.filter_sublist
   have hij:j≠i:=by
    have hndf:(plan.filter fun i=>!listed.getD i true).Nodup:=List.Nodup.sublist List.filter_sublist hnd;rw[hR,List.nodup_append]at hndf;exact fun e=>hndf.2.2 j hj i (by simp) e
   obtain⟨Q1,Q2,q1⟩:=List.append_of_mem (hall i hi'.1);have hin1:j∈Q1:=by
    have hnd':=hnd;rw[q1]at hsub hnd';rw[List.nodup_append]at hnd';obtain⟨n1,n2,n3⟩:=hnd';rcases List.sublist_append_iff.1 hsub with⟨l1,l2,hl12,s1,s2⟩
    cases l1 with
    |cons x xs =>
     have:x=j:=by simp at hl12;exact hl12.1.symm
     subst this;exact s1.subset (by simp)
    |nil =>
     simp at hl12;subst hl12;have hn2:=List.nodup_cons.1 n2;rcases List.sublist_cons_iff.1 s2 with s3 | ⟨r,hr',s3⟩
     ·exact absurd (s3.subset (by simp)) hn2.1
     ·simp at hr';exact absurd hr'.1 hij
   rcases(hpair Q1 Q2 i q1 j hin1).2 with hreach|hp
   ·have:=Lf hsz hc ops.size i j hi'.2.2 hreach;have hjs:j<listed.size:=by rw[hsz];exact hlt j hjl.1
    rw[Array.getD_eq_getD_getElem?,Array.getElem?_eq_getElem hjs]at this;have h2:=hjl.2;rw[Array.getD_eq_getD_getElem?,Array.getElem?_eq_getElem hjs]at h2;simp at this h2;rw[this]at h2;cases h2
   ·exact hp
  rw[hR]at hk;have hfront:=Qs6 hdm hdst R1 R2 s hsep hpass hk;unfold Cm at hfront;cases hoi:ops[i]? with
  |none=>simp[hoi]at hfront
  |some o =>
   simp only[hoi]at hfront ⊢;refine Bt (fun v m hk3=>?_) (hsep.step (hdst i o hoi) hfront);have hk2:=hk3.2;have hil:i<listed.size:=by rw[hsz];exact hi'.1
   have hfil:(plan.filter fun j=>!(listed.setIfInBounds i true).getD j true)=R1++R2:=by
    have e1:(plan.filter fun j=>!(listed.setIfInBounds i true).getD j true)=(plan.filter fun j=>!listed.getD j true).filter fun j=>j != i:=by
     rw[List.filter_filter];refine List.filter_congr fun j _=>?_;rw[F8 hil];by_cases h:j=i<;>simp[h]
    have hndf:(plan.filter fun i=>!listed.getD i true).Nodup:=List.Nodup.sublist List.filter_sublist hnd;rw[e1,hR];rw[hR,List.nodup_append]at hndf;obtain⟨n1,n2,n3⟩:=hndf;rw[List.filter_append,List.filter_cons];have f1:R1.filter (fun j=>j != i)=R1:=List.filter_eq_self.2 fun j hj=>by
     have:=n3 j hj i (by simp);simpa using this
    have f2:R2.filter (fun j=>j != i)=R2:=List.filter_eq_self.2 fun j hj=>by
     have:=(List.nodup_cons.1 n2).1;have hne:j≠i:=fun e=>this (e ▸ hj);simpa using hne
    rw[f1,f2];simp
   refine ih _ _ hk3.1 (by simpa using hsz) (fun i' o' ho' hl' e he hb=>?_) (by rw[hfil];rw[hR]at hle;simp at hle ⊢;omega) (by rw[hfil];exact hk2);rw[F8 hil]at hl' ⊢;by_cases h1:e.on=i
   ·rw[if_pos h1]
   ·rw[if_neg h1];by_cases h2:i'=i
    ·subst h2;rw[hoi]at ho';cases ho';exact hi'.2.2 o hoi e he hb
    ·rw[if_neg h2]at hl';exact hc i' o' ho' hl' e he hb
end
end Go.Av
end
section
namespace Go.Av
section
variable {P:Program}
theorem Qbe {F G:Nat→Prop} {w0:World} {cf:Dy} {ops:Array Oper} {K:St→Prop} {QQ:Exit→Act→World→Prop} {next:Act→World→Prop} {n:Nat} (hQ:∀a w,En F G w0 n K a w→next a w)
  {o:Oper} {i:Nat} (hi:ops[i]?=some o) {s:St} {a:Act} {w:World} (hav:∀b,cf.av b→b<w.heap.size) (hn:s.n=n) (ho:(Fg n o&&Hq ops n o)=true) (hr:Ee F G w0 s a w) (hk:Cr P cf ops o K s):wpOp P ops QQ i next a w:=by
 rw[Bool.and_eq_true]at ho;have hop:E0 P cf o K s→o.wp P a w next QQ:=by
  intro hk;have:=Kp hr hav (by rw[hn];exact ho.1) hk QQ;rw[hn]at this;unfold Oper.wp at this ⊢
  revert this
  generalize(execOp a.eval o).run P w=res;intro this;unfold Oper.upon at this ⊢;split at this<;>first
   |exact hQ _ _ this
   |(refine Calls.mono this ?_;intro e w' h;cases e<;>first | exact hQ _ _ h | exact h)
   |(refine Rows.mono this ?_;intro e w' h;exact hQ _ _ h)
   |exact this
   |exact this.elim
 unfold wpOp;rw[hi];simp only;unfold Cr Db at hk;split at hk
 ·rename_i hg
  rw[if_pos (by simp[Region.wanted,hg])];exact .inl (hop hk)
 ·rename_i j want hg
  split at hk
  ·rename_i d hd
   obtain⟨t,ht,hk⟩:=hk;have hdn:d<s.n:=by
    have h2:=ho.2;unfold Hq at h2;simp only[hg,hd]at h2;rw[hn];simpa[Nat.blt_eq]using h2
   have hw:=hr.wanted hdn hg hd ht;rw[hw];by_cases htw:t=true
   ·rw[if_pos htw]at hk;rw[if_pos htw];exact .inl (hop hk)
   ·rw[if_neg htw]at hk;rw[if_neg htw];have hdst:L5 n o.dst=true:=by have h1:=ho.1;unfold Fg at h1;rw[Bool.and_eq_true]at h1;exact h1.1
    exact hQ _ _ ⟨_,hk,(H5 _ _ _).trans hn,hr.put (by rw[hn];exact hdst) (.skip _ _)⟩
  ·exact hk.elim
theorem Ls {F G:Nat→Prop} {w0:World} {cf:Dy} {ops:Array Oper} {K:St→Prop} {QQ:Exit→Act→World→Prop} (n B:Nat) (hav:∀b,cf.av b→b<B) (hQ:∀a w,En F G w0 n K a w→QQ .normal a w)
  (hok:∀(i:Nat) (o:Oper),ops[i]?=some o→(Fg n o&&Hq ops n o)=true):∀(fuel:Nat) (listed:Array Bool) (s:St) (a:Act) (w:World),B≤w.heap.size→s.n=n→Ee F G w0 s a w→N6 P cf ops K fuel listed s→wpAny P .any ops QQ fuel listed a w
 |0,listed,s,a,w,_,hn,hr,h=>⟨h.1,hQ a w ⟨s,h.2,hn,hr⟩⟩
 |fuel+1,listed,s,a,w,hB,hn,hr,h=>by
  refine⟨fun he=>hQ a w ⟨s,h.1 he,hn,hr⟩,fun i hi=>?_⟩;have hs:=h.2 i hi;cases ho:ops[i]? with
  |none=>simp[ho]at hs
  |some o =>
   simp only[ho]at hs
   -- the heap only grows: kept beside the state
   have hs':Cr P cf ops o (fun s'=>N6 P cf ops K fuel (listed.setIfInBounds i true) s') s:=hs;refine Qbe (F:=F) (G:=fun b=>G b∨s.m b≠none) (w0:=w) (cf:=cf) (n:=n) (K:=N6 P cf ops K fuel (listed.setIfInBounds i true)) (fun a' w' hl=>?_) ho (fun b hb=>Nat.lt_of_lt_of_le (hav b hb) hB) hn (hok i o ho)
    {size:=hr.size,regs:=hr.regs,heap:=hr.heap,defers:=hr.defers,grow:=Ez.refl _ w,far:=fun b hb=>⟨Nat.lt_of_lt_of_le (hr.far b hb).1 hr.grow.size,(hr.far b hb).2⟩,own:=fun b hb=>.inl (.inr hb)} hs'
   obtain⟨s',h1,h2,h3⟩:=hl;refine Ls n B hav hQ hok fuel _ s' a' w' (Nat.le_trans hB h3.grow.size) h2 ?_ h1;refine {size:=h3.size,regs:=h3.regs,heap:=h3.heap,defers:=h3.defers,grow:=hr.grow.trans' h3.grow (fun x hx hg=>?_),far:=fun b hb=>⟨(hr.far b hb).1,(h3.far b hb).2⟩,own:=fun b hb=>?_}
   ·rcases hg with hg|hg
    ·exact hg
    ·rcases hr.own x hg with q|q
     ·exact q
     ·omega
   ·rcases h3.own b hb with(q|q)|q
    ·exact .inl q
    ·exact hr.own b q
    ·exact .inr (Nat.le_trans hr.grow.size q)
theorem AW.drawS {Q:Exit→St→Prop} {s:St} {id:Nat} {ops:Array Oper} (ro:Nat→Bool) (q:Iu) (blk:Nat→Nat) (av:Nat→Prop) (hsep:Kq q blk av s) (plan:List Nat) (hm:P.follows .mixedOrders=true) (hok:B1 s.n ops=true) (hp:Ii P ro q ops plan=true)
  (hav:∀b,av b→s.m b≠none) (h:Cm P ⟨ro,av,true⟩ ops plan (Q .normal) s):AW P (.region id ops true) Q s:=by
 intro F G w0 a w hr;refine wp_region_any hm ?_;have hok':∀i o,ops[i]?=some o→(Fg s.n o&&Hq ops s.n o)=true:=fun i o ho=>by
  unfold B1 at hok;exact List.all_eq_true.1 hok o (List.mem_of_getElem? (by rw[Array.getElem?_toList];exact ho))
 have hfil:(plan.filter fun i=>!(Array.replicate ops.size false).getD i true)=plan:=by
  refine List.filter_eq_self.2 fun i hi=>?_;have hlt:i<ops.size:=by
   unfold Ii at hp;simp only[Bool.and_eq_true]at hp;have:=List.all_eq_true.1 hp.2.1.1.1.2 i hi;simpa[Nat.blt_eq]using this
  simp[hlt]
 have hlen:plan.length≤ops.size:=by
  unfold Ii at hp;simp only[Bool.and_eq_true]at hp;exact(of_decide_eq_true hp.2.1.1.2).2
 have hany:N6 P ⟨ro,av,true⟩ ops (Q .normal) ops.size (Array.replicate ops.size false) s:=by
  have hcl:Nn ops (Array.replicate ops.size false):=fun i o ho hl e he hb=>by
   have hi:i<ops.size:=(Array.getElem?_eq_some_iff.1 ho).1;rw[Array.getD_eq_getD_getElem?,Array.getElem?_replicate,if_pos hi]at hl;cases hl
  refine Su (cf:=⟨ro,av,true⟩) rfl hp ops.size _ s hsep Array.size_replicate hcl ?_ ?_
  ·rw[hfil];exact hlen
  ·rw[hfil];exact h
 have hav':∀b,av b→b<w.heap.size:=fun b hb=>hr.lt (hav b hb);have hd:Ee F G w0 s a {w with drawn:=w.drawn+1}:=hr.drew;exact Ls (F:=F) (G:=G) (w0:=w0) (cf:=⟨ro,av,true⟩) s.n w.heap.size hav' (fun a w h=>h) hok' ops.size _ s a {w with drawn:=w.drawn+1} (Nat.le_refl _) rfl hd hany
theorem AW.draw {Q:Exit→St→Prop} {s:St} {id:Nat} {ops:Array Oper} (ro:Nat→Bool) (av:Nat→Prop) (plan:List Nat) (hm:P.follows .mixedOrders=true) (hok:B1 s.n ops=true) (hp:Jm P ro ops plan=true)
  (hav:∀b,av b→s.m b≠none) (h:Cm P ⟨ro,av,true⟩ ops plan (Q .normal) s):AW P (.region id ops true) Q s :=
 AW.drawS ro Iu.no (fun r=>r) av ⟨fun _ h=>(by cases h),fun _ _ h=>(by cases h),fun _ h=>(by cases h),fun _ h=>(by cases h)⟩ plan hm hok hp hav h
end
end Go.Av
end
section
namespace Go.Av
def look:List (Nat × AV)→Nat→AV
 |[],_=>.any
 |(k,v)::L,t=>if t=k then v else look L t
@[simp] theorem Q10 (t:Nat):look [] t=.any:=(rfl)
@[simp] theorem Yt (k:Nat) (v:AV) (L:List (Nat × AV)) (t:Nat):look ((k,v)::L) t=if t=k then v else look L t:=(rfl)
def S (n:Nat) (L:List (Nat × AV)) (m:Ac):St:=⟨n,look L,m⟩
section
variable (n:Nat) (L:List (Nat × AV)) (m:Ac)
@[simp] theorem S_n:(S n L m).n=n:=(rfl)
@[simp] theorem S_m:(S n L m).m=m:=(rfl)
@[simp] theorem S_r (t:Nat):(S n L m).r t=look L t:=(rfl)
@[simp] theorem Q3x (m':Ac):({S n L m with m:=m'}:St)=S n L m':=(rfl)
@[simp] theorem Q46 (m':Ac):(⟨n,look L,m'⟩:St)=S n L m':=(rfl)
@[simp] theorem Q4o (d:Nat) (v:AV):(S n L m).put (some d) v=S n ((d,v)::L) m:=by
 unfold S St.put;simp only[St.mk.injEq,true_and,and_true]
 funext t
 simp
@[simp] theorem Q3d (v:AV):(S n L m).put none v=S n L m:=(rfl)
@[simp] theorem Q0w (t:Nat):(S n L m).ev (.tmp t)=look L t:=(rfl)
@[simp] theorem Qv7 (v:Value):(S n L m).ev (.const v)=Rd v:=(rfl)
@[simp] theorem Qye (f:Nat):(S n L m).ev (.func f)=.fn f []:=(rfl)
end
structure Has (s:St) (n:Nat) (L:List (Nat × AV)) (m:Ac):Prop where
 n:s.n=n
 m:s.m=m
 r:∀p∈L,s.r p.1=p.2
theorem Has.look {s:St} {n:Nat} {L:List (Nat × AV)} {m:Ac} (h:Has s n L m) (t:Nat):look L t=s.r t∨look L t=.any:=by
 have key:∀(L':List (Nat × AV)),(∀p∈L',s.r p.1=p.2)→Av.look L' t=s.r t∨Av.look L' t=.any:=by
  intro L'
  induction L' with
  |nil=>intro _;exact .inr rfl
  |cons p L' ih =>
   intro hp;obtain⟨k,v⟩:=p;rw[Yt];by_cases ht:t=k
   ·rw[if_pos ht];have:=hp (k,v) (by simp);rw[ht];exact .inl this.symm
   ·rw[if_neg ht];exact ih fun p hp'=>hp p (by simp[hp'])
 exact key L h.r
section
variable {P:Program} {Q:Exit→St→Prop}
theorem Bm.refl (m:Ac) (h:∀b x,m b=some x→∀v∈x.l,v.cells.all AV.one=true):Bm m m :=
 ⟨fun b x' hx=>⟨x',hx,rfl,rfl,rfl,fun k v v' h1 h2=>by rw[h1]at h2;cases h2;exact⟨.same _,h b x' hx v (List.mem_of_getElem? h1)⟩⟩⟩
theorem AW.forget {c:Code} {s:St} (s':St) (hn:s'.n=s.n) (hm:s'.m=s.m) (hr:∀t,s'.r t=s.r t∨s'.r t=.any) (h:AW P c Q s'):AW P c Q s:=by
 intro F G w0 a w hrel;have hrel':Ee F G w0 s' a w:={
  size:=by rw[hn];exact hrel.size
  regs:=fun t ht=>by
   rw[hm];rcases hr t with h1 | h1
   ·rw[h1];exact hrel.regs t (by rw[←hn];exact ht)
   ·rw[h1];exact .any _
  heap:=by rw[hm];exact hrel.heap
  defers:=hrel.defers
  grow:=hrel.grow
  far:=by rw[hm];exact hrel.far
  own:=by rw[hm];exact hrel.own}
 have:=h F G w0 a w hrel';rw[hn]at this;exact this
theorem AW.has {c:Code} {s:St} {n:Nat} {L:List (Nat × AV)} {m:Ac} (hh:Has s n L m) (h:AW P c Q (S n L m)):AW P c Q s :=
 AW.forget (S n L m) hh.n.symm hh.m.symm hh.look h
theorem AW.keep {c:Code} {n:Nat} {L:List (Nat × AV)} {m:Ac} (L':List (Nat × AV)) (hh:∀p∈L',look L p.1=p.2) (h:AW P c Q (S n L' m)):AW P c Q (S n L m) :=
 AW.has ⟨rfl,rfl,hh⟩ h
theorem AW.loopS {c:Code} {n:Nat} {L0:List (Nat × AV)} {m0:Ac} {ι:Type} (L:ι→List (Nat × AV)) (M:ι→Ac) (Inv:ι→Prop) (rank:ι→Nat) (i0:ι) (h0:Inv i0) (hm:m0=M i0) (hL:∀p∈L i0,look L0 p.1=p.2)
  (round:∀i,Inv i→AW P c (P8 (fun s'=>∃j,Inv j∧rank j<rank i∧Has s' n (L j) (M j)) Q) (S n (L i) (M i))):AW P (.loop c) Q (S n L0 m0):=by
 refine AW.loop (fun k s=>∃i,Inv i∧rank i=k∧Has s n (L i) (M i)) (rank i0) ⟨i0,h0,rfl,rfl,hm,hL⟩ ?_;rintro k s' hn ⟨i,h1,rfl,h3⟩;refine AW.has h3 ((round i h1).mono ?_);intro e s'' _ hq;cases e with
 |normal =>
  obtain⟨j,q1,q2,q3⟩:=hq;exact⟨rank j,q2,j,q1,rfl,q3⟩
 |_=>exact hq
theorem AW.seq_has {x y:Code} {n:Nat} {L0:List (Nat × AV)} {m0:Ac} (L:List (Nat × AV)) (m:Ac) (h1:AW P x (P8 (fun s'=>Has s' n L m) Q) (S n L0 m0)) (h2:AW P y Q (S n L m)):AW P (.seq x y) Q (S n L0 m0):=by
 refine AW.seq (h1.mono ?_);intro e s' _ hq;cases e with
 |normal=>exact fun _=>AW.has hq h2
 |_=>exact hq
theorem AW.seq_ex {x y:Code} {n:Nat} {L0:List (Nat × AV)} {m0:Ac} {ι:Type} (L:ι→List (Nat × AV)) (M:ι→Ac) (Inv:ι→Prop) (h1:AW P x (P8 (fun s'=>∃i,Inv i∧Has s' n (L i) (M i)) Q) (S n L0 m0)) (h2:∀i,Inv i→AW P y Q (S n (L i) (M i))):AW P (.seq x y) Q (S n L0 m0):=by
 refine AW.seq (h1.mono ?_);intro e s' _ hq;cases e with
 |normal =>
  obtain⟨i,hi,hh⟩:=hq;exact fun _=>AW.has hh (h2 i hi)
 |_=>exact hq
theorem AW.turn {c:Code} {n:Nat} {L:List (Nat × AV)} {m:Ac} (L':List (Nat × AV)) (m':Ac) (hm:Bm m m') (hL:∀p∈L',B2 m m' (Av.look L p.1) p.2) (h:AW P c Q (Av.S n L' m')):AW P c Q (Av.S n L m):=by
 refine AW.recast (Av.S n L' m') rfl hm (fun t=>?_) h;show B2 m m' (Av.look L t) (Av.look L' t)∨Av.look L' t=.any
 have key:∀(L2:List (Nat × AV)),(∀p∈L2,B2 m m' (Av.look L p.1) p.2)→B2 m m' (Av.look L t) (Av.look L2 t)∨Av.look L2 t=.any:=by
  intro L2
  induction L2 with
  |nil=>intro _;exact .inr rfl
  |cons p L2 ih =>
   intro hp;obtain⟨k,v⟩:=p;rw[Yt];by_cases ht:t=k
   ·rw[if_pos ht,ht];exact .inl (hp (k,v) (by simp))
   ·rw[if_neg ht];exact ih fun p hp'=>hp p (by simp[hp'])
 exact key L' hL
theorem Bm.one {m:Ac} {b:Nat} {x:Fb} (h:m b=some x) (h1:∀v∈x.l,v.cells.all AV.one=true):Bm m (Ac.emp.set b x):=by
 refine⟨fun c y hy=>?_⟩;unfold Ac.set at hy;split at hy
 ·rename_i hc
  cases hy;subst hc;exact⟨x,h,rfl,rfl,rfl,fun k v v' q1 q2=>by rw[q1]at q2;cases q2;exact⟨.same _,h1 v (List.mem_of_getElem? q1)⟩⟩
 ·cases hy
theorem AW.toEmp {c:Code} {n:Nat} {L:List (Nat × AV)} {m:Ac} (L':List (Nat × AV)) (hL:∀p∈L',B2 m Ac.emp (Av.look L p.1) p.2) (h:AW P c Q (Av.S n L' Ac.emp)):AW P c Q (Av.S n L m) :=
 AW.turn L' Ac.emp ⟨fun b x h=>by cases h⟩ hL h
theorem Has.S {n:Nat} {L0 L:List (Nat × AV)} {m:Ac} (h:∀p∈L,Av.look L0 p.1=p.2):Has (Av.S n L0 m) n L m:=⟨rfl,rfl,h⟩
@[simp] theorem Q4r (n:Nat) (L0 L:List (Nat × AV)) (m m':Ac):Has (Av.S n L0 m) n L m'↔m=m'∧∀p∈L,Av.look L0 p.1=p.2 :=
 ⟨fun h=>⟨h.m,h.r⟩,fun h=>⟨rfl,h.1,h.2⟩⟩
@[simp] theorem Qp3 (K:St→Prop) (Q:Exit→St→Prop):P8 K Q .normal=K:=(rfl)
@[simp] theorem Qww (K:St→Prop) (Q:Exit→St→Prop) (i:Nat):P8 K Q (.exit i)=Q (.exit i):=(rfl)
@[simp] theorem Qxi (K:St→Prop) (Q:Exit→St→Prop):P8 K Q .ret=Q .ret:=(rfl)
@[simp] theorem Qob (id:Nat) (Q:Exit→St→Prop):Uu id Q .normal=Q .normal:=(rfl)
@[simp] theorem Qu3 (id:Nat) (Q:Exit→St→Prop):Uu id Q .ret=Q .ret:=(rfl)
@[simp] theorem Qrx (id i:Nat) (Q:Exit→St→Prop):Uu id Q (.exit i)=if i=id then Q .normal else Q (.exit i):=(rfl)
def Al (args:List AV):List (Nat × AV):=args.zipIdx.map fun p=>(p.2,p.1)
theorem Qpo (n:Nat) (args:List AV) (g:Ac):Has (st0 n args g) n (Al args) g:=by
 refine⟨rfl,rfl,fun p hp=>?_⟩;unfold Al at hp;rw[List.mem_map]at hp;obtain⟨⟨v,i⟩,h1,rfl⟩:=hp;rw[List.mem_iff_getElem?]at h1;obtain⟨k,hk⟩:=h1;rw[List.getElem?_zipIdx]at hk;show args.getD i .any=v
 cases hv:args[k]? with
 |none=>simp[hv]at hk
 |some u =>
  simp only[hv,Option.map_some,Option.some.injEq,Prod.mk.injEq]at hk;obtain⟨rfl,rfl⟩:=hk;rw[List.getD_eq_getElem?_getD];simp[hv]
theorem Ad {f : FuncId} {fn : Func} {c : Code} {args : List AV} {g : Ac} {R : AV → Ac → Prop} (hf : P.funcs[f]? = some fn) (hb : fn.body = some c) (hname : (fn.name == "runtime.NumGoroutine") = false) (n : Nat) (hnt : fn.ntmps = n) (hn : args.length ≤ n)
  (h:AW P c (Q3 P fn.results.toList R) (S n (Al args) g)):Ak P f args g R :=
 Xi hf hb hname (by omega) (AW.has (by rw[hnt];exact Qpo n args g) h)
@[simp] theorem Q15 (cf:Dy) (ops:Array Oper) (K:St→Prop) (s:St):Jo P cf ops [] K s=K s:=(rfl)
@[simp] theorem Qzf (cf:Dy) (ops:Array Oper) (K:St→Prop) (s:St) (d:Option Tmp) (op:Op) (t:TypeId) (p:String) (a:Array Edge) (rest:List Oper) :
  Jo P cf ops ({dst:=d,op:=op,type:=t,pos:=p,after:=a,guard:=none}::rest) K s=E0 P cf {dst:=d,op:=op,type:=t,pos:=p,after:=a,guard:=none} (Jo P cf ops rest K) s:=rfl
def Qb (v:AV) (want:Bool) (X Y:Prop):Prop:=match Nb v want with
 |some true=>X
 |some false=>Y
 |none=>False
@[simp] theorem Qx6 (t want:Bool) (X Y:Prop):Qb (.bool t) want X Y=if t=want then X else Y:=by
 cases t<;>cases want<;>simp[Qb,Nb]
@[simp] theorem Qzl (want:Bool) (X Y:Prop):Qb (.tup []) want X Y=Y:=by simp[Qb,Nb]
theorem Vj (v:AV) (want:Bool) (X Y:Prop):(∃t,Nb v want=some t∧if t=true then X else Y)↔Qb v want X Y:=by
 unfold Qb;cases Nb v want with
 |none=>simp
 |some t=>cases t<;>simp
@[congr] theorem Qwa {v v':AV} (want:Bool) (X Y:Prop) (h:v=v'):Qb v want X Y=Qb v' want X Y:=by rw[h]
def U8 (s:St) (d:Option Tmp):AV:=match d with | some d=>s.r d | none=>.any
@[simp] theorem O0 (s:St) (d:Tmp):U8 s (some d)=s.r d:=(rfl)
@[simp] theorem Qz6 (cf:Dy) (ops:Array Oper) (K:St→Prop) (s:St) (d:Option Tmp) (op:Op) (t:TypeId) (p:String) (a:Array Edge) (j:Nat) (want:Bool) (rest:List Oper) :
  Jo P cf ops ({dst:=d,op:=op,type:=t,pos:=p,after:=a,guard:=some (j,want)}::rest) K s ↔
   Qb (U8 s ((ops[j]?).bind (·.dst))) want (E0 P cf {dst:=d,op:=op,type:=t,pos:=p,after:=a,guard:=some (j,want)} (Jo P cf ops rest K) s) (Jo P cf ops rest K (s.put d (.tup []))):=by
 show(match (ops[j]?).bind (·.dst)with
   |some d'=>∃t',Nb (s.r d') want=some t'∧if t'=true then E0 P cf {dst:=d,op:=op,type:=t,pos:=p,after:=a,guard:=some (j,want)} (Jo P cf ops rest K) s else Jo P cf ops rest K (s.put d (.tup []))
   |none=>False)↔_
 cases (ops[j]?).bind (·.dst)with
 |none=>simp[U8,Qb,Nb]
 |some d' =>
  simp only[O0];exact Vj _ _ _ _
@[congr] theorem Qt1 {cf:Dy} {ops:Array Oper} {l:List Oper} {K:St→Prop} {s s':St} (h:s=s'):Jo P cf ops l K s=Jo P cf ops l K s':=by rw[h]
@[congr] theorem Qz9 {cf:Dy} {o:Oper} {K:St→Prop} {s s':St} (h:s=s'):E0 P cf o K s=E0 P cf o K s':=by rw[h]
@[congr] theorem Q2h {c:Code} {Q:Exit→St→Prop} {s s':St} (h:s=s'):AW P c Q s=AW P c Q s':=by rw[h]
@[congr] theorem Qwe {x y:Option AV} {k:AV→Prop} (h:x=y):Ea x k=Ea y k:=by rw[h]
@[simp] theorem Q2z (c:Prop) [Decidable c] (v:AV) (k:AV→Prop):Ea (if c then some v else none) k↔c∧k v:=by split<;>simp_all
end
end Go.Av
end
section
namespace Go.Av
def F2 (K:St→Prop) (s:St) (d:Option Tmp):AV→Prop:=fun v=>K (s.put d v)
def I8 (K:St→Prop) (s:St) (d:Option Tmp):AV→Ac→Prop:=fun v m=>K ({s with m:=m}.put d v)
@[simp] theorem Qyd (K:St→Prop) (s:St) (d:Option Tmp) (v:AV):F2 K s d v=K (s.put d v):=(rfl)
@[simp] theorem Qxc (K:St→Prop) (s:St) (d:Option Tmp) (v:AV) (m:Ac):(I8 K s d) v m=K ({s with m:=m}.put d v):=(rfl)
section
variable (P:Program) (cf:Dy) (K:St→Prop) (s:St) (d:Option Tmp) (ty:TypeId) (p:String) (a:Array Edge) (g:Option (Nat × Bool))
@[simp] theorem Q5r (n:Nat) (L:List (Nat × AV)) (m:Ac):(S n L m).r=look L:=(rfl)
@[simp] theorem Q14 (x:Operand):E0 P cf ⟨d,.move x,ty,p,a,g⟩ K s↔K (s.put d (s.ev x)):=by
 show Ea (some (s.ev x)) _↔_
 simp
@[simp] theorem Qvs (x:Operand):E0 P cf ⟨d,.assign x,ty,p,a,g⟩ K s↔K (s.put d (s.ev x)):=by
 show Ea (some (s.ev x)) _↔_
 simp
def Qnr (c a b:AV):Option AV:=match c with | .bool t=>some (if t=true then a else b) | _=>none
@[simp] theorem Qr8 (t:Bool) (a b:AV):Qnr (.bool t) a b=some (if t=true then a else b):=(rfl)
@[simp] theorem Q0s (c x y:Operand):E0 P cf ⟨d,.pick c x y,ty,p,a,g⟩ K s↔Ea (Qnr (s.ev c) (s.ev x) (s.ev y)) (F2 K s d):=Iff.rfl
@[simp] theorem Qxu (t:TypeId) (parts:Array (Nat × Operand)):E0 P cf ⟨d,.build t parts,ty,p,a,g⟩ K s↔Ea ((Ai P t).bind fun ti=>Qr ti (parts.toList.map fun p=>(p.1,s.ev p.2))) (F2 K s d):=Iff.rfl
@[simp] theorem Q0z (t:TypeId) (x:Operand) (ro:Nat→Bool):E0 P (Dy.txt ro) ⟨d,.load t x,ty,p,a,g⟩ K s↔Ea ((Ai P t).bind fun ti=>Gb s.m ti (s.ev x)) (F2 K s d):=by
 unfold E0 Fc Dy.txt;simp only[Bool.false_eq_true,false_implies,true_and];exact Iff.rfl
def Qpg (av:Nat→Prop):AV→Prop
 |.ptr b _ _ _=>av b
 |_=>True
@[simp] theorem Qyv (t:TypeId) (x:Operand) (ro:Nat→Bool) (av:Nat→Prop):E0 P ⟨ro,av,true⟩ ⟨d,.load t x,ty,p,a,g⟩ K s↔Qpg av (s.ev x)∧Ea ((Ai P t).bind fun ti=>Gb s.m ti (s.ev x)) (F2 K s d):=by
 unfold E0 Fc Qpg;simp only[true_implies];exact Iff.rfl
def Ld:AV→Option AV
 |.ptr b z i j=>some (.ptr b z i j)
 |.rptr cs=>some (.rptr cs)
 |.fn f cs=>some (.fn f cs)
 |_=>none
@[simp] theorem Qot (x:Operand):E0 P cf ⟨d,.nilCheck x,ty,p,a,g⟩ K s↔Ea (Ld (s.ev x)) (F2 K s d):=by
 unfold E0 Fc Rq Ld;simp only;split<;>simp_all
@[simp] theorem Qyt (op:BinOp) (t u:TypeId) (x y:Operand):E0 P cf ⟨d,.binOp op t x y u,ty,p,a,g⟩ K s↔Ea ((Ai P t).bind fun ti=>Cs ti.cls op (s.ev x) (s.ev y)) (F2 K s d):=Iff.rfl
@[simp] theorem Q1x (op:UnOp) (t:TypeId) (x:Operand):E0 P cf ⟨d,.unOp op t x,ty,p,a,g⟩ K s↔Ea (Qjj op (s.ev x)) (F2 K s d):=Iff.rfl
@[simp] theorem Qrv (t u:TypeId) (x:Operand):E0 P cf ⟨d,.convert t u x,ty,p,a,g⟩ K s↔Ea ((Ai P t).bind fun _=>(Ai P u).bind fun td=>U5 td (s.ev x)) (F2 K s d):=Iff.rfl
@[simp] theorem Qqe (f:FuncId) (x y:Array Operand):E0 P cf ⟨d,.makeFunc (.func f) x y,ty,p,a,g⟩ K s↔Ea (if x.size=0 then some (.fn f (y.toList.map s.ev)) else none) (F2 K s d):=Iff.rfl
@[simp] theorem Qy9 (t:TypeId) (x:Operand) (lo hi:Option Operand):E0 P cf ⟨d,.slice t x lo hi none,ty,p,a,g⟩ K s↔Ea ((Ai P t).bind fun ti=>Ih P ti (s.ev x) (lo.map s.ev) (hi.map s.ev)) (F2 K s d):=Iff.rfl
@[simp] theorem Qoq (t:TypeId) (x:Operand) (f:Nat):E0 P cf ⟨d,.fieldAddr t x f,ty,p,a,g⟩ K s↔Ea ((Ai P t).bind fun ti=>Dd ti f (s.ev x)) (F2 K s d):=Iff.rfl
@[simp] theorem Qzk (t:TypeId) (x:Operand) (f:Nat):E0 P cf ⟨d,.field t x f,ty,p,a,g⟩ K s↔Ea ((Ai P t).bind fun ti=>Nr ti f (s.ev x)) (F2 K s d):=Iff.rfl
@[simp] theorem Qn9 (t:TypeId) (x i:Operand):E0 P cf ⟨d,.indexAddr t x i,ty,p,a,g⟩ K s↔Ea ((Ai P t).bind fun ti=>Ca P ti (s.ev x) (s.ev i)) (F2 K s d):=Iff.rfl
@[simp] theorem Qxj (t:TypeId) (x i:Operand):E0 P cf ⟨d,.index t x i,ty,p,a,g⟩ K s↔Ea ((Ai P t).bind fun ti=>Nv ti (s.ev x) (s.ev i)) (F2 K s d):=Iff.rfl
def Yb (v:AV) (i:Nat):Option AV:=match v with | .tup vs=>vs[i]? | _=>none
@[simp] theorem Qn5 (vs:List AV) (i:Nat):Yb (.tup vs) i=vs[i]?:=(rfl)
@[simp] theorem Qre (t:Operand) (i:Nat):E0 P cf ⟨d,.extract t i,ty,p,a,g⟩ K s↔Ea (Yb (s.ev t) i) (F2 K s d):=Iff.rfl
@[simp] theorem Q24 (x:Operand) (t:TypeId):E0 P cf ⟨d,.call ⟨.builtin .len,#[x],#[t]⟩,ty,p,a,g⟩ K s↔Ea ((Ai P t).bind fun ti=>L4 ti (s.ev x)) (F2 K s d):=Iff.rfl
def Qm2 (x y:AV):Option AV:=match x,y with | .int k a,.int _ b=>some (.int k (if a<b then b else a)) | _,_=>none
def Qle (x y:AV):Option AV:=match x,y with | .int k a,.int _ b=>some (.int k (if b<a then b else a)) | _,_=>none
@[simp] theorem Qxd (k k':IntKind) (a b:Int):Qm2 (.int k a) (.int k' b)=some (.int k (if a<b then b else a)):=(rfl)
@[simp] theorem Qz3 (k k':IntKind) (a b:Int):Qle (.int k a) (.int k' b)=some (.int k (if b<a then b else a)):=(rfl)
@[simp] theorem Q2o (x y:Operand) (ts:Array TypeId):E0 P cf ⟨d,.call ⟨.builtin .max,#[x,y],ts⟩,ty,p,a,g⟩ K s↔Ea (Qm2 (s.ev x) (s.ev y)) (F2 K s d):=by
 unfold E0 Fc Rq Qm2;simp only;cases s.ev x<;>cases s.ev y<;>rfl
@[simp] theorem Q2y (x y:Operand) (ts:Array TypeId):E0 P cf ⟨d,.call ⟨.builtin .min,#[x,y],ts⟩,ty,p,a,g⟩ K s↔Ea (Qle (s.ev x) (s.ev y)) (F2 K s d):=by
 unfold E0 Fc Rq Qle;simp only;cases s.ev x<;>cases s.ev y<;>rfl
@[congr] theorem Qry {av:Nat→Prop} {f:FuncId} {args args':List AV} {m m':Ac} {k:AV→Ac→Prop} (h1:args=args') (h2:m=m'):Aa P av f args m k=Aa P av f args' m' k:=by rw[h1,h2]
@[simp] theorem Q1e (f:FuncId) (args:Array Operand) (ts:Array TypeId):E0 P cf ⟨d,.call ⟨.value (.func f),args,ts⟩,ty,p,a,g⟩ K s↔Aa P cf.av f (args.toList.map s.ev) s.m (I8 K s d):=Iff.rfl
@[simp] theorem Qya (t:Tmp) (args:Array Operand) (ts:Array TypeId):E0 P cf ⟨d,.call ⟨.value (.tmp t),args,ts⟩,ty,p,a,g⟩ K s↔∃f caps,s.r t=.fn f caps∧Aa P cf.av f (args.toList.map s.ev++caps) s.m (I8 K s d):=Iff.rfl
def Ae (m:Ac) (av:Nat→Prop) (k:Nat→Prop):Prop:=∀b,m b=none→¬av b→k b
@[congr] theorem Qr9 {m m':Ac} {av:Nat→Prop} {k:Nat→Prop} (h:m=m'):Ae m av k=Ae m' av k:=by rw[h]
theorem Ae.intro {m:Ac} {av:Nat→Prop} {k:Nat→Prop} (h:∀b,m b=none→k b):Ae m av k:=fun b hb _=>h b hb
def Qv (x:Option TI) (k:TI→Prop):Prop:=∃ti,x=some ti∧k ti
@[simp] theorem Q0x (ti:TI) (k:TI→Prop):Qv (some ti) k↔k ti:=by simp[Qv]
@[congr] theorem Q0d {x y:Option TI} {k:TI→Prop} (h:x=y):Qv x k=Qv y k:=by rw[h]
def Qaw (av:Nat→Prop) (ro:Bool) (t:TypeId) (z:Nat) (v:AV) (m:Ac) (k:AV→Ac→Prop):Prop :=
 v≠.any∧if ro=true then k (.rptr v.cells) m else v.cells.length=z∧0<z∧(v.cells.all AV.one)=true∧Ae m av fun b=>k (.ptr b z 0 0) (m.set b ⟨t,z,[v]⟩)
@[congr] theorem Qvr {av:Nat→Prop} {ro:Bool} {t:TypeId} {z:Nat} {v v':AV} {m m':Ac} {k:AV→Ac→Prop} (h:v=v') (h':m=m'):Qaw av ro t z v m k=Qaw av ro t z v' m' k:=by rw[h,h']
@[simp] theorem Q2t (av:Nat→Prop) (t:TypeId) (z:Nat) (v:AV) (m:Ac) (k:AV→Ac→Prop):Qaw av true t z v m k↔v≠.any∧k (.rptr v.cells) m:=by simp[Qaw]
@[simp] theorem Q0p (av:Nat→Prop) (t:TypeId) (z:Nat) (v:AV) (m:Ac) (k:AV→Ac→Prop):Qaw av false t z v m k↔v≠.any∧v.cells.length=z∧0<z∧(v.cells.all AV.one)=true∧Ae m av fun b=>k (.ptr b z 0 0) (m.set b ⟨t,z,[v]⟩):=by simp[Qaw]
@[simp] theorem Qzv (d:Tmp) (t:TypeId):E0 P cf ⟨some d,.alloc t,ty,p,a,g⟩ K s↔Qv (Ai P t) fun ti=>Qaw cf.av (cf.ro d) t ti.size ti.zero s.m (I8 K s (some d)):=Iff.rfl
@[simp] theorem Q22 (d:Tmp) (t:TypeId) (x:Operand):E0 P cf ⟨some d,.box t x,ty,p,a,g⟩ K s↔Qv (Ai P t) fun ti=>Qaw cf.av (cf.ro d) t ti.size (s.ev x) s.m (I8 K s (some d)):=Iff.rfl
@[simp] theorem Q3u (ro:Nat→Bool) (d:Nat):(Dy.txt ro).ro d=ro d:=rfl
@[simp] theorem Q3e (ro:Nat→Bool):(Dy.txt ro).av=fun _=>False:=rfl
def Qct (av:Nat→Prop) (ro:Bool) (e:TypeId) (z:Nat) (l:List AV) (m:Ac) (k:AV→Ac→Prop):Prop :=
 if ro=true then k (.sl z l) m else Ae m av fun b=>k (.osl b z 0 l.length) (m.set b ⟨e,z,l⟩)
@[congr] theorem Qts {av:Nat→Prop} {ro:Bool} {e:TypeId} {z:Nat} {l l':List AV} {m m':Ac} {k:AV→Ac→Prop} (h:l=l') (h':m=m'):Qct av ro e z l m k=Qct av ro e z l' m' k:=by rw[h,h']
@[simp] theorem Q2p (av:Nat→Prop) (e:TypeId) (z:Nat) (l:List AV) (m:Ac) (k:AV→Ac→Prop):Qct av true e z l m k↔k (.sl z l) m:=by simp[Qct]
@[simp] theorem Q1h (av:Nat→Prop) (e:TypeId) (z:Nat) (l:List AV) (m:Ac) (k:AV→Ac→Prop):Qct av false e z l m k↔Ae m av fun b=>k (.osl b z 0 l.length) (m.set b ⟨e,z,l⟩):=by simp[Qct]
def Od:Mc→Option TypeId
 |.slice e=>some e
 |_=>none
@[simp] theorem Qti (e:TypeId):Od (.slice e)=some e:=(rfl)
theorem Dk {c:Mc} {e:TypeId}:Od c=some e↔c=.slice e:=by cases c<;>simp[Od]
def eK (x:Option TypeId) (k:TypeId→Prop):Prop:=∃e,x=some e∧k e
@[simp] theorem Q21 (e:TypeId) (k:TypeId→Prop):eK (some e) k↔k e:=by simp[eK]
@[congr] theorem Q1l {x y:Option TypeId} {k:TypeId→Prop} (h:x=y):eK x k=eK y k:=by rw[h]
def Ym:List (Nat × Operand)→Nat→Nat→Bool
 |[],i,n=>i==n
 |(j,_)::l,i,n=>j==i&&Ym l (i+1) n
@[simp] theorem Qxn (i n:Nat):Ym [] i n=(i==n):=(rfl)
@[simp] theorem Quo (j:Nat) (o:Operand) (l:List (Nat × Operand)) (i n:Nat):Ym ((j,o)::l) i n=(j==i&&Ym l (i+1) n):=(rfl)
theorem Qbs (l:List (Nat × Operand)) (i n:Nat) (h:Ym l i n=true):l.map (·.1)=List.range' i l.length∧n=i+l.length:=by
 induction l generalizing i with
 |nil=>simp at h;simp[h]
 |cons p l ih =>
  obtain⟨j,o⟩:=p;simp at h;obtain⟨rfl,h2⟩:=h;have:=ih _ h2;simp[List.range'_succ,this];omega
@[simp] theorem Qk3 (d:Tmp) (t:TypeId) (len:Nat) (parts:Array (Nat × Operand)) (h:Ym parts.toList 0 len=true) :
  E0 P cf ⟨some d,.buildSlice t len parts,ty,p,a,g⟩ K s↔Qv (Ai P t) fun ti=>eK (Od ti.cls) fun e=>Qv (Ai P e) fun te=>0<te.size∧len*te.size≤16777216∧((parts.toList.map fun(p:Nat × Operand)=>s.ev p.2).all fun v=>v.cells.length==te.size&&v.cells.all AV.one)=true ∧
   Qct cf.av (cf.ro d) e te.size (parts.toList.map fun(p:Nat × Operand)=>s.ev p.2) s.m (I8 K s (some d)):=by
 obtain⟨h4,h5⟩:=Qbs _ 0 len h;rw[Nat.zero_add]at h5;rw[←h5,←List.range_eq_range']at h4;have hlen:(parts.toList.map fun(p:Nat × Operand)=>s.ev p.2).length=len:=by rw[List.length_map,h5]
 unfold E0 Fc Qv eK Qct;simp only[hlen];constructor
 ·rintro⟨ti,e,te,q1,q2,q3,q4,q5,q6,q7,q8⟩;exact⟨ti,q1,e,Dk.2 q2,te,q3,q4,q5,q7,q8⟩
 ·rintro⟨ti,q1,e,q2,te,q3,q4,q5,q7,q8⟩;exact⟨ti,e,te,q1,Dk.1 q2,q3,q4,q5,h4,q7,q8⟩
def Qce (te:TI) (x y:AV) (k:Nat→Prop):Prop :=
 match x,y with
 |.int _ n,.int _ n'=>0≤n∧n≤n'∧0<te.size∧0<te.bytes∧(te.bytes:Int)*n'≤281474976710656∧te.zero.cells.length=te.size∧(te.zero.cells.all AV.one)=true∧k n.toNat
 |_,_=>False
@[simp] theorem Qy5 (te:TI) (k1 k2:IntKind) (n n':Int) (k:Nat→Prop):Qce te (.int k1 n) (.int k2 n') k↔0≤n∧n≤n'∧0<te.size∧0<te.bytes∧(te.bytes:Int)*n'≤281474976710656∧te.zero.cells.length=te.size∧(te.zero.cells.all AV.one)=true∧k n.toNat:=Iff.rfl
@[congr] theorem Qsm {te:TI} {x y x' y':AV} {k:Nat→Prop} (h:x=x') (h':y=y'):Qce te x y k=Qce te x' y' k:=by rw[h,h']
@[simp] theorem Qod (t:TypeId) (l c:Operand):E0 P cf ⟨d,.makeSlice t l c,ty,p,a,g⟩ K s↔Qv (Ai P t) fun ti=>eK (Od ti.cls) fun e=>Qv (Ai P e) fun te=>Qce te (s.ev l) (s.ev c) fun n =>
  Ae s.m cf.av fun b=>K ({s with m:=s.m.set b ⟨e,te.size,List.replicate n te.zero⟩}.put d (.osl b te.size 0 n)):=by
 unfold E0 Fc Qv eK Qce;constructor
 ·rintro⟨ti,e,te,k1,n,k2,n',q1,q2,q3,q4,q5,q6,q7,q8,q9,q10,q11,q12,q13⟩;exact⟨ti,q1,e,Dk.2 q2,te,q3,by rw[q4,q5];exact⟨q6,q7,q8,q9,q10,q11,q12,q13⟩⟩
 ·rintro⟨ti,q1,e,q2,te,q3,q4⟩;split at q4
  ·rename_i k1 n k2 n' e1 e2
   obtain⟨q6,q7,q8,q9,q10,q11,q12,q13⟩:=q4;exact⟨ti,e,te,k1,n,k2,n',q1,Dk.1 q2,q3,e1,e2,q6,q7,q8,q9,q10,q11,q12,q13⟩
  ·exact q4.elim
def Qbv (av:Nat→Prop) (e:TypeId) (te:TI) (x:AV) (m:Ac) (ys:List AV) (k:AV→Ac→Prop):Prop :=
 0<te.size∧te.zero.cells.length=te.size∧(ys.all fun v=>v.cells.length==te.size&&v.cells.all AV.one)=true ∧
 match x with
 |.nil | .zc=>(ys.length+ys.length / 4+192)*te.bytes≤281474976710656∧ys.length≤maxLen∧(if ys=[] then k (.sl te.size []) m else Ae m av fun b=>k (.osl b te.size 0 ys.length) (m.set b ⟨e,te.size,ys⟩))
 |.osl b z i n=>∃l,m b=some ⟨e,te.size,l⟩∧z=te.size∧i=0∧n=l.length∧¬av b∧((l.length+ys.length)+(l.length+ys.length) / 4+192)*te.bytes≤281474976710656∧l.length+ys.length≤maxLen ∧
   Ae (m.del b) av fun b'=>k (.osl b' te.size 0 (l.length+ys.length)) ((m.del b).set b' ⟨e,te.size,l++ys⟩)
 |_=>False
@[simp] theorem Q01 (av:Nat→Prop) (e:TypeId) (te:TI) (b z i n:Nat) (m:Ac) (ys:List AV) (k:AV→Ac→Prop):Qbv av e te (.osl b z i n) m ys k↔0<te.size∧te.zero.cells.length=te.size∧(ys.all fun v=>v.cells.length==te.size&&v.cells.all AV.one)=true ∧
 ∃l,m b=some ⟨e,te.size,l⟩∧z=te.size∧i=0∧n=l.length∧¬av b∧((l.length+ys.length)+(l.length+ys.length) / 4+192)*te.bytes≤281474976710656∧l.length+ys.length≤maxLen ∧
   Ae (m.del b) av fun b'=>k (.osl b' te.size 0 (l.length+ys.length)) ((m.del b).set b' ⟨e,te.size,l++ys⟩):=Iff.rfl
@[simp] theorem Q0i (av:Nat→Prop) (e:TypeId) (te:TI) (m:Ac) (ys:List AV) (k:AV→Ac→Prop):Qbv av e te .nil m ys k↔0<te.size∧te.zero.cells.length=te.size∧(ys.all fun v=>v.cells.length==te.size&&v.cells.all AV.one)=true ∧
 (ys.length+ys.length / 4+192)*te.bytes≤281474976710656∧ys.length≤maxLen∧(if ys=[] then k (.sl te.size []) m else Ae m av fun b=>k (.osl b te.size 0 ys.length) (m.set b ⟨e,te.size,ys⟩)):=Iff.rfl
@[simp] theorem Q2r (av:Nat→Prop) (e:TypeId) (te:TI) (m:Ac) (ys:List AV) (k:AV→Ac→Prop):Qbv av e te .zc m ys k↔Qbv av e te .nil m ys k:=Iff.rfl
@[congr] theorem Quy {av:Nat→Prop} {e:TypeId} {te:TI} {x x':AV} {m m':Ac} {ys ys':List AV} {k:AV→Ac→Prop} (h:x=x') (h':m=m') (h'':ys=ys'):Qbv av e te x m ys k=Qbv av e te x' m' ys' k:=by rw[h,h',h'']
def Gv (x:Option (List AV)) (k:List AV→Prop):Prop:=∃l,x=some l∧k l
@[simp] theorem Qtf (l:List AV) (k:List AV→Prop):Gv (some l) k↔k l:=by simp[Gv]
@[congr] theorem Qo0 {x y:Option (List AV)} {k:List AV→Prop} (h:x=y):Gv x k=Gv y k:=by rw[h]
def inK (av:Nat→Prop) (e:TypeId) (te:TI) (x:AV) (m:Ac) (ys:List AV) (k:AV→Ac→Prop):Prop :=
 0<te.size∧te.zero.cells.length=te.size∧(ys.all fun v=>v.cells.length==te.size&&v.cells.all AV.one)=true ∧
 match x with
 |.osl b z i n=>∃l,m b=some ⟨e,te.size,l⟩∧z=te.size∧¬av b∧((l.length+ys.length)+(l.length+ys.length) / 4+192)*te.bytes≤281474976710656∧l.length+ys.length≤maxLen∧i+n+ys.length≤l.length ∧
   k (.osl b te.size i (n+ys.length)) (m.set b ⟨e,te.size,l.take (i+n)++ys++l.drop (i+n+ys.length)⟩)
 |_=>False
@[simp] theorem Q2u (av:Nat→Prop) (e:TypeId) (te:TI) (b z i n:Nat) (m:Ac) (ys:List AV) (k:AV→Ac→Prop):inK av e te (.osl b z i n) m ys k↔0<te.size∧te.zero.cells.length=te.size∧(ys.all fun v=>v.cells.length==te.size&&v.cells.all AV.one)=true ∧
 ∃l,m b=some ⟨e,te.size,l⟩∧z=te.size∧¬av b∧((l.length+ys.length)+(l.length+ys.length) / 4+192)*te.bytes≤281474976710656∧l.length+ys.length≤maxLen∧i+n+ys.length≤l.length ∧
   k (.osl b te.size i (n+ys.length)) (m.set b ⟨e,te.size,l.take (i+n)++ys++l.drop (i+n+ys.length)⟩):=Iff.rfl
@[congr] theorem Qzx {av:Nat→Prop} {e:TypeId} {te:TI} {x x':AV} {m m':Ac} {ys ys':List AV} {k:AV→Ac→Prop} (h:x=x') (h':m=m') (h'':ys=ys'):inK av e te x m ys k=inK av e te x' m' ys' k:=by rw[h,h',h'']
def Qjq (b:Bool) (q p:Prop):Prop:=if b=true then q else p
@[simp] theorem Qy8 (q p:Prop):Qjq true q p=q:=(rfl)
@[simp] theorem Qvx (q p:Prop):Qjq false q p=p:=(rfl)
@[congr] theorem Qvd {b b':Bool} {q p:Prop} (h:b=b'):Qjq b q p=Qjq b' q p:=by rw[h]
@[simp] theorem Q03 (ro:Nat→Bool) (d:Tmp):roO ro (some d)=ro d:=(rfl)
@[simp] theorem Q0v (ro:Nat→Bool):roO ro none=false:=(rfl)
@[simp] theorem Qu0 (x y:Operand) (t:TypeId):E0 P cf ⟨d,.call ⟨.builtin .append,#[x,y],#[t,t]⟩,ty,p,a,g⟩ K s↔Qv (Ai P t) fun ti=>eK (Od ti.cls) fun e=>Qv (Ai P e) fun te=>Gv (Fq s.m te.size (s.ev y)) fun ys =>
  Qjq (roO cf.ro d) (inK cf.av e te (s.ev x) s.m ys (I8 K s d)) (Qbv cf.av e te (s.ev x) s.m ys (I8 K s d)):=by
 unfold E0 Fc Qv eK Gv Qbv inK Qjq;simp only;cases hro:roO cf.ro d with
 |true =>
  simp only[if_true];constructor
  ·rintro⟨x',y',t',ti,e,te,l,ys,h1,h2,q1,q2,q3,q4,q5,q6,q7,q8,q9,b,i,n,g1,g2,g3,g4,g5⟩;simp only[List.cons.injEq,and_true]at h1 h2;obtain⟨rfl,rfl⟩:=h1;obtain⟨rfl,_⟩:=h2;exact⟨ti,q1,e,Dk.2 q2,te,q3,ys,q6,q4,q5,q7,by rw[g1];exact⟨l,g2,rfl,g3,q8,q9,g4,g5⟩⟩
  ·rintro⟨ti,q1,e,q2,te,q3,ys,q6,q4,q5,q7,q10⟩;split at q10
   ·rename_i b z i n g1
    obtain⟨l,g2,rfl,g3,q8,q9,g4,g5⟩:=q10;exact⟨x,y,t,ti,e,te,l,ys,rfl,rfl,q1,Dk.1 q2,q3,q4,q5,q6,q7,q8,q9,b,i,n,g1,g2,g3,g4,g5⟩
   ·exact q10.elim
 |false =>
 simp only[Bool.false_eq_true,if_false];constructor
 ·rintro⟨x',y',t',ti,e,te,l,ys,h1,h2,q1,q2,q3,q4,q5,q6,q7,q8,q9,q10⟩;simp only[List.cons.injEq,and_true]at h1 h2;obtain⟨rfl,rfl⟩:=h1;obtain⟨rfl,_⟩:=h2;refine⟨ti,q1,e,Dk.2 q2,te,q3,ys,q6,q4,q5,q7,?_⟩;rcases q10 with⟨g1,rfl,g3,g4⟩|⟨b,g1,g2,g3,g4⟩
  ·simp only[List.length_nil,Nat.zero_add]at q8 q9;have key:(if ys=[] then I8 K s d (.sl te.size []) s.m else Ae s.m cf.av fun b=>I8 K s d (.osl b te.size 0 ys.length) (s.m.set b ⟨e,te.size,ys⟩)):=by
    by_cases hy:ys=[]
    ·rw[if_pos hy];exact g3 hy
    ·rw[if_neg hy];exact fun b=>g4 hy b
   rcases g1 with g1|g1<;>rw[g1]<;>exact⟨q8,q9,key⟩
  ·rw[g1];exact⟨l,g2,rfl,rfl,rfl,g3,q8,q9,g4⟩
 ·rintro⟨ti,q1,e,q2,te,q3,ys,q6,q4,q5,q7,q10⟩;split at q10
  ·rename_i g1
   obtain⟨q8,q9,g2⟩:=q10;refine⟨x,y,t,ti,e,te,[],ys,rfl,rfl,q1,Dk.1 q2,q3,q4,q5,q6,q7,by simpa using q8,by simpa using q9,.inl ⟨.inl g1,rfl,fun hy=>by rwa [if_pos hy]at g2,fun hy=>by rw[if_neg hy]at g2;exact g2⟩⟩
  ·rename_i g1
   obtain⟨q8,q9,g2⟩:=q10;refine⟨x,y,t,ti,e,te,[],ys,rfl,rfl,q1,Dk.1 q2,q3,q4,q5,q6,q7,by simpa using q8,by simpa using q9,.inl ⟨.inr g1,rfl,fun hy=>by rwa [if_pos hy]at g2,fun hy=>by rw[if_neg hy]at g2;exact g2⟩⟩
  ·rename_i b z i n g1
   obtain⟨l,g2,rfl,rfl,rfl,g3,q8,q9,g4⟩:=q10;exact⟨x,y,t,ti,e,te,l,ys,rfl,rfl,q1,Dk.1 q2,q3,q4,q5,q6,q7,q8,q9,.inr ⟨b,g1,g2,g3,g4⟩⟩
  ·exact q10.elim
def Xb (x:Option Fb) (k:Fb→Prop):Prop:=∃b,x=some b∧k b
@[simp] theorem Qzq (b:Fb) (k:Fb→Prop):Xb (some b) k↔k b:=by simp[Xb]
@[congr] theorem Qwo {x y:Option Fb} {k:Fb→Prop} (h:x=y):Xb x k=Xb y k:=by rw[h]
def Qcs (x:AV) (m:Ac) (ys:List AV) (k:AV→Ac→Prop):Prop :=
 match x with
 |.osl b z i n=>Xb (m b) fun blk=>z=1∧blk.z=1∧i+n≤blk.l.length∧(ys.all fun v=>v.cells.length==1&&v.cells.all AV.one)=true∧k (.int .i64 (min ys.length n:Nat)) (m.set b {blk with l:=blk.l.take i++ys.take n++blk.l.drop (i+min ys.length n)})
 |_=>False
@[simp] theorem Qyh (b z i n:Nat) (m:Ac) (ys:List AV) (k:AV→Ac→Prop):Qcs (.osl b z i n) m ys k↔Xb (m b) fun blk=>z=1∧blk.z=1∧i+n≤blk.l.length∧(ys.all fun v=>v.cells.length==1&&v.cells.all AV.one)=true∧k (.int .i64 (min ys.length n:Nat)) (m.set b {blk with l:=blk.l.take i++ys.take n++blk.l.drop (i+min ys.length n)}):=Iff.rfl
@[congr] theorem Qtj {x x':AV} {m m':Ac} {ys ys':List AV} {k:AV→Ac→Prop} (h:x=x') (h':m=m') (h'':ys=ys'):Qcs x m ys k=Qcs x' m' ys' k:=by rw[h,h',h'']
@[simp] theorem Q1i (x y:Operand) (t t':TypeId):E0 P cf ⟨d,.call ⟨.builtin .copy,#[x,y],#[t,t']⟩,ty,p,a,g⟩ K s↔Qv (Ai P t) fun ti=>eK (Od ti.cls) fun e=>Qv (Ai P e) fun te=>te.size=1∧Gv (Fq s.m 1 (s.ev y)) fun ys =>
  Qcs (s.ev x) s.m ys (I8 K s d):=by
 unfold E0 Fc Qv eK Gv Qcs Xb;simp only;constructor
 ·rintro⟨x',y',t1,t2,ti,e,te,b,i,n,blk,ys,h1,h2,q1,q2,q3,q4,q5,q6,q7,q8,q9,q10,q11⟩;simp only[List.cons.injEq,and_true]at h1 h2;obtain⟨rfl,rfl⟩:=h1;obtain⟨rfl,_⟩:=h2;exact⟨ti,q1,e,Dk.2 q2,te,q3,q4,ys,q9,by rw[q5];exact⟨blk,q6,rfl,q7,q8,q10,q11⟩⟩
 ·rintro⟨ti,q1,e,q2,te,q3,q4,ys,q9,q10⟩;split at q10
  ·rename_i b z i n g1
   obtain⟨blk,q6,rfl,q7,q8,q11,q12⟩:=q10;exact⟨x,y,t,t',ti,e,te,b,i,n,blk,ys,rfl,rfl,q1,Dk.1 q2,q3,q4,g1,q6,q7,q8,q9,q11,q12⟩
  ·exact q10.elim
def Wn (ti:TI) (a v:AV) (m:Ac) (k:Ac→Prop):Prop :=
 match a with
 |.ptr b z i j=>Xb (m b) fun blk=>blk.z=z∧Ea (blk.l[i]?) fun old=>v.cells.length=ti.size∧j+ti.size≤z∧(v.cells.all AV.one)=true∧k (m.set b {blk with l:=blk.l.set i (Cd z ti.size old v j)})
 |_=>False
theorem Qfn (ti:TI) (b z i j:Nat) (v:AV) (m:Ac) (k:Ac→Prop):Wn ti (.ptr b z i j) v m k↔Xb (m b) fun blk=>blk.z=z∧Ea (blk.l[i]?) fun old=>v.cells.length=ti.size∧j+ti.size≤z∧(v.cells.all AV.one)=true∧k (m.set b {blk with l:=blk.l.set i (Cd z ti.size old v j)}):=Iff.rfl
attribute [simp] Qfn
@[congr] theorem Qo1 {ti:TI} {a v a' v':AV} {m m':Ac} {k:Ac→Prop} (h1:a=a') (h2:v=v') (h3:m=m'):Wn ti a v m k=Wn ti a' v' m' k:=by rw[h1,h2,h3]
@[simp] theorem Qyq (t:TypeId) (x y:Operand):E0 P cf ⟨d,.store t x y,ty,p,a,g⟩ K s↔Qv (Ai P t) fun ti=>Wn ti (s.ev x) (s.ev y) s.m fun m'=>K ({s with m:=m'}.put d .any):=by
 unfold E0 Fc Wn Qv Xb Ea;simp only;constructor
 ·rintro⟨ti,b,z,i,j,blk,old,h1,h2,h3,h4,h5,h6⟩;exact⟨ti,h1,by rw[h2];exact⟨blk,h3,h4,old,h5,h6⟩⟩
 ·rintro⟨ti,h1,h2⟩;split at h2
  ·rename_i b z i j he
   obtain⟨blk,h3,h4,old,h5,h6⟩:=h2;exact⟨ti,b,z,i,j,blk,old,h1,he,h3,h4,h5,h6⟩
  ·exact h2.elim
end
section
variable {P:Program} {av:Nat→Prop} {f:FuncId} {args:List AV} {m:Ac} {k:AV→Ac→Prop}
theorem Qjd (m:Ac):Ff m Ac.emp Ac.emp=m:=by funext b;rfl
theorem Aa.pure {R:AV→Prop} (h:Ak P f args Ac.emp fun v m'=>R v∧m'=Ac.emp) (hk:∀v,R v→k v m):Aa P av f args m k :=
 .inl ⟨Ac.emp,fun v m'=>R v∧m'=Ac.emp,fun b x hx=>(by cases hx),h,fun v g' hr _=>by rw[hr.2,Qjd];exact hk v hr.1⟩
theorem Aa.val {v:AV} (h:Ak P f args Ac.emp fun v' m'=>v'=v∧m'=Ac.emp) (hk:k v m):Aa P av f args m k :=
 Aa.pure (R:=fun v'=>v'=v) h (fun v' h'=>by rw[h'];exact hk)
end
end Go.Av
end
section
namespace Go.Av
section
variable (cls:Mc) (k:IntKind) (a b:Int)
@[simp] theorem Qyy:Cs cls .add (.int k a) (.int k b)=some (.int k (k.wrap (a+b))):=by simp[Cs,G5]
@[simp] theorem Q0e:Cs cls .sub (.int k a) (.int k b)=some (.int k (k.wrap (a-b))):=by simp[Cs,G5]
@[simp] theorem Qxw:Cs cls .mul (.int k a) (.int k b)=some (.int k (k.wrap (a*b))):=by simp[Cs,G5]
@[simp] theorem Qyp:Cs cls .quo (.int k a) (.int k b)=if b≠0 then some (.int k (k.wrap (a.tdiv b))) else none:=by simp[Cs,G5]
@[simp] theorem Qz4:Cs cls .rem (.int k a) (.int k b)=if b≠0 then some (.int k (a.tmod b)) else none:=by simp[Cs,G5]
@[simp] theorem Qx1:Cs cls .and (.int k a) (.int k b)=some (.int k (G9 .and k a b)):=by simp[Cs,G5]
@[simp] theorem Q0r:Cs cls .or (.int k a) (.int k b)=some (.int k (G9 .or k a b)):=by simp[Cs,G5]
@[simp] theorem Qz7:Cs cls .xor (.int k a) (.int k b)=some (.int k (G9 .xor k a b)):=by simp[Cs,G5]
@[simp] theorem Qpy:Cs cls .andNot (.int k a) (.int k b)=some (.int k (G9 .andNot k a b)):=by simp[Cs,G5]
@[simp] theorem Q0a:Cs cls .eql (.int k a) (.int k b)=some (.bool (decide (a=b))):=by
 simp only[Cs,G5,if_true,Option.some.injEq,AV.bool.injEq];exact(decide_eq_decide.2 Iff.rfl)
@[simp] theorem Qyl:Cs cls .neq (.int k a) (.int k b)=some (.bool (decide (a≠b))):=by
 simp only[Cs,G5,if_true,Option.some.injEq,AV.bool.injEq];by_cases h:a=b<;>simp[h]
@[simp] theorem Qx8:Cs cls .lss (.int k a) (.int k b)=some (.bool (decide (a<b))):=by simp[Cs,G5]
@[simp] theorem Qxg:Cs cls .leq (.int k a) (.int k b)=some (.bool (decide (a≤b))):=by simp[Cs,G5]
@[simp] theorem Qxq:Cs cls .gtr (.int k a) (.int k b)=some (.bool (decide (b<a))):=by simp[Cs,G5]
@[simp] theorem Qzs:Cs cls .geq (.int k a) (.int k b)=some (.bool (decide (b≤a))):=by simp[Cs,G5]
@[simp] theorem Qzh (k':IntKind):Cs cls .shl (.int k a) (.int k' b)=if 0≤b then some (.int k (k.wrap (a*2^(min b.toNat k.bits)))) else none:=(rfl)
@[simp] theorem Qxz (k':IntKind):Cs cls .shr (.int k a) (.int k' b)=if 0≤b then some (.int k (a.fdiv (2^(min b.toNat k.bits)))) else none:=(rfl)
@[simp] theorem Qvk (x y:Bool):Cs .bool .eql (.bool x) (.bool y)=some (.bool (x==y)):=(rfl)
@[simp] theorem Qup (x y:Bool):Cs .bool .neq (.bool x) (.bool y)=some (.bool (!(x==y))):=(rfl)
@[simp] theorem Qsd (e:TypeId) (x:AV):Cs (.slice e) .eql x .nil=(Nh x).map .bool:=by cases x<;>rfl
@[simp] theorem Qs2 (e:TypeId) (x:AV):Cs (.slice e) .neq x .nil=(Nh x).map fun b=>.bool !b:=by cases x<;>rfl
end
@[simp] theorem Qyf (cs:List AV):(AV.agg cs).cells=cs:=(rfl)
@[simp] theorem Qxp (k:IntKind) (n:Int):(AV.int k n).cells=[.int k n]:=(rfl)
@[simp] theorem Quw (b:Bool):(AV.bool b).cells=[.bool b]:=(rfl)
@[simp] theorem Q0c:AV.nil.cells=[.nil]:=(rfl)
@[simp] theorem Q1b (z:Nat) (l:List AV):(AV.sl z l).cells=[.sl z l]:=(rfl)
@[simp] theorem Qyc (b z i n:Nat):(AV.osl b z i n).cells=[.osl b z i n]:=(rfl)
@[simp] theorem Qxf (b z i j:Nat):(AV.ptr b z i j).cells=[.ptr b z i j]:=(rfl)
@[simp] theorem Qt6 (cs:List AV):(AV.rptr cs).cells=[.rptr cs]:=(rfl)
@[simp] theorem Qym (m:Ac) (z:Nat):Fq m z .nil=some []:=(rfl)
@[simp] theorem Q0h (m:Ac) (z z':Nat) (l:List AV):Fq m z (.sl z' l)=if z'=z then some l else none:=(rfl)
@[simp] theorem Qxx (m:Ac) (z b z' i n:Nat):Fq m z (.osl b z' i n)=if z'=z then (match m b with | some x=>if x.z=z∧i+n≤x.l.length then some ((x.l.drop i).take n) else none | none=>none) else none:=(rfl)
@[simp] theorem Qyk (c:Prop) [Decidable c] (l:List AV) (k:List AV→Prop):Gv (if c then some l else none) k↔c∧k l:=by split<;>simp_all[Gv]
@[simp] theorem A9 (m:Ac) (b:Nat) (x:Fb) (c:Nat):m.set b x c=if c=b then some x else m c:=rfl
@[simp] theorem Q3q (m:Ac) (b c:Nat):m.del b c=if c=b then none else m c:=rfl
@[simp] theorem Az (c:Nat):Ac.emp c=none:=rfl
theorem set_set (m:Ac) (b:Nat) (x y:Fb):(m.set b x).set b y=m.set b y:=by funext c;simp;split<;>simp_all
theorem Qo7 (m:Ac) (b:Nat) (x:Fb):(m.set b x).del b=m.del b:=by funext c;simp;split<;>simp_all
theorem Qjb (m:Ac) {b c:Nat} (x y:Fb) (h:b≠c):(m.set b x).set c y=(m.set c y).set b x:=Ac.set_comm m x y h
theorem Qq0 (b:Nat):Ac.emp.del b=Ac.emp:=by funext c;simp
@[simp] theorem Qws (size:Nat) (cs:List AV) (j:Nat):G7 false size cs j=cs[j]?:=(rfl)
@[simp] theorem Qt5 (size:Nat) (cs:List AV) (j:Nat):G7 true size cs j=if j+size≤cs.length then some (.agg ((cs.drop j).take size)) else none:=(rfl)
@[simp] theorem Ww (m:Ac) (ti:TI) (b z i j:Nat):Gb m ti (.ptr b z i j)=(match m b with | some x=>if x.z=z then (x.l[i]?).bind fun v=>G7 ti.cls.agg ti.size v.cells j else none | none=>none):=(rfl)
@[simp] theorem Qtk (m:Ac) (ti:TI) (cs:List AV):Gb m ti (.rptr cs)=G7 ti.cls.agg ti.size cs 0:=(rfl)
@[simp] theorem Qte (size bytes:Nat) (zero:AV) (fs:List (Nat × Nat × Option Bool)) (f:Nat) (cs:List AV):Nr ⟨size,bytes,.struct,zero,fs⟩ f (.agg cs)=(match fs[f]? with | some (off,sz,some g)=>G7 g sz cs off | _=>none):=by
 unfold Nr;simp only;rcases fs[f]? with _ | ⟨off,sz,_ | g⟩<;>rfl
@[simp] theorem Qof (size bytes:Nat) (zero:AV) (fs:List (Nat × Nat × Option Bool)) (f:Nat) (b z i j:Nat):Dd ⟨size,bytes,.struct,zero,fs⟩ f (.ptr b z i j)=(match fs[f]? with | some (off,sz,_)=>if sz=0 then none else some (.ptr b z i (j+off)) | _=>none):=by
 unfold Dd;simp only;split<;>split<;>simp_all
@[simp] theorem Qnd (size bytes:Nat) (zero:AV) (fs:List (Nat × Nat × Option Bool)) (f:Nat) (cs:List AV):Dd ⟨size,bytes,.struct,zero,fs⟩ f (.rptr cs)=(match fs[f]? with | some (off,sz,_)=>if sz=0 then none else some (.rptr (cs.drop off)) | _=>none):=by
 unfold Dd;simp only;split<;>split<;>simp_all
def AV.isAny:AV→Bool
 |.any=>true
 |_=>false
@[simp] theorem Qxs (k:IntKind) (n:Int):(AV.int k n).isAny=false:=(rfl)
@[simp] theorem Qu7 (b:Bool):(AV.bool b).isAny=false:=(rfl)
@[simp] theorem Qxa:AV.nil.isAny=false:=(rfl)
@[simp] theorem Q1s (z:Nat) (l:List AV):(AV.sl z l).isAny=false:=(rfl)
@[simp] theorem Qxb (b z i n:Nat):(AV.osl b z i n).isAny=false:=(rfl)
@[simp] theorem Qzn (cs:List AV):(AV.agg cs).isAny=false:=(rfl)
@[simp] theorem Q2j (k:IntKind) (n:Int):(AV.int k n).one=true:=(rfl)
@[simp] theorem Q0g (b:Bool):(AV.bool b).one=true:=(rfl)
@[simp] theorem Q23:AV.nil.one=true:=(rfl)
@[simp] theorem Q3t (z:Nat) (l:List AV):(AV.sl z l).one=true:=(rfl)
@[simp] theorem Q3a (b z i n:Nat):(AV.osl b z i n).one=true:=(rfl)
@[simp] theorem Q2l (b z i j:Nat):(AV.ptr b z i j).one=true:=(rfl)
@[simp] theorem Q1z (cs:List AV):(AV.rptr cs).one=true:=(rfl)
@[simp] theorem Q3l (f:Nat) (cs:List AV):(AV.fn f cs).one=true:=(rfl)
@[simp] theorem Q0k (f:Nat) (cs:List AV):(AV.fn f cs).cells=[.fn f cs]:=rfl
@[simp] theorem Qut (places:List (Nat × Nat × Option Bool)) (cells:List AV):Jh places cells []=some cells:=(rfl)
@[simp] theorem Qrn (places:List (Nat × Nat × Option Bool)) (cells:List AV) (i:Nat) (v:AV) (rest:List (Nat × AV)):Jh places cells ((i,v)::rest)=(match places[i]? with
  |some (off,size,_)=>if v.cells.length=size∧off+size≤cells.length then (if v.isAny=true then none else Jh places (cells.take off++v.cells++cells.drop (off+size)) rest) else none
  |none=>none):=by
 cases v<;>rfl
@[simp] theorem Qnf (size bytes:Nat) (zs:List AV) (fs:List (Nat × Nat × Option Bool)) (parts:List (Nat × AV)):Qr ⟨size,bytes,.struct,.agg zs,fs⟩ parts=if fs.all (fun f=>f.2.1 != 0)=true then (Jh fs zs parts).map .agg else none:=(rfl)
@[simp] theorem Qn6 (z:Nat) (old v:AV):Cd z z old v 0=v:=by simp[Cd]
@[simp] theorem Qxy:Nh .nil=some true:=(rfl)
@[simp] theorem Qyi (b z i n:Nat):Nh (.osl b z i n)=some false:=(rfl)
@[simp] theorem Q1u (b:Bool):Qjj .not (.bool b)=some (.bool !b):=(rfl)
@[simp] theorem Q0o (k:IntKind) (n:Int):Qjj .neg (.int k n)=some (.int k (k.wrap (0-n))):=(rfl)
@[simp] theorem Qtt (k k':IntKind) (n:Int) (size bytes:Nat) (zero:AV) (fs:List (Nat × Nat × Option Bool)):U5 ⟨size,bytes,.int k,zero,fs⟩ (.int k' n)=some (.int k (k.wrap n)):=(rfl)
@[simp] theorem Q0n (e:TypeId) (z:Nat) (l:List AV) (size bytes:Nat) (zero:AV) (fs:List (Nat × Nat × Option Bool)):L4 ⟨size,bytes,.slice e,zero,fs⟩ (.sl z l)=some (.int .i64 l.length):=(rfl)
@[simp] theorem Qze (e:TypeId) (b z i n:Nat) (size bytes:Nat) (zero:AV) (fs:List (Nat × Nat × Option Bool)):L4 ⟨size,bytes,.slice e,zero,fs⟩ (.osl b z i n)=some (.int .i64 n):=(rfl)
@[simp] theorem Qzp (e:TypeId) (size bytes:Nat) (zero:AV) (fs:List (Nat × Nat × Option Bool)):L4 ⟨size,bytes,.slice e,zero,fs⟩ .nil=some (.int .i64 0):=(rfl)
@[simp] theorem Mc.agg_int (k:IntKind):(Mc.int k).agg=false:=(rfl)
@[simp] theorem Mc.agg_bool:Mc.bool.agg=false:=(rfl)
@[simp] theorem Mc.agg_slice (e:TypeId):(Mc.slice e).agg=false:=(rfl)
@[simp] theorem Mc.agg_ptr (e:TypeId):(Mc.ptr e).agg=false:=(rfl)
@[simp] theorem Mc.agg_struct:Mc.struct.agg=true:=(rfl)
@[simp] theorem Q05 (k:IntKind) (n:Int):Rd (.int k n)=.int k n:=(rfl)
@[simp] theorem Qyg (b:Bool):Rd (.bool b)=.bool b:=(rfl)
@[simp] theorem Q1k:Rd (.slice none 0 0)=.nil:=(rfl)
@[simp] theorem Qz1:Rd (.pointer none)=.nptr:=(rfl)
section
variable {P:Program} (size bytes:Nat) (e:TypeId) (zero:AV) (fs:List (Nat × Nat × Option Bool)) (k:IntKind) (n:Int)
@[simp] theorem Ie (z:Nat) (l:List AV):Ca P ⟨size,bytes,.slice e,zero,fs⟩ (.sl z l) (.int k n)=(Ai P e).bind fun te=>if z=te.size∧0≤n∧n<l.length then some (.rptr (l.getD n.toNat .any).cells) else none:=by
 unfold Ca;simp only;cases Ai P e<;>rfl
@[simp] theorem Qoj (b z i0 n0:Nat):Ca P ⟨size,bytes,.slice e,zero,fs⟩ (.osl b z i0 n0) (.int k n)=(Ai P e).bind fun te=>if z=te.size∧0≤n∧n<n0 then some (.ptr b z (i0+n.toNat) 0) else none:=by
 unfold Ca;simp only;cases Ai P e<;>rfl
@[simp] theorem Qd9 (z:Nat) (l:List AV) (lo hi:Option AV):Ih P ⟨size,bytes,.slice e,zero,fs⟩ (.sl z l) lo hi=(Ai P e).bind fun te=>if z=te.size then (E9 l.length lo hi).map fun(a,b)=>.sl z ((l.drop a).take (b-a)) else none:=by
 unfold Ih;simp only;cases Ai P e<;>rfl
end
@[simp] theorem Q16 (n:Nat) (k:IntKind) (h:Int):E9 n none (some (.int k h))=if 0≤h∧h≤n then some (0,h.toNat) else none:=by
 simp[E9,intOf?]
@[simp] theorem Qw2 (n:Nat) (k:IntKind) (l:Int):E9 n (some (.int k l)) none=if 0≤l∧l≤n then some (l.toNat,n) else none:=by
 simp[E9,intOf?]
@[simp] theorem Quv (n:Nat) (k k':IntKind) (l h:Int):E9 n (some (.int k l)) (some (.int k' h))=if 0≤l∧l≤h∧h≤n then some (l.toNat,h.toNat) else none:=by
 simp[E9,intOf?]
@[simp] theorem Qrd {α:Type} (c:Prop) [Decidable c] (v:α) (f:α→AV) (k:AV→Prop):Ea ((if c then some v else none).map f) k↔c∧k (f v):=by split<;>simp_all
section
variable {P:Program} {rs:List ResultVar} {R:AV→Ac→Prop} {s:St}
theorem Ah {vs:List AV} (hs:D5 P s rs=some vs) (v':AV) (hv:B2 s.m Ac.emp (oneOrTup vs) v') (hR:R v' Ac.emp):Q3 P rs R .ret s :=
 ⟨vs,hs,v',Ac.emp,⟨fun b x h=>by cases h⟩,hv,hR⟩
theorem Qme {vs:List AV} (hs:D5 P s rs=some vs) (v':AV) (hv:B2 s.m Ac.emp (oneOrTup vs) v') (hR:R v' Ac.emp):Q3 P rs R .normal s :=
 ⟨vs,hs,v',Ac.emp,⟨fun b x h=>by cases h⟩,hv,hR⟩
def Eo (m m':Ac):List AV→List AV→Prop
 |[],[]=>True
 |a::l,a'::l'=>B2 m m' a a'∧Eo m m' l l'
 |_,_=>False
theorem Dn {m m':Ac}:∀{l l':List AV},Eo m m' l l'→l'.length=l.length∧∀(k:Nat) (v v':AV),l[k]?=some v→l'[k]?=some v'→B2 m m' v v'
 |[],[],_=>⟨rfl,fun k v v' h=>by simp at h⟩
 |a::l,a'::l',h=>by
  obtain⟨h1,h2⟩:=Dn h.2;refine⟨by simp[h1],fun k v v' h3 h4=>?_⟩;rcases k with _ | k
  ·simp at h3 h4;subst h3;subst h4;exact h.1
  ·exact h2 k v v' (by simpa using h3) (by simpa using h4)
 |[],_::_,h=>h.elim
 |_::_,[],h=>h.elim
theorem B2.tupL {m m':Ac} {l l':List AV} (h:Eo m m' l l'):B2 m m' (.tup l) (.tup l'):=.tup _ _ (Dn h).1 (Dn h).2
theorem B2.aggL {m m':Ac} {l l':List AV} (h:Eo m m' l l'):B2 m m' (.agg l) (.agg l'):=.agg _ _ (Dn h).1 (Dn h).2
theorem B2.oneOrTup {m m':Ac} {l l':List AV} (h:Eo m m' l l'):B2 m m' (oneOrTup l) (oneOrTup l'):=by
 match l,l',h with
 |[],[],h=>exact B2.tupL h
 |[a],[a'],h=>exact h.1
 |a::b::l,a'::b'::l',h=>exact B2.tupL h
 |[_],_::_::_,h=>exact h.2.elim
 |_::_::_,[_],h=>exact h.2.elim
theorem Af {vs:List AV} (vs':List AV) (hs:D5 P s rs=some vs) (hv:Eo s.m Ac.emp vs vs') (hR:R (Av.oneOrTup vs') Ac.emp):Q3 P rs R .ret s:=Ah hs _ (B2.oneOrTup hv) hR
theorem Vq {vs:List AV} (vs':List AV) (hs:D5 P s rs=some vs) (hv:Eo s.m Ac.emp vs vs') (hR:R (Av.oneOrTup vs') Ac.emp):Q3 P rs R .normal s:=Qme hs _ (B2.oneOrTup hv) hR
theorem Cf {vs:List AV} (hs:D5 P s rs=some vs) (h1:∀b x,s.m b=some x→∀v∈x.l,v.cells.all AV.one=true) (hR:R (oneOrTup vs) s.m):Q3 P rs R .ret s :=
 ⟨vs,hs,_,s.m,Bm.refl _ h1,.same _,hR⟩
theorem Vw {vs:List AV} (hs:D5 P s rs=some vs) (h1:∀b x,s.m b=some x→∀v∈x.l,v.cells.all AV.one=true) (hR:R (oneOrTup vs) s.m):Q3 P rs R .normal s :=
 ⟨vs,hs,_,s.m,Bm.refl _ h1,.same _,hR⟩
end
section
variable {P:Program} {Q:Exit→St→Prop} {s:St}
theorem AW.sr {id:Nat} {ops:Array Oper} {y:Code} (h:Jo P (Dy.txt fun _=>false) ops ops.toList (fun s'=>s'.n=s.n→AW P y Q s') s) (hok:B1 s.n ops=true:=by kernel_rfl):AW P (.seq (.region id ops false) y) Q s :=
 AW.seq (AW.region _ hok h)
theorem AW.rg {id:Nat} {ops:Array Oper} (h:Jo P (Dy.txt fun _=>false) ops ops.toList (Q .normal) s) (hok:B1 s.n ops=true:=by kernel_rfl):AW P (.region id ops false) Q s :=
 AW.region _ hok h
theorem AW.cs {c:Operand} {x y:Code} {t:Bool} (h1:t=true→AW P x Q s) (h2:t=false→AW P y Q s) (hc:s.ev c=.bool t) (hok:G6 s.n c=true:=by rfl):AW P (.cond c x y) Q s :=
 AW.cond_split hok hc h1 h2
theorem AW.yes {c:Operand} {x y:Code} (h1:AW P x Q s) (hc:s.ev c=.bool true) (hok:G6 s.n c=true:=by rfl):AW P (.cond c x y) Q s:=AW.cond hok hc h1
theorem AW.no {c:Operand} {x y:Code} (h1:AW P y Q s) (hc:s.ev c=.bool false) (hok:G6 s.n c=true:=by rfl):AW P (.cond c x y) Q s:=AW.cond hok hc h1
end
@[simp] theorem Ol (m m':Ac):Eo m m' [] []↔True:=Iff.rfl
@[simp] theorem Na (m m':Ac) (a a':AV) (l l':List AV):Eo m m' (a::l) (a'::l')↔B2 m m' a a'∧Eo m m' l l':=Iff.rfl
@[simp] theorem Ek (m m':Ac) (a:AV):B2 m m' a a↔True:=iff_true_intro (.same a)
theorem Rp {m m':Ac}:∀{l l':List AV},l'.length=l.length→(∀(k:Nat) (v v':AV),l[k]?=some v→l'[k]?=some v'→B2 m m' v v')→Eo m m' l l'
 |[],[],_,_=>trivial
 |[],_::_,h,_=>by cases h
 |_::_,[],h,_=>by cases h
 |a::l,a'::l',h1,h2=>⟨h2 0 a a' rfl rfl,Rp (by simpa using h1) (fun k v v' q1 q2=>h2 (k+1) v v' (by simpa using q1) (by simpa using q2))⟩
theorem A7 (m m':Ac) (l:List AV):Eo m m' l l:=Rp rfl (fun k v v' h1 h2=>by rw[h1]at h2;cases h2;exact .same _)
@[simp] theorem V8 (m m':Ac) (l l':List AV):B2 m m' (.agg l) (.agg l')↔Eo m m' l l':=by
 constructor
 ·intro h;cases h with
  |same=>exact A7 _ _ _
  |agg _ _ h1 h2=>exact Rp h1 h2
 ·exact .aggL
@[simp] theorem Td (P:Program) (n:Nat) (L:List (Nat × AV)) (m:Ac) (t:Nat) (ty:TypeId):Mf P (S n L m) (.cell t ty)=if Nat.blt t n=true then (Ai P ty).bind fun ti=>(match look L t with | .ptr b z i j=>Gb m ti (.ptr b z i j) | .rptr cs=>Gb m ti (.rptr cs) | _=>none) else none:=(rfl)
@[simp] theorem Uz (P:Program) (n:Nat) (L:List (Nat × AV)) (m:Ac) (t:Nat):Mf P (S n L m) (.tmp t)=if Nat.blt t n=true then some (look L t) else none:=(rfl)
@[simp] theorem Sp (P:Program) (s:St):D5 P s []=some []:=(rfl)
@[simp] theorem Py (P:Program) (s:St) (r:ResultVar) (rs:List ResultVar):D5 P s (r::rs)=(Mf P s r).bind fun v=>(D5 P s rs).map (v::·):=(rfl)
@[simp] theorem Qq3 (v:AV):oneOrTup [v]=v:=(rfl)
@[simp] theorem Qo4 (u v:AV) (l:List AV):oneOrTup (u::v::l)=.tup (u::v::l):=(rfl)
end Go.Av
end
section
namespace Go.Av
section
variable {P:Program}
def X4 (P:Program) (cf:Dy) (ops:Array Oper) (x:Option Oper) (K:St→Prop) (s:St):Prop:=match x with
 |some o=>Cr P cf ops o K s
 |none=>False
@[congr] theorem Qrp {cf:Dy} {ops:Array Oper} {x x':Option Oper} {K:St→Prop} {s s':St} (h:x=x') (h':s=s'):X4 P cf ops x K s=X4 P cf ops x' K s':=by rw[h,h']
@[congr] theorem Qsc {cf:Dy} {ops:Array Oper} {l:List Nat} {K:St→Prop} {s s':St} (h:s=s'):Cm P cf ops l K s=Cm P cf ops l K s':=by rw[h]
@[simp] theorem Qzc (cf:Dy) (ops:Array Oper) (K:St→Prop) (s:St):Cm P cf ops [] K s=K s:=(rfl)
@[simp] theorem Qtv (cf:Dy) (ops:Array Oper) (i:Nat) (l:List Nat) (K:St→Prop) (s:St):Cm P cf ops (i::l) K s=X4 P cf ops (ops[i]?) (Cm P cf ops l K) s:=(rfl)
@[simp] theorem Qvl (cf:Dy) (ops:Array Oper) (K:St→Prop) (s:St) (d:Option Tmp) (op:Op) (t:TypeId) (p:String) (a:Array Edge) :
  X4 P cf ops (some {dst:=d,op:=op,type:=t,pos:=p,after:=a,guard:=none}) K s↔E0 P cf {dst:=d,op:=op,type:=t,pos:=p,after:=a,guard:=none} K s:=Iff.rfl
@[simp] theorem Qt3 (cf:Dy) (ops:Array Oper) (K:St→Prop) (s:St) (d:Option Tmp) (op:Op) (t:TypeId) (p:String) (a:Array Edge) (j:Nat) (want:Bool) :
  X4 P cf ops (some {dst:=d,op:=op,type:=t,pos:=p,after:=a,guard:=some (j,want)}) K s ↔
   Qb (U8 s ((ops[j]?).bind (·.dst))) want (E0 P cf {dst:=d,op:=op,type:=t,pos:=p,after:=a,guard:=some (j,want)} K s) (K (s.put d (.tup []))):=by
 unfold X4 Cr Db;simp only;cases (ops[j]?).bind (·.dst)with
 |none=>simp[U8,Qb,Nb]
 |some d' =>
  simp only[O0];exact Vj _ _ _ _
variable {Q:Exit→St→Prop} {s:St}
theorem AW.sd {id:Nat} {ops:Array Oper} {y:Code} (plan:List Nat) (hm:P.follows .mixedOrders=true) (h:Cm P ⟨fun _=>false,fun _=>False,true⟩ ops plan (fun s'=>s'.n=s.n→AW P y Q s') s)
  (hok:B1 s.n ops=true:=by kernel_rfl) (hp:Jm P (fun _=>false) ops plan=true:=by kernel_rfl):AW P (.seq (.region id ops true) y) Q s :=
 AW.seq (AW.draw (fun _=>false) (fun _=>False) plan hm hok hp (fun _ h=>h.elim) h)
theorem AW.rd {id:Nat} {ops:Array Oper} (plan:List Nat) (hm:P.follows .mixedOrders=true) (h:Cm P ⟨fun _=>false,fun _=>False,true⟩ ops plan (Q .normal) s)
  (hok:B1 s.n ops=true:=by kernel_rfl) (hp:Jm P (fun _=>false) ops plan=true:=by kernel_rfl):AW P (.region id ops true) Q s :=
 AW.draw (fun _=>false) (fun _=>False) plan hm hok hp (fun _ h=>h.elim) h
def roL (l:List Nat) (d:Nat):Bool:=l.contains d
@[simp] theorem Q2w (d:Nat):roL [] d=false:=(rfl)
@[simp] theorem Q04 (a:Nat) (l:List Nat) (d:Nat):roL (a::l) d=(d==a || roL l d):=(rfl)
theorem AW.rgR {id:Nat} {ops:Array Oper} (ro:List Nat) (h:Jo P (Dy.txt (roL ro)) ops ops.toList (Q .normal) s) (hok:B1 s.n ops=true:=by kernel_rfl):AW P (.region id ops false) Q s :=
 AW.region _ hok h
theorem AW.rdR {id:Nat} {ops:Array Oper} (ro:List Nat) (plan:List Nat) (hm:P.follows .mixedOrders=true) (h:Cm P ⟨roL ro,fun _=>False,true⟩ ops plan (Q .normal) s)
  (hok:B1 s.n ops=true:=by kernel_rfl) (hp:Jm P (roL ro) ops plan=true:=by kernel_rfl):AW P (.region id ops true) Q s :=
 AW.draw (roL ro) (fun _=>False) plan hm hok hp (fun _ h=>h.elim) h
theorem AW.rdA {id:Nat} {ops:Array Oper} (b:Nat) (plan:List Nat) (hm:P.follows .mixedOrders=true) (hb:s.m b≠none) (h:Cm P ⟨fun _=>false,fun c=>c=b,true⟩ ops plan (Q .normal) s)
  (hok:B1 s.n ops=true:=by kernel_rfl) (hp:Jm P (fun _=>false) ops plan=true:=by kernel_rfl):AW P (.region id ops true) Q s :=
 AW.draw (fun _=>false) (fun c=>c=b) plan hm hok hp (fun c h=>by rw[h];exact hb) h
def Qnh (l:List (Nat × Nat)) (r:Nat):Nat:=match l with
 |[]=>0
 |(k,b)::l=>if r=k then b else Qnh l r
def Y2 (l:List (Nat × Nat)) (r:Nat):Bool:=match l with
 |[]=>false
 |(k,_)::l=>r==k || Y2 l r
def J0:List Nat→Nat→Bool
 |[],_=>false
 |k::l,r=>r==k || J0 l r
theorem Qa1 (l:List (Nat × Nat)):Y2 l=J0 (l.map (·.1)):=by
 funext r
 induction l with
 |nil=>rfl
 |cons p l ih=>simp only[Y2,List.map_cons,J0,ih]
theorem Ru {l:List (Nat × Nat)} {r:Nat} (h:Y2 l r=true):∃b,(r,b)∈l∧Qnh l r=b:=by
 induction l with
 |nil=>cases h
 |cons p l ih =>
  obtain⟨k,b⟩:=p;by_cases hk:r=k
  ·subst hk;exact⟨b,by simp,by simp[Qnh]⟩
  ·have h':Y2 l r=true:=by simpa[Y2,hk]using h
   obtain⟨b',h1,h2⟩:=ih h';exact⟨b',by simp[h1],by simp[Qnh,hk,h2]⟩
theorem Ye {l:List Nat} {r:Nat} (h:J0 l r=true):r∈l:=by
 induction l with
 |nil=>cases h
 |cons k l ih =>
  by_cases hk:r=k
  ·simp[hk]
  ·exact List.mem_cons_of_mem _ (ih (by simpa[J0,hk]using h))
theorem AW.rdS {id:Nat} {ops:Array Oper} (l:List (Nat × Nat)) (rp wo bs:List Nat) (plan:List Nat) (hm:P.follows .mixedOrders=true) (hp1:∀p∈l,∀b z i j,s.r p.1=.ptr b z i j→b=p.2) (hp2:(l.map (·.2)).Nodup)
  (hrp:∀r∈rp,∀b z i j,s.r r≠.ptr b z i j) (hwo:∀r∈wo,∀b z i j,s.r r=.ptr b z i j→b ∉ bs) (hb:∀b∈bs,s.m b≠none)
  (h:Cm P ⟨fun _=>false,fun c=>c∈bs,true⟩ ops plan (Q .normal) s)
  (hok:B1 s.n ops=true:=by kernel_rfl) (hp:Ii P (fun _=>false) ⟨J0 (l.map (·.1)),J0 rp,J0 wo⟩ ops plan=true:=by kernel_rfl):AW P (.region id ops true) Q s:=by
 refine AW.drawS (fun _=>false) ⟨J0 (l.map (·.1)),J0 rp,J0 wo⟩ (Qnh l) (fun c=>c∈bs) ⟨fun r hr b z i j he=>?_,fun r r' hr hr' hne=>?_,fun r hr=>hrp r (Ye hr),fun r hr=>hwo r (Ye hr)⟩ plan hm hok hp hb h
 ·simp only at hr;rw[←Qa1]at hr;obtain⟨b',h1,h2⟩:=Ru hr;rw[h2];exact hp1 _ h1 b z i j he
 ·simp only at hr hr';rw[←Qa1]at hr hr';obtain⟨b1,h1,h2⟩:=Ru hr;obtain⟨b2,h3,h4⟩:=Ru hr';rw[h2,h4];intro e;subst e;obtain⟨i,hi⟩:=List.getElem?_of_mem h1;obtain⟨j,hj⟩:=List.getElem?_of_mem h3;have hij:i=j:=by
   have e1:(l.map (·.2))[i]?=some b1:=by rw[List.getElem?_map,hi];rfl
   have e2:(l.map (·.2))[j]?=some b1:=by rw[List.getElem?_map,hj];rfl
   have hil:i<(l.map (·.2)).length:=(List.getElem?_eq_some_iff.1 e1).1;exact(List.getElem?_inj hil hp2).1 (e1.trans e2.symm)
  subst hij;rw[hi]at hj;simp at hj;exact hne hj
@[simp] theorem Qy7 (av:Nat→Prop) (cs:List AV):Qpg av (.rptr cs)↔True:=Iff.rfl
@[simp] theorem Q1n (av:Nat→Prop) (b z i j:Nat):Qpg av (.ptr b z i j)↔av b:=Iff.rfl
end
end Go.Av
end
section
namespace Go.Av
open Go.Proofs
@[simp] theorem ti1:Ai Tryz.prog 1=some {size:=1,bytes:=8,cls:=.func,zero:=.nfn,fields:=[]}:=by kernel_rfl
@[simp] theorem ti2:Ai Tryz.prog 2=some {size:=1,bytes:=8,cls:=.int .i64,zero:=.int .i64 0,fields:=[]}:=by kernel_rfl
@[simp] theorem ti3:Ai Tryz.prog 3=some {size:=1,bytes:=8,cls:=.int .i64,zero:=.int .i64 0,fields:=[]}:=by kernel_rfl
@[simp] theorem ti4:Ai Tryz.prog 4=some {size:=1,bytes:=1,cls:=.bool,zero:=.bool false,fields:=[]}:=by kernel_rfl
@[simp] theorem ti5:Ai Tryz.prog 5=some {size:=1,bytes:=1,cls:=.int .u8,zero:=.int .u8 0,fields:=[]}:=by kernel_rfl
@[simp] theorem ti6:Ai Tryz.prog 6=some {size:=1,bytes:=1,cls:=.int .u8,zero:=.int .u8 0,fields:=[]}:=by kernel_rfl
@[simp] theorem ti7:Ai Tryz.prog 7=some {size:=4,bytes:=24,cls:=.struct,zero:=.agg [.int .i64 0,.int .i64 0,.bool false,.int .u8 0],fields:=[(0,1,some false),(1,1,some false),(2,1,some false),(3,1,some false)]}:=by kernel_rfl
@[simp] theorem ti8:Ai Tryz.prog 8=some {size:=4,bytes:=24,cls:=.struct,zero:=.agg [.int .i64 0,.int .i64 0,.bool false,.int .u8 0],fields:=[(0,1,some false),(1,1,some false),(2,1,some false),(3,1,some false)]}:=by kernel_rfl
@[simp] theorem Q5s:Ai Tryz.prog 12=some {size:=1,bytes:=8,cls:=.int .u64,zero:=.int .u64 0,fields:=[]}:=by kernel_rfl
@[simp] theorem Q5d:Ai Tryz.prog 13=some {size:=2,bytes:=24,cls:=.struct,zero:=.agg [.str ⟨#[]⟩,.int .u64 0],fields:=[(0,1,some false),(1,1,some false)]}:=by kernel_rfl
@[simp] theorem Q48:Ai Tryz.prog 14=some {size:=2,bytes:=24,cls:=.struct,zero:=.agg [.str ⟨#[]⟩,.int .u64 0],fields:=[(0,1,some false),(1,1,some false)]}:=by kernel_rfl
@[simp] theorem Q5j:Ai Tryz.prog 15=some {size:=1,bytes:=8,cls:=.ptr 191,zero:=.nptr,fields:=[]}:=by kernel_rfl
@[simp] theorem Q45:Ai Tryz.prog 16=some {size:=1,bytes:=8,cls:=.ptr 194,zero:=.nptr,fields:=[]}:=by kernel_rfl
@[simp] theorem Q5p:Ai Tryz.prog 17=some {size:=1,bytes:=8,cls:=.ptr 203,zero:=.nptr,fields:=[]}:=by kernel_rfl
@[simp] theorem Q5v:Ai Tryz.prog 18=some {size:=1,bytes:=8,cls:=.struct,zero:=.agg [.nptr],fields:=[(0,1,some false)]}:=by kernel_rfl
@[simp] theorem Q5q:Ai Tryz.prog 19=some {size:=1,bytes:=8,cls:=.struct,zero:=.agg [.nptr],fields:=[(0,1,some false)]}:=by kernel_rfl
@[simp] theorem Q5h:Ai Tryz.prog 21=some {size:=1,bytes:=4,cls:=.int .i32,zero:=.int .i32 0,fields:=[]}:=by kernel_rfl
@[simp] theorem Q5w:Ai Tryz.prog 22=some {size:=1,bytes:=24,cls:=.slice 46,zero:=.nil,fields:=[]}:=by kernel_rfl
@[simp] theorem Q5x:Ai Tryz.prog 23=some {size:=1,bytes:=8,cls:=.int .i64,zero:=.int .i64 0,fields:=[]}:=by kernel_rfl
@[simp] theorem Q5z:Ai Tryz.prog 25=some {size:=1,bytes:=24,cls:=.slice 3,zero:=.nil,fields:=[]}:=by kernel_rfl
@[simp] theorem Q5a:Ai Tryz.prog 35=some {size:=1,bytes:=24,cls:=.slice 25,zero:=.nil,fields:=[]}:=by kernel_rfl
@[simp] theorem Q44:Ai Tryz.prog 40=some {size:=1,bytes:=24,cls:=.slice 124,zero:=.nil,fields:=[]}:=by kernel_rfl
@[simp] theorem Q47:Ai Tryz.prog 41=some {size:=2,bytes:=32,cls:=.struct,zero:=.agg [.bool false,.nil],fields:=[(0,1,some false),(1,1,some false)]}:=by kernel_rfl
@[simp] theorem Q3y:Ai Tryz.prog 42=some {size:=2,bytes:=32,cls:=.struct,zero:=.agg [.bool false,.nil],fields:=[(0,1,some false),(1,1,some false)]}:=by kernel_rfl
@[simp] theorem Q5f:Ai Tryz.prog 43=some {size:=4,bytes:=64,cls:=.struct,zero:=.agg [.bool false,.nil,.bool false,.nil],fields:=[(0,2,some true),(2,2,some true)]}:=by kernel_rfl
@[simp] theorem Q3b:Ai Tryz.prog 44=some {size:=4,bytes:=64,cls:=.struct,zero:=.agg [.bool false,.nil,.bool false,.nil],fields:=[(0,2,some true),(2,2,some true)]}:=by kernel_rfl
@[simp] theorem Q5m:Ai Tryz.prog 45=some {size:=6,bytes:=80,cls:=.struct,zero:=.agg [.int .i64 0,.int .i64 0,.bool false,.nil,.bool false,.nil],fields:=[(0,1,some false),(1,1,some false),(2,4,some true)]}:=by kernel_rfl
@[simp] theorem Q49:Ai Tryz.prog 46=some {size:=6,bytes:=80,cls:=.struct,zero:=.agg [.int .i64 0,.int .i64 0,.bool false,.nil,.bool false,.nil],fields:=[(0,1,some false),(1,1,some false),(2,4,some true)]}:=by kernel_rfl
@[simp] theorem Q5l:Ai Tryz.prog 48=some {size:=1,bytes:=8,cls:=.func,zero:=.nfn,fields:=[]}:=by kernel_rfl
@[simp] theorem Q5c:Ai Tryz.prog 51=some {size:=1,bytes:=24,cls:=.slice 44,zero:=.nil,fields:=[]}:=by kernel_rfl
@[simp] theorem Q42:Ai Tryz.prog 53=some {size:=1,bytes:=24,cls:=.slice 51,zero:=.nil,fields:=[]}:=by kernel_rfl
@[simp] theorem Q5k:Ai Tryz.prog 67=some {size:=1,bytes:=8,cls:=.ptr 105,zero:=.nptr,fields:=[]}:=by kernel_rfl
@[simp] theorem Q5n:Ai Tryz.prog 72=some {size:=12,bytes:=12,cls:=.array 12 4,zero:=.agg (List.replicate 12 (.bool false)),fields:=[]}:=by kernel_rfl
@[simp] theorem Q5u:Ai Tryz.prog 73=some {size:=144,bytes:=144,cls:=.array 12 72,zero:=.agg (List.replicate 144 (.bool false)),fields:=[]}:=by kernel_rfl
@[simp] theorem Q5e:Ai Tryz.prog 79=some {size:=1,bytes:=8,cls:=.func,zero:=.nfn,fields:=[]}:=by kernel_rfl
@[simp] theorem Q4a:Ai Tryz.prog 100=some {size:=1,bytes:=8,cls:=.func,zero:=.nfn,fields:=[]}:=by kernel_rfl
@[simp] theorem Q4x:Ai Tryz.prog 104=some {size:=3,bytes:=72,cls:=.struct,zero:=.agg [.nil,.nil,.nil],fields:=[(0,1,some false),(1,1,some false),(2,1,some false)]}:=by kernel_rfl
@[simp] theorem Q4m:Ai Tryz.prog 105=some {size:=3,bytes:=72,cls:=.struct,zero:=.agg [.nil,.nil,.nil],fields:=[(0,1,some false),(1,1,some false),(2,1,some false)]}:=by kernel_rfl
@[simp] theorem Q4y:Ai Tryz.prog 110=some {size:=1,bytes:=8,cls:=.int .u64,zero:=.int .u64 0,fields:=[]}:=by kernel_rfl
@[simp] theorem Q4q:Ai Tryz.prog 116=some {size:=1,bytes:=8,cls:=.ptr 118,zero:=.nptr,fields:=[]}:=by kernel_rfl
@[simp] theorem Q35:Ai Tryz.prog 117=some {size:=1,bytes:=8,cls:=.struct,zero:=.agg [.int .i64 0],fields:=[(0,1,some false)]}:=by kernel_rfl
@[simp] theorem Q4w:Ai Tryz.prog 118=some {size:=1,bytes:=8,cls:=.struct,zero:=.agg [.int .i64 0],fields:=[(0,1,some false)]}:=by kernel_rfl
@[simp] theorem Q37:Ai Tryz.prog 121=some {size:=2,bytes:=16,cls:=.array 2 3,zero:=.agg [.int .i64 0,.int .i64 0],fields:=[]}:=by kernel_rfl
@[simp] theorem Q4f:Ai Tryz.prog 122=some {size:=1,bytes:=24,cls:=.slice 121,zero:=.nil,fields:=[]}:=by kernel_rfl
@[simp] theorem Q4h:Ai Tryz.prog 124=some {size:=1,bytes:=4,cls:=.int .u32,zero:=.int .u32 0,fields:=[]}:=by kernel_rfl
@[simp] theorem Q4n:Ai Tryz.prog 135=some {size:=1,bytes:=8,cls:=.int .u64,zero:=.int .u64 0,fields:=[]}:=by kernel_rfl
@[simp] theorem Q4p:Ai Tryz.prog 137=some {size:=1,bytes:=24,cls:=.slice 4,zero:=.nil,fields:=[]}:=by kernel_rfl
@[simp] theorem Q4d:Ai Tryz.prog 139=some {size:=1,bytes:=8,cls:=.int .i64,zero:=.int .i64 0,fields:=[]}:=by kernel_rfl
@[simp] theorem Q39:Ai Tryz.prog 165=some {size:=1,bytes:=8,cls:=.int .u64,zero:=.int .u64 0,fields:=[]}:=by kernel_rfl
@[simp] theorem Q4j:Ai Tryz.prog 169=some {size:=1,bytes:=8,cls:=.ptr 3,zero:=.nptr,fields:=[]}:=by kernel_rfl
@[simp] theorem Q4s:Ai Tryz.prog 180=some {size:=1,bytes:=8,cls:=.ptr 165,zero:=.nptr,fields:=[]}:=by kernel_rfl
@[simp] theorem Q36:Ai Tryz.prog 190=some {size:=4,bytes:=40,cls:=.struct,zero:=.agg [.nptr,.nptr,.nptr,.str ⟨#[]⟩],fields:=[(0,1,some false),(1,1,some false),(2,1,some false),(3,1,some false)]}:=by kernel_rfl
@[simp] theorem Q34:Ai Tryz.prog 191=some {size:=4,bytes:=40,cls:=.struct,zero:=.agg [.nptr,.nptr,.nptr,.str ⟨#[]⟩],fields:=[(0,1,some false),(1,1,some false),(2,1,some false),(3,1,some false)]}:=by kernel_rfl
@[simp] theorem Q4c:Ai Tryz.prog 192=some {size:=0,bytes:=0,cls:=.array 0 16,zero:=.agg [],fields:=[]}:=by kernel_rfl
@[simp] theorem Q4e:Ai Tryz.prog 193=some {size:=0,bytes:=0,cls:=.struct,zero:=.agg [],fields:=[(0,0,some true)]}:=by kernel_rfl
@[simp] theorem Q4t:Ai Tryz.prog 194=some {size:=0,bytes:=0,cls:=.struct,zero:=.agg [],fields:=[(0,0,some true)]}:=by kernel_rfl
@[simp] theorem Q4b:Ai Tryz.prog 196=some {size:=1,bytes:=1,cls:=.int .u8,zero:=.int .u8 0,fields:=[]}:=by kernel_rfl
@[simp] theorem Q40:Ai Tryz.prog 197=some {size:=1,bytes:=1,cls:=.int .u8,zero:=.int .u8 0,fields:=[]}:=by kernel_rfl
@[simp] theorem Q4u:Ai Tryz.prog 199=some {size:=1,bytes:=8,cls:=.ptr 5,zero:=.nptr,fields:=[]}:=by kernel_rfl
@[simp] theorem Q4k:Ai Tryz.prog 200=some {size:=1,bytes:=4,cls:=.int .i32,zero:=.int .i32 0,fields:=[]}:=by kernel_rfl
@[simp] theorem Q4i:Ai Tryz.prog 201=some {size:=1,bytes:=4,cls:=.int .i32,zero:=.int .i32 0,fields:=[]}:=by kernel_rfl
@[simp] theorem Q33:Ai Tryz.prog 202=some {size:=11,bytes:=48,cls:=.struct,zero:=.agg [.int .u64 0,.int .u64 0,.int .u32 0,.int .u8 0,.int .u8 0,.int .u8 0,.int .u8 0,.nfn,.nptr,.int .i32 0,.int .i32 0],fields:=[(0,1,some false),(1,1,some false),(2,1,some false),(3,1,some false),(4,1,some false),(5,1,some false),(6,1,some false),(7,1,some false),(8,1,some false),(9,1,some false),(10,1,some false)]}:=by kernel_rfl
@[simp] theorem Q4v:Ai Tryz.prog 203=some {size:=11,bytes:=48,cls:=.struct,zero:=.agg [.int .u64 0,.int .u64 0,.int .u32 0,.int .u8 0,.int .u8 0,.int .u8 0,.int .u8 0,.nfn,.nptr,.int .i32 0,.int .i32 0],fields:=[(0,1,some false),(1,1,some false),(2,1,some false),(3,1,some false),(4,1,some false),(5,1,some false),(6,1,some false),(7,1,some false),(8,1,some false),(9,1,some false),(10,1,some false)]}:=by kernel_rfl
end Go.Av
end
section
namespace Go.Av
def val:List Nat→Nat
 |[]=>0
 |x::l=>x+4294967296*val l
def Ap (n:Nat):List Nat :=
 if h:n=0 then [] else n % 4294967296::Ap (n / 4294967296)
termination_by n
decreasing_by omega
def Lb (l:List Nat):Prop:=∀x∈l,x<4294967296
def Fe (l:List Nat):List Nat:=(l.reverse.dropWhile (·==0)).reverse
theorem Bg:Ap 0=[]:=by rw[Ap];simp
theorem Li {n:Nat} (h:n≠0):Ap n=n % 4294967296::Ap (n / 4294967296):=by rw[Ap];simp[h]
theorem A5 (n:Nat):val (Ap n)=n:=by
 induction n using Nat.strongRecOn with
 |_ n ih =>
  by_cases h:n=0
  ·subst h;rw[Bg];rfl
  ·rw[Li h,val,ih _ (by omega)];omega
theorem Bb (n:Nat):Lb (Ap n):=by
 induction n using Nat.strongRecOn with
 |_ n ih =>
  by_cases h:n=0
  ·subst h;rw[Bg];exact fun x hx=>by cases hx
  ·rw[Li h];intro x hx;rcases List.mem_cons.1 hx with rfl | hx
   ·omega
   ·exact ih _ (by omega) x hx
theorem Ha (a b:List Nat):val (a++b)=val a+4294967296^a.length*val b:=by
 induction a with
 |nil=>simp[val]
 |cons x a ih =>
  simp only[List.cons_append,val,ih,List.length_cons,Nat.pow_succ];rw[Nat.mul_add,←Nat.add_assoc,←Nat.mul_assoc,Nat.mul_comm 4294967296 (4294967296^a.length)]
theorem Lm {l:List Nat} (h:Lb l):val l<4294967296^l.length:=by
 induction l with
 |nil=>simp[val]
 |cons x l ih =>
  have h1:=h x (by simp);have h2:=ih (fun y hy=>h y (by simp[hy]));simp only[val,List.length_cons,Nat.pow_succ];omega
theorem Ln {l:List Nat} (h:Lb l) {k:Nat} (hk:l.length≤k):val l<4294967296^k :=
 Nat.lt_of_lt_of_le (Lm h) (Nat.pow_le_pow_right (by omega) hk)
theorem F9 (X s:Nat):X*(s % 4294967296)+X*4294967296*(s / 4294967296)=X*s:=by
 rw[Nat.mul_assoc,←Nat.mul_add,Nat.mod_add_div]
theorem Ml (l:List Nat):Fe (l++[0])=Fe l:=by simp[Fe]
theorem O6 (l:List Nat) {x:Nat} (h:x≠0):Fe (l++[x])=l++[x]:=by simp[Fe,h]
theorem Qgu {l:List Nat} (h:Lb l) (hl:∀l' x,l=l'++[x]→x≠0):Ap (val l)=l:=by
 induction l with
 |nil=>rw[val,Bg]
 |cons x l ih =>
  have h1:=h x (by simp);have h2:=ih (fun y hy=>h y (by simp[hy])) (fun l' y e=>hl (x::l') y (by rw[e];rfl));have hne:val (x::l)≠0:=by
   cases l with
   |nil=>simp[val];exact hl [] x rfl
   |cons y l =>
    intro e;have:val (y::l)=0:=by simp only[val]at e ⊢;omega
    rw[this,Bg]at h2;cases h2
  rw[Li hne];have e1:val (x::l) % 4294967296=x:=by simp only[val];omega
  have e2:val (x::l) / 4294967296=val l:=by simp only[val];omega
  rw[e1,e2,h2]
theorem Qn3 (n:Nat):∀l' x,Ap n=l'++[x]→x≠0:=by
 induction n using Nat.strongRecOn with
 |_ n ih =>
  intro l' x he;by_cases h:n=0
  ·subst h;rw[Bg]at he;cases l'<;>cases he
  ·rw[Li h]at he;cases l' with
   |nil =>
    simp only[List.nil_append,List.cons.injEq]at he;have h2:n / 4294967296=0:=by
     have:=A5 (n / 4294967296);rw[he.2]at this;exact this.symm
    omega
   |cons y l' =>
    simp only[List.cons_append,List.cons.injEq]at he;exact ih _ (by omega) l' x he.2
theorem Ck {l:List Nat} (h:Lb l):Fe l=Ap (val l):=by
 generalize hn:l.length=n
 induction n generalizing l with
 |zero=>have:=List.eq_nil_of_length_eq_zero hn;subst this;rw[val,Bg];rfl
 |succ n ih =>
  rcases List.eq_nil_or_concat l with rfl|⟨l2,x,rfl⟩
  ·cases hn
  ·rw[List.concat_eq_append]at *;by_cases hx:x=0
   ·subst hx;rw[Ml,Ha,ih (fun y hy=>h y (by simp[hy])) (by simpa using hn)];simp[val]
   ·rw[O6 _ hx,Qgu h];intro l' y e;have:=List.append_inj' e rfl;simp at this;rw[←this.2];exact hx
theorem A8 {n k:Nat}:(Ap n).length≤k↔n<4294967296^k:=by
 induction k generalizing n with
 |zero =>
  by_cases h:n=0
  ·subst h;simp[Bg]
  ·rw[Li h];simp;omega
 |succ k ih =>
  by_cases h:n=0
  ·subst h;simp[Bg];exact Nat.pow_pos (by omega)
  ·rw[Li h,List.length_cons,Nat.succ_le_succ_iff,ih,Nat.pow_succ];constructor
   ·intro h1;omega
   ·intro h1;exact Nat.div_lt_of_lt_mul (by omega)
theorem Cw {n:Nat}:Ap n=[]↔n=0:=by
 constructor
 ·intro h;rw[←A5 n,h];rfl
 ·rintro rfl;exact Bg
theorem Xn (l:List Nat) (i:Nat) (h:i<l.length):val (l.take (i+1))=val (l.take i)+4294967296^i*l[i]:=by
 have e:l.take (i+1)=l.take i++[l[i]]:=by rw[List.take_add_one,List.getElem?_eq_getElem h];rfl
 rw[e,Ha];simp[val,Nat.min_eq_left (Nat.le_of_lt h)]
theorem Ax (l:List Nat) (i:Nat) (h:l.length≤i):val (l.take i)=val l:=by rw[List.take_of_length_le h]
theorem Lb.set {l:List Nat} (h:Lb l) (i x:Nat) (hx:x<4294967296):Lb (l.set i x):=by
 intro y hy;rcases List.mem_or_eq_of_mem_set hy with hy | rfl
 ·exact h y hy
 ·exact hx
theorem Lb.rep (n:Nat):Lb (List.replicate n 0):=by
 intro x hx;rw[(List.mem_replicate.1 hx).2];omega
theorem Lb.get {l:List Nat} (h:Lb l) (i:Nat) (hi:i<l.length):l[i]<4294967296:=h _ (List.getElem_mem hi)
theorem Lu (n:Nat):val (List.replicate n 0)=0:=by
 induction n with
 |zero=>rfl
 |succ n ih=>simp[List.replicate_succ,val,ih]
theorem I9 {x y:Nat} (h:(Ap x).length<(Ap y).length):x<y:=by
 rcases Nat.lt_or_ge x y with h1|h1
 ·exact h1
 ·have h2:=(A8 (n:=x) (k:=(Ap x).length)).1 (Nat.le_refl _);have h3:=(A8 (n:=y) (k:=(Ap x).length)).2 (by omega);omega
theorem Lz {x y:Nat} (h:x≤y):(Ap x).length≤(Ap y).length:=by
 rcases Nat.lt_or_ge (Ap y).length (Ap x).length with h1|h1
 ·have:=I9 h1;omega
 ·exact h1
theorem Lb.take {l:List Nat} (h:Lb l) (k:Nat):Lb (l.take k):=fun x hx=>h x (List.mem_of_mem_take hx)
theorem Jq {l:List Nat} (h:Lb l) (k:Nat):val (l.take k)<4294967296^k:=Ln (h.take k) (by simp;omega)
def Hn (x y:Nat):Int:=if x<y then -1 else if x=y then 0 else 1
theorem Ug {x y:Nat} (h:x<y):Hn x y=-1:=by simp[Hn,h]
theorem Ue {x y:Nat} (h:y<x):Hn x y=1:=by simp[Hn,show ¬x<y by omega,show x≠y by omega]
theorem Qgy {x y:Nat} (h:x=y):Hn x y=0:=by simp[Hn,h]
end Go.Av
end
