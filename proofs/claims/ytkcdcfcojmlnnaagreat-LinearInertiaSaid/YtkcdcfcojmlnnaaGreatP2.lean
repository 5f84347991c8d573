/- A part of the proof. -/
import Derived.Test.YtkcdcfcojmlnnaaGreatP1
import Derived.Test.YtkcdcfcojmlnnaaGreatProg
set_option linter.all false
set_option exponentiation.threshold 5000
set_option maxRecDepth 10000
section
namespace Go.Av
/-- What follows, of a value; of a value and the memory. -/
def contV (K : St → Prop) (s : St) (d : Option Tmp) : AV → Prop := fun v => K (s.put d v)
def contM (K : St → Prop) (s : St) (d : Option Tmp) : AV → Mem → Prop := fun v m => K ({ s with m := m }.put d v)
@[simp] theorem contV_app (K : St → Prop) (s : St) (d : Option Tmp) (v : AV) : contV K s d v = K (s.put d v) := (rfl)
@[simp] theorem contM_app (K : St → Prop) (s : St) (d : Option Tmp) (v : AV) (m : Mem) : (contM K s d) v m = K ({ s with m := m }.put d v) := (rfl)
section
variable (P : Program) (cf : Cfg) (K : St → Prop) (s : St) (d : Option Tmp) (ty : TypeId) (p : String) (a : Array Edge) (g : Option (Nat × Bool))
@[simp] theorem S_r' (n : Nat) (L : List (Nat × AV)) (m : Mem) : (S n L m).r = look L := (rfl)
@[simp] theorem aop_move (x : Operand) : aop P cf ⟨d, .move x, ty, p, a, g⟩ K s ↔ K (s.put d (s.ev x)) := by
  show optK (some (s.ev x)) _ ↔ _
  simp
@[simp] theorem aop_assign (x : Operand) : aop P cf ⟨d, .assign x, ty, p, a, g⟩ K s ↔ K (s.put d (s.ev x)) := by
  show optK (some (s.ev x)) _ ↔ _
  simp
def pickAV (c a b : AV) : Option AV := match c with | .bool t => some (if t = true then a else b) | _ => none
@[simp] theorem pickAV_bool (t : Bool) (a b : AV) : pickAV (.bool t) a b = some (if t = true then a else b) := (rfl)
@[simp] theorem aop_pick (c x y : Operand) : aop P cf ⟨d, .pick c x y, ty, p, a, g⟩ K s ↔ optK (pickAV (s.ev c) (s.ev x) (s.ev y)) (contV K s d) := Iff.rfl
@[simp] theorem aop_build (t : TypeId) (parts : Array (Nat × Operand)) : aop P cf ⟨d, .build t parts, ty, p, a, g⟩ K s ↔ optK ((tinfo P t).bind fun ti => buildAV ti (parts.toList.map fun p => (p.1, s.ev p.2))) (contV K s d) := Iff.rfl
@[simp] theorem aop_load (t : TypeId) (x : Operand) (ro : Nat → Bool) : aop P (Cfg.txt ro) ⟨d, .load t x, ty, p, a, g⟩ K s ↔ optK ((tinfo P t).bind fun ti => loadAV s.m ti (s.ev x)) (contV K s d) := by
  unfold aop eff Cfg.txt
  simp only [Bool.false_eq_true, false_implies, true_and]
  exact Iff.rfl
def avOk (av : Nat → Prop) : AV → Prop
  | .ptr b _ _ _ => av b
  | _ => True
@[simp] theorem aop_loadD (t : TypeId) (x : Operand) (ro : Nat → Bool) (av : Nat → Prop) : aop P ⟨ro, av, true⟩ ⟨d, .load t x, ty, p, a, g⟩ K s ↔ avOk av (s.ev x) ∧ optK ((tinfo P t).bind fun ti => loadAV s.m ti (s.ev x)) (contV K s d) := by
  unfold aop eff avOk
  simp only [true_implies]
  exact Iff.rfl
def nilCheckAV : AV → Option AV
  | .ptr b z i j => some (.ptr b z i j)
  | .rptr cs => some (.rptr cs)
  | .fn f cs => some (.fn f cs)
  | _ => none
@[simp] theorem aop_nilCheck (x : Operand) : aop P cf ⟨d, .nilCheck x, ty, p, a, g⟩ K s ↔ optK (nilCheckAV (s.ev x)) (contV K s d) := by
  unfold aop eff evQ nilCheckAV
  simp only
  split <;> simp_all
@[simp] theorem aop_binOp (op : BinOp) (t u : TypeId) (x y : Operand) : aop P cf ⟨d, .binOp op t x y u, ty, p, a, g⟩ K s ↔ optK ((tinfo P t).bind fun ti => evBin ti.cls op (s.ev x) (s.ev y)) (contV K s d) := Iff.rfl
@[simp] theorem aop_unOp (op : UnOp) (t : TypeId) (x : Operand) : aop P cf ⟨d, .unOp op t x, ty, p, a, g⟩ K s ↔ optK (unAV op (s.ev x)) (contV K s d) := Iff.rfl
@[simp] theorem aop_convert (t u : TypeId) (x : Operand) : aop P cf ⟨d, .convert t u x, ty, p, a, g⟩ K s ↔ optK ((tinfo P t).bind fun _ => (tinfo P u).bind fun td => convAV td (s.ev x)) (contV K s d) := Iff.rfl
@[simp] theorem aop_makeFunc (f : FuncId) (x y : Array Operand) : aop P cf ⟨d, .makeFunc (.func f) x y, ty, p, a, g⟩ K s ↔ optK (if x.size = 0 then some (.fn f (y.toList.map s.ev)) else none) (contV K s d) := Iff.rfl
@[simp] theorem aop_slice (t : TypeId) (x : Operand) (lo hi : Option Operand) : aop P cf ⟨d, .slice t x lo hi none, ty, p, a, g⟩ K s ↔ optK ((tinfo P t).bind fun ti => sliceAV P ti (s.ev x) (lo.map s.ev) (hi.map s.ev)) (contV K s d) := Iff.rfl
@[simp] theorem aop_fieldAddr (t : TypeId) (x : Operand) (f : Nat) : aop P cf ⟨d, .fieldAddr t x f, ty, p, a, g⟩ K s ↔ optK ((tinfo P t).bind fun ti => fieldAddrAV ti f (s.ev x)) (contV K s d) := Iff.rfl
@[simp] theorem aop_field (t : TypeId) (x : Operand) (f : Nat) : aop P cf ⟨d, .field t x f, ty, p, a, g⟩ K s ↔ optK ((tinfo P t).bind fun ti => fieldAV ti f (s.ev x)) (contV K s d) := Iff.rfl
@[simp] theorem aop_indexAddr (t : TypeId) (x i : Operand) : aop P cf ⟨d, .indexAddr t x i, ty, p, a, g⟩ K s ↔ optK ((tinfo P t).bind fun ti => indexAddrAV P ti (s.ev x) (s.ev i)) (contV K s d) := Iff.rfl
@[simp] theorem aop_index (t : TypeId) (x i : Operand) : aop P cf ⟨d, .index t x i, ty, p, a, g⟩ K s ↔ optK ((tinfo P t).bind fun ti => indexAV ti (s.ev x) (s.ev i)) (contV K s d) := Iff.rfl
def extractAV (v : AV) (i : Nat) : Option AV := match v with | .tup vs => vs[i]? | _ => none
@[simp] theorem extractAV_tup (vs : List AV) (i : Nat) : extractAV (.tup vs) i = vs[i]? := (rfl)
@[simp] theorem aop_extract (t : Operand) (i : Nat) : aop P cf ⟨d, .extract t i, ty, p, a, g⟩ K s ↔ optK (extractAV (s.ev t) i) (contV K s d) := Iff.rfl
@[simp] theorem aop_len (x : Operand) (t : TypeId) : aop P cf ⟨d, .call ⟨.builtin .len, #[x], #[t]⟩, ty, p, a, g⟩ K s ↔ optK ((tinfo P t).bind fun ti => lenAV ti (s.ev x)) (contV K s d) := Iff.rfl
def maxAV (x y : AV) : Option AV := match x, y with | .int k a, .int _ b => some (.int k (if a < b then b else a)) | _, _ => none
def minAV (x y : AV) : Option AV := match x, y with | .int k a, .int _ b => some (.int k (if b < a then b else a)) | _, _ => none
@[simp] theorem maxAV_int (k k' : IntKind) (a b : Int) : maxAV (.int k a) (.int k' b) = some (.int k (if a < b then b else a)) := (rfl)
@[simp] theorem minAV_int (k k' : IntKind) (a b : Int) : minAV (.int k a) (.int k' b) = some (.int k (if b < a then b else a)) := (rfl)
@[simp] theorem aop_max (x y : Operand) (ts : Array TypeId) : aop P cf ⟨d, .call ⟨.builtin .max, #[x, y], ts⟩, ty, p, a, g⟩ K s ↔ optK (maxAV (s.ev x) (s.ev y)) (contV K s d) := by
  unfold aop eff evQ maxAV
  simp only
  cases s.ev x <;> cases s.ev y <;> rfl
@[simp] theorem aop_min (x y : Operand) (ts : Array TypeId) : aop P cf ⟨d, .call ⟨.builtin .min, #[x, y], ts⟩, ty, p, a, g⟩ K s ↔ optK (minAV (s.ev x) (s.ev y)) (contV K s d) := by
  unfold aop eff evQ minAV
  simp only
  cases s.ev x <;> cases s.ev y <;> rfl
@[congr] theorem CallK_congr {av : Nat → Prop} {f : FuncId} {args args' : List AV} {m m' : Mem} {k : AV → Mem → Prop} (h1 : args = args') (h2 : m = m') : CallK P av f args m k = CallK P av f args' m' k := by rw [h1, h2]
@[simp] theorem aop_call (f : FuncId) (args : Array Operand) (ts : Array TypeId) : aop P cf ⟨d, .call ⟨.value (.func f), args, ts⟩, ty, p, a, g⟩ K s ↔ CallK P cf.av f (args.toList.map s.ev) s.m (contM K s d) := Iff.rfl
@[simp] theorem aop_callV (t : Tmp) (args : Array Operand) (ts : Array TypeId) : aop P cf ⟨d, .call ⟨.value (.tmp t), args, ts⟩, ty, p, a, g⟩ K s ↔ ∃ f caps, s.r t = .fn f caps ∧ CallK P cf.av f (args.toList.map s.ev ++ caps) s.m (contM K s d) := Iff.rfl
/-- Whatever free block it is. -/
def Fresh (m : Mem) (av : Nat → Prop) (k : Nat → Prop) : Prop := ∀ b, m b = none → ¬ av b → k b
@[congr] theorem Fresh_congr {m m' : Mem} {av : Nat → Prop} {k : Nat → Prop} (h : m = m') : Fresh m av k = Fresh m' av k := by rw [h]
theorem Fresh.intro {m : Mem} {av : Nat → Prop} {k : Nat → Prop} (h : ∀ b, m b = none → k b) : Fresh m av k := fun b hb _ => h b hb
def tiK (x : Option TI) (k : TI → Prop) : Prop := ∃ ti, x = some ti ∧ k ti
@[simp] theorem tiK_some (ti : TI) (k : TI → Prop) : tiK (some ti) k ↔ k ti := by simp [tiK]
@[congr] theorem tiK_congr {x y : Option TI} {k : TI → Prop} (h : x = y) : tiK x k = tiK y k := by rw [h]
def newV (av : Nat → Prop) (ro : Bool) (t : TypeId) (z : Nat) (v : AV) (m : Mem) (k : AV → Mem → Prop) : Prop :=
  v ≠ .any ∧ if ro = true then k (.rptr v.cells) m else v.cells.length = z ∧ 0 < z ∧ (v.cells.all AV.one) = true ∧ Fresh m av fun b => k (.ptr b z 0 0) (m.set b ⟨t, z, [v]⟩)
@[congr] theorem newV_congr {av : Nat → Prop} {ro : Bool} {t : TypeId} {z : Nat} {v v' : AV} {m m' : Mem} {k : AV → Mem → Prop} (h : v = v') (h' : m = m') : newV av ro t z v m k = newV av ro t z v' m' k := by rw [h, h']
@[simp] theorem newV_ro (av : Nat → Prop) (t : TypeId) (z : Nat) (v : AV) (m : Mem) (k : AV → Mem → Prop) : newV av true t z v m k ↔ v ≠ .any ∧ k (.rptr v.cells) m := by simp [newV]
@[simp] theorem newV_own (av : Nat → Prop) (t : TypeId) (z : Nat) (v : AV) (m : Mem) (k : AV → Mem → Prop) : newV av false t z v m k ↔ v ≠ .any ∧ v.cells.length = z ∧ 0 < z ∧ (v.cells.all AV.one) = true ∧ Fresh m av fun b => k (.ptr b z 0 0) (m.set b ⟨t, z, [v]⟩) := by simp [newV]
@[simp] theorem aop_alloc (d : Tmp) (t : TypeId) : aop P cf ⟨some d, .alloc t, ty, p, a, g⟩ K s ↔ tiK (tinfo P t) fun ti => newV cf.av (cf.ro d) t ti.size ti.zero s.m (contM K s (some d)) := Iff.rfl
@[simp] theorem aop_box (d : Tmp) (t : TypeId) (x : Operand) : aop P cf ⟨some d, .box t x, ty, p, a, g⟩ K s ↔ tiK (tinfo P t) fun ti => newV cf.av (cf.ro d) t ti.size (s.ev x) s.m (contM K s (some d)) := Iff.rfl
@[simp] theorem txt_ro (ro : Nat → Bool) (d : Nat) : (Cfg.txt ro).ro d = ro d := rfl
@[simp] theorem txt_av (ro : Nat → Bool) : (Cfg.txt ro).av = fun _ => False := rfl
/-- A new slice of these elements. -/
def newS (av : Nat → Prop) (ro : Bool) (e : TypeId) (z : Nat) (l : List AV) (m : Mem) (k : AV → Mem → Prop) : Prop :=
  if ro = true then k (.sl z l) m else Fresh m av fun b => k (.osl b z 0 l.length) (m.set b ⟨e, z, l⟩)
@[congr] theorem newS_congr {av : Nat → Prop} {ro : Bool} {e : TypeId} {z : Nat} {l l' : List AV} {m m' : Mem} {k : AV → Mem → Prop} (h : l = l') (h' : m = m') : newS av ro e z l m k = newS av ro e z l' m' k := by rw [h, h']
@[simp] theorem newS_ro (av : Nat → Prop) (e : TypeId) (z : Nat) (l : List AV) (m : Mem) (k : AV → Mem → Prop) : newS av true e z l m k ↔ k (.sl z l) m := by simp [newS]
@[simp] theorem newS_own (av : Nat → Prop) (e : TypeId) (z : Nat) (l : List AV) (m : Mem) (k : AV → Mem → Prop) : newS av false e z l m k ↔ Fresh m av fun b => k (.osl b z 0 l.length) (m.set b ⟨e, z, l⟩) := by simp [newS]
def elemT : Cls → Option TypeId
  | .slice e => some e
  | _ => none
@[simp] theorem elemT_slice (e : TypeId) : elemT (.slice e) = some e := (rfl)
theorem elemT_eq {c : Cls} {e : TypeId} : elemT c = some e ↔ c = .slice e := by cases c <;> simp [elemT]
def eK (x : Option TypeId) (k : TypeId → Prop) : Prop := ∃ e, x = some e ∧ k e
@[simp] theorem eK_some (e : TypeId) (k : TypeId → Prop) : eK (some e) k ↔ k e := by simp [eK]
@[congr] theorem eK_congr {x y : Option TypeId} {k : TypeId → Prop} (h : x = y) : eK x k = eK y k := by rw [h]
/-- The parts stand in order. -/
def okIdx : List (Nat × Operand) → Nat → Nat → Bool
  | [], i, n => i == n
  | (j, _) :: l, i, n => j == i && okIdx l (i + 1) n
@[simp] theorem okIdx_nil (i n : Nat) : okIdx [] i n = (i == n) := (rfl)
@[simp] theorem okIdx_cons (j : Nat) (o : Operand) (l : List (Nat × Operand)) (i n : Nat) : okIdx ((j, o) :: l) i n = (j == i && okIdx l (i + 1) n) := (rfl)
theorem okIdx_range (l : List (Nat × Operand)) (i n : Nat) (h : okIdx l i n = true) : l.map (·.1) = List.range' i l.length ∧ n = i + l.length := by
  induction l generalizing i with
  | nil => simp at h; simp [h]
  | cons p l ih =>
    obtain ⟨j, o⟩ := p
    simp at h
    obtain ⟨rfl, h2⟩ := h
    have := ih _ h2
    simp [List.range'_succ, this]; omega
@[simp] theorem aop_buildSlice (d : Tmp) (t : TypeId) (len : Nat) (parts : Array (Nat × Operand)) (h : okIdx parts.toList 0 len = true) :
    aop P cf ⟨some d, .buildSlice t len parts, ty, p, a, g⟩ K s ↔ tiK (tinfo P t) fun ti => eK (elemT ti.cls) fun e => tiK (tinfo P e) fun te => 0 < te.size ∧ len * te.size ≤ 16777216 ∧ ((parts.toList.map fun (p : Nat × Operand) => s.ev p.2).all fun v => v.cells.length == te.size && v.cells.all AV.one) = true ∧
      newS cf.av (cf.ro d) e te.size (parts.toList.map fun (p : Nat × Operand) => s.ev p.2) s.m (contM K s (some d)) := by
  obtain ⟨h4, h5⟩ := okIdx_range _ 0 len h
  rw [Nat.zero_add] at h5
  rw [← h5, ← List.range_eq_range'] at h4
  have hlen : (parts.toList.map fun (p : Nat × Operand) => s.ev p.2).length = len := by rw [List.length_map, h5]
  unfold aop eff tiK eK newS
  simp only [hlen]
  constructor
  · rintro ⟨ti, e, te, q1, q2, q3, q4, q5, q6, q7, q8⟩
    exact ⟨ti, q1, e, elemT_eq.2 q2, te, q3, q4, q5, q7, q8⟩
  · rintro ⟨ti, q1, e, q2, te, q3, q4, q5, q7, q8⟩
    exact ⟨ti, e, te, q1, elemT_eq.1 q2, q3, q4, q5, h4, q7, q8⟩
/-- The lengths of a slice that is made. -/
def madeK (te : TI) (x y : AV) (k : Nat → Prop) : Prop :=
  match x, y with
  | .int _ n, .int _ n' => 0 ≤ n ∧ n ≤ n' ∧ 0 < te.size ∧ 0 < te.bytes ∧ (te.bytes : Int) * n' ≤ 281474976710656 ∧ te.zero.cells.length = te.size ∧ (te.zero.cells.all AV.one) = true ∧ k n.toNat
  | _, _ => False
@[simp] theorem madeK_int (te : TI) (k1 k2 : IntKind) (n n' : Int) (k : Nat → Prop) : madeK te (.int k1 n) (.int k2 n') k ↔ 0 ≤ n ∧ n ≤ n' ∧ 0 < te.size ∧ 0 < te.bytes ∧ (te.bytes : Int) * n' ≤ 281474976710656 ∧ te.zero.cells.length = te.size ∧ (te.zero.cells.all AV.one) = true ∧ k n.toNat := Iff.rfl
@[congr] theorem madeK_congr {te : TI} {x y x' y' : AV} {k : Nat → Prop} (h : x = x') (h' : y = y') : madeK te x y k = madeK te x' y' k := by rw [h, h']
@[simp] theorem aop_makeSlice (t : TypeId) (l c : Operand) : aop P cf ⟨d, .makeSlice t l c, ty, p, a, g⟩ K s ↔ tiK (tinfo P t) fun ti => eK (elemT ti.cls) fun e => tiK (tinfo P e) fun te => madeK te (s.ev l) (s.ev c) fun n =>
    Fresh s.m cf.av fun b => K ({ s with m := s.m.set b ⟨e, te.size, List.replicate n te.zero⟩ }.put d (.osl b te.size 0 n)) := by
  unfold aop eff tiK eK madeK
  constructor
  · rintro ⟨ti, e, te, k1, n, k2, n', q1, q2, q3, q4, q5, q6, q7, q8, q9, q10, q11, q12, q13⟩
    exact ⟨ti, q1, e, elemT_eq.2 q2, te, q3, by rw [q4, q5]; exact ⟨q6, q7, q8, q9, q10, q11, q12, q13⟩⟩
  · rintro ⟨ti, q1, e, q2, te, q3, q4⟩
    split at q4
    · rename_i k1 n k2 n' e1 e2
      obtain ⟨q6, q7, q8, q9, q10, q11, q12, q13⟩ := q4
      exact ⟨ti, e, te, k1, n, k2, n', q1, elemT_eq.1 q2, q3, e1, e2, q6, q7, q8, q9, q10, q11, q12, q13⟩
    · exact q4.elim
/-- Appending: the elements that are added; the slice; the memory. -/
def appK (av : Nat → Prop) (e : TypeId) (te : TI) (x : AV) (m : Mem) (ys : List AV) (k : AV → Mem → Prop) : Prop :=
  0 < te.size ∧ te.zero.cells.length = te.size ∧ (ys.all fun v => v.cells.length == te.size && v.cells.all AV.one) = true ∧
  match x with
  | .nil => (ys.length + ys.length / 4 + 192) * te.bytes ≤ 281474976710656 ∧ ys.length ≤ maxLen ∧ (if ys = [] then k (.sl te.size []) m else Fresh m av fun b => k (.osl b te.size 0 ys.length) (m.set b ⟨e, te.size, ys⟩))
  | .osl b z i n => ∃ l, m b = some ⟨e, te.size, l⟩ ∧ z = te.size ∧ i = 0 ∧ n = l.length ∧ ¬ av b ∧ ((l.length + ys.length) + (l.length + ys.length) / 4 + 192) * te.bytes ≤ 281474976710656 ∧ l.length + ys.length ≤ maxLen ∧
      Fresh (m.del b) av fun b' => k (.osl b' te.size 0 (l.length + ys.length)) ((m.del b).set b' ⟨e, te.size, l ++ ys⟩)
  | _ => False
@[simp] theorem appK_osl (av : Nat → Prop) (e : TypeId) (te : TI) (b z i n : Nat) (m : Mem) (ys : List AV) (k : AV → Mem → Prop) : appK av e te (.osl b z i n) m ys k ↔ 0 < te.size ∧ te.zero.cells.length = te.size ∧ (ys.all fun v => v.cells.length == te.size && v.cells.all AV.one) = true ∧
  ∃ l, m b = some ⟨e, te.size, l⟩ ∧ z = te.size ∧ i = 0 ∧ n = l.length ∧ ¬ av b ∧ ((l.length + ys.length) + (l.length + ys.length) / 4 + 192) * te.bytes ≤ 281474976710656 ∧ l.length + ys.length ≤ maxLen ∧
      Fresh (m.del b) av fun b' => k (.osl b' te.size 0 (l.length + ys.length)) ((m.del b).set b' ⟨e, te.size, l ++ ys⟩) := Iff.rfl
@[simp] theorem appK_nil (av : Nat → Prop) (e : TypeId) (te : TI) (m : Mem) (ys : List AV) (k : AV → Mem → Prop) : appK av e te .nil m ys k ↔ 0 < te.size ∧ te.zero.cells.length = te.size ∧ (ys.all fun v => v.cells.length == te.size && v.cells.all AV.one) = true ∧
  (ys.length + ys.length / 4 + 192) * te.bytes ≤ 281474976710656 ∧ ys.length ≤ maxLen ∧ (if ys = [] then k (.sl te.size []) m else Fresh m av fun b => k (.osl b te.size 0 ys.length) (m.set b ⟨e, te.size, ys⟩)) := Iff.rfl
@[congr] theorem appK_congr {av : Nat → Prop} {e : TypeId} {te : TI} {x x' : AV} {m m' : Mem} {ys ys' : List AV} {k : AV → Mem → Prop} (h : x = x') (h' : m = m') (h'' : ys = ys') : appK av e te x m ys k = appK av e te x' m' ys' k := by rw [h, h', h'']
def elemsK (x : Option (List AV)) (k : List AV → Prop) : Prop := ∃ l, x = some l ∧ k l
@[simp] theorem elemsK_some (l : List AV) (k : List AV → Prop) : elemsK (some l) k ↔ k l := by simp [elemsK]
@[congr] theorem elemsK_congr {x y : Option (List AV)} {k : List AV → Prop} (h : x = y) : elemsK x k = elemsK y k := by rw [h]
@[simp] theorem aop_append (x y : Operand) (t : TypeId) : aop P cf ⟨d, .call ⟨.builtin .append, #[x, y], #[t, t]⟩, ty, p, a, g⟩ K s ↔ tiK (tinfo P t) fun ti => eK (elemT ti.cls) fun e => tiK (tinfo P e) fun te => elemsK (elems s.m te.size (s.ev y)) fun ys =>
    appK cf.av e te (s.ev x) s.m ys (contM K s d) := by
  unfold aop eff tiK eK elemsK appK
  simp only; constructor
  · rintro ⟨x', y', t', ti, e, te, l, ys, h1, h2, q1, q2, q3, q4, q5, q6, q7, q8, q9, q10⟩
    simp only [List.cons.injEq, and_true] at h1 h2
    obtain ⟨rfl, rfl⟩ := h1
    obtain ⟨rfl, _⟩ := h2
    refine ⟨ti, q1, e, elemT_eq.2 q2, te, q3, ys, q6, q4, q5, q7, ?_⟩
    rcases q10 with ⟨g1, rfl, g3, g4⟩ | ⟨b, g1, g2, g3, g4⟩
    · rw [g1]
      simp only [List.length_nil, Nat.zero_add] at q8 q9
      refine ⟨q8, q9, ?_⟩
      by_cases hy : ys = []
      · rw [if_pos hy]; exact g3 hy
      · rw [if_neg hy]; exact fun b => g4 hy b
    · rw [g1]
      exact ⟨l, g2, rfl, rfl, rfl, g3, q8, q9, g4⟩
  · rintro ⟨ti, q1, e, q2, te, q3, ys, q6, q4, q5, q7, q10⟩
    split at q10
    · rename_i g1
      obtain ⟨q8, q9, g2⟩ := q10
      refine ⟨x, y, t, ti, e, te, [], ys, rfl, rfl, q1, elemT_eq.1 q2, q3, q4, q5, q6, q7, by simpa using q8, by simpa using q9, .inl ⟨g1, rfl, fun hy => by rwa [if_pos hy] at g2, fun hy => by rw [if_neg hy] at g2; exact g2⟩⟩
    · rename_i b z i n g1
      obtain ⟨l, g2, rfl, rfl, rfl, g3, q8, q9, g4⟩ := q10
      exact ⟨x, y, t, ti, e, te, l, ys, rfl, rfl, q1, elemT_eq.1 q2, q3, q4, q5, q6, q7, q8, q9, .inr ⟨b, g1, g2, g3, g4⟩⟩
    · exact q10.elim
/-- A block. -/
def blkK (x : Option Blk) (k : Blk → Prop) : Prop := ∃ b, x = some b ∧ k b
@[simp] theorem blkK_some (b : Blk) (k : Blk → Prop) : blkK (some b) k ↔ k b := by simp [blkK]
@[congr] theorem blkK_congr {x y : Option Blk} {k : Blk → Prop} (h : x = y) : blkK x k = blkK y k := by rw [h]
/-- Copying onto a part of a slice. -/
def copyK (x : AV) (m : Mem) (ys : List AV) (k : AV → Mem → Prop) : Prop :=
  match x with
  | .osl b z i n => blkK (m b) fun blk => z = 1 ∧ blk.z = 1 ∧ i + n ≤ blk.l.length ∧ (ys.all fun v => v.cells.length == 1 && v.cells.all AV.one) = true ∧ k (.int .i64 (min ys.length n : Nat)) (m.set b { blk with l := blk.l.take i ++ ys.take n ++ blk.l.drop (i + min ys.length n) })
  | _ => False
@[simp] theorem copyK_osl (b z i n : Nat) (m : Mem) (ys : List AV) (k : AV → Mem → Prop) : copyK (.osl b z i n) m ys k ↔ blkK (m b) fun blk => z = 1 ∧ blk.z = 1 ∧ i + n ≤ blk.l.length ∧ (ys.all fun v => v.cells.length == 1 && v.cells.all AV.one) = true ∧ k (.int .i64 (min ys.length n : Nat)) (m.set b { blk with l := blk.l.take i ++ ys.take n ++ blk.l.drop (i + min ys.length n) }) := Iff.rfl
@[congr] theorem copyK_congr {x x' : AV} {m m' : Mem} {ys ys' : List AV} {k : AV → Mem → Prop} (h : x = x') (h' : m = m') (h'' : ys = ys') : copyK x m ys k = copyK x' m' ys' k := by rw [h, h', h'']
@[simp] theorem aop_copy (x y : Operand) (t t' : TypeId) : aop P cf ⟨d, .call ⟨.builtin .copy, #[x, y], #[t, t']⟩, ty, p, a, g⟩ K s ↔ tiK (tinfo P t) fun ti => eK (elemT ti.cls) fun e => tiK (tinfo P e) fun te => te.size = 1 ∧ elemsK (elems s.m 1 (s.ev y)) fun ys =>
    copyK (s.ev x) s.m ys (contM K s d) := by
  unfold aop eff tiK eK elemsK copyK blkK
  simp only; constructor
  · rintro ⟨x', y', t1, t2, ti, e, te, b, i, n, blk, ys, h1, h2, q1, q2, q3, q4, q5, q6, q7, q8, q9, q10, q11⟩
    simp only [List.cons.injEq, and_true] at h1 h2
    obtain ⟨rfl, rfl⟩ := h1
    obtain ⟨rfl, _⟩ := h2
    exact ⟨ti, q1, e, elemT_eq.2 q2, te, q3, q4, ys, q9, by rw [q5]; exact ⟨blk, q6, rfl, q7, q8, q10, q11⟩⟩
  · rintro ⟨ti, q1, e, q2, te, q3, q4, ys, q9, q10⟩
    split at q10
    · rename_i b z i n g1
      obtain ⟨blk, q6, rfl, q7, q8, q11, q12⟩ := q10
      exact ⟨x, y, t, t', ti, e, te, b, i, n, blk, ys, rfl, rfl, q1, elemT_eq.1 q2, q3, q4, g1, q6, q7, q8, q9, q11, q12⟩
    · exact q10.elim
/-- Writing an element. -/
def storeK (ti : TI) (a v : AV) (m : Mem) (k : Mem → Prop) : Prop :=
  match a with
  | .ptr b z i j => blkK (m b) fun blk => blk.z = z ∧ optK (blk.l[i]?) fun old => v.cells.length = ti.size ∧ j + ti.size ≤ z ∧ (v.cells.all AV.one) = true ∧ k (m.set b { blk with l := blk.l.set i (storeElem z ti.size old v j) })
  | _ => False
theorem storeK_ptr (ti : TI) (b z i j : Nat) (v : AV) (m : Mem) (k : Mem → Prop) : storeK ti (.ptr b z i j) v m k ↔ blkK (m b) fun blk => blk.z = z ∧ optK (blk.l[i]?) fun old => v.cells.length = ti.size ∧ j + ti.size ≤ z ∧ (v.cells.all AV.one) = true ∧ k (m.set b { blk with l := blk.l.set i (storeElem z ti.size old v j) }) := Iff.rfl
attribute [simp] storeK_ptr
@[congr] theorem storeK_congr {ti : TI} {a v a' v' : AV} {m m' : Mem} {k : Mem → Prop} (h1 : a = a') (h2 : v = v') (h3 : m = m') : storeK ti a v m k = storeK ti a' v' m' k := by rw [h1, h2, h3]
@[simp] theorem aop_store (t : TypeId) (x y : Operand) : aop P cf ⟨d, .store t x y, ty, p, a, g⟩ K s ↔ tiK (tinfo P t) fun ti => storeK ti (s.ev x) (s.ev y) s.m fun m' => K ({ s with m := m' }.put d .any) := by
  unfold aop eff storeK tiK blkK optK
  simp only; constructor
  · rintro ⟨ti, b, z, i, j, blk, old, h1, h2, h3, h4, h5, h6⟩
    exact ⟨ti, h1, by rw [h2]; exact ⟨blk, h3, h4, old, h5, h6⟩⟩
  · rintro ⟨ti, h1, h2⟩
    split at h2
    · rename_i b z i j he
      obtain ⟨blk, h3, h4, old, h5, h6⟩ := h2
      exact ⟨ti, b, z, i, j, blk, old, h1, he, h3, h4, h5, h6⟩
    · exact h2.elim
end
section
variable {P : Program} {av : Nat → Prop} {f : FuncId} {args : List AV} {m : Mem} {k : AV → Mem → Prop}
theorem merge_emp (m : Mem) : merge m Mem.emp Mem.emp = m := by funext b; rfl
/-- A call that is handed nothing and keeps nothing. -/
theorem CallK.pure {R : AV → Prop} (h : ACall P f args Mem.emp fun v m' => R v ∧ m' = Mem.emp) (hk : ∀ v, R v → k v m) : CallK P av f args m k :=
  .inl ⟨Mem.emp, fun v m' => R v ∧ m' = Mem.emp, fun b x hx => (by cases hx), h, fun v g' hr _ => by rw [hr.2, merge_emp]; exact hk v hr.1⟩
theorem CallK.val {v : AV} (h : ACall P f args Mem.emp fun v' m' => v' = v ∧ m' = Mem.emp) (hk : k v m) : CallK P av f args m k :=
  CallK.pure (R := fun v' => v' = v) h (fun v' h' => by rw [h']; exact hk)
end
end Go.Av
end
section
namespace Go.Av
section
variable (cls : Cls) (k : IntKind) (a b : Int)
@[simp] theorem evBin_add : evBin cls .add (.int k a) (.int k b) = some (.int k (k.wrap (a + b))) := by simp [evBin, evInt]
@[simp] theorem evBin_sub : evBin cls .sub (.int k a) (.int k b) = some (.int k (k.wrap (a - b))) := by simp [evBin, evInt]
@[simp] theorem evBin_mul : evBin cls .mul (.int k a) (.int k b) = some (.int k (k.wrap (a * b))) := by simp [evBin, evInt]
@[simp] theorem evBin_quo : evBin cls .quo (.int k a) (.int k b) = if b ≠ 0 then some (.int k (k.wrap (a.tdiv b))) else none := by simp [evBin, evInt]
@[simp] theorem evBin_rem : evBin cls .rem (.int k a) (.int k b) = if b ≠ 0 then some (.int k (a.tmod b)) else none := by simp [evBin, evInt]
@[simp] theorem evBin_and : evBin cls .and (.int k a) (.int k b) = some (.int k (bitw .and k a b)) := by simp [evBin, evInt]
@[simp] theorem evBin_or : evBin cls .or (.int k a) (.int k b) = some (.int k (bitw .or k a b)) := by simp [evBin, evInt]
@[simp] theorem evBin_xor : evBin cls .xor (.int k a) (.int k b) = some (.int k (bitw .xor k a b)) := by simp [evBin, evInt]
@[simp] theorem evBin_andNot : evBin cls .andNot (.int k a) (.int k b) = some (.int k (bitw .andNot k a b)) := by simp [evBin, evInt]
@[simp] theorem evBin_eql : evBin cls .eql (.int k a) (.int k b) = some (.bool (decide (a = b))) := by
  simp only [evBin, evInt, if_true, Option.some.injEq, AV.bool.injEq]
  exact (decide_eq_decide.2 Iff.rfl)
@[simp] theorem evBin_neq : evBin cls .neq (.int k a) (.int k b) = some (.bool (decide (a ≠ b))) := by
  simp only [evBin, evInt, if_true, Option.some.injEq, AV.bool.injEq]
  by_cases h : a = b <;> simp [h]
@[simp] theorem evBin_lss : evBin cls .lss (.int k a) (.int k b) = some (.bool (decide (a < b))) := by simp [evBin, evInt]
@[simp] theorem evBin_leq : evBin cls .leq (.int k a) (.int k b) = some (.bool (decide (a ≤ b))) := by simp [evBin, evInt]
@[simp] theorem evBin_gtr : evBin cls .gtr (.int k a) (.int k b) = some (.bool (decide (b < a))) := by simp [evBin, evInt]
@[simp] theorem evBin_geq : evBin cls .geq (.int k a) (.int k b) = some (.bool (decide (b ≤ a))) := by simp [evBin, evInt]
@[simp] theorem evBin_shl (k' : IntKind) : evBin cls .shl (.int k a) (.int k' b) = if 0 ≤ b then some (.int k (k.wrap (a * 2 ^ (min b.toNat k.bits)))) else none := (rfl)
@[simp] theorem evBin_shr (k' : IntKind) : evBin cls .shr (.int k a) (.int k' b) = if 0 ≤ b then some (.int k (a.fdiv (2 ^ (min b.toNat k.bits)))) else none := (rfl)
@[simp] theorem evBin_beql (x y : Bool) : evBin .bool .eql (.bool x) (.bool y) = some (.bool (x == y)) := (rfl)
@[simp] theorem evBin_bneq (x y : Bool) : evBin .bool .neq (.bool x) (.bool y) = some (.bool (!(x == y))) := (rfl)
@[simp] theorem evBin_nileq (e : TypeId) (x : AV) : evBin (.slice e) .eql x .nil = (isNil x).map .bool := by cases x <;> rfl
@[simp] theorem evBin_nilne (e : TypeId) (x : AV) : evBin (.slice e) .neq x .nil = (isNil x).map fun b => .bool !b := by cases x <;> rfl
end
@[simp] theorem cells_agg (cs : List AV) : (AV.agg cs).cells = cs := (rfl)
@[simp] theorem cells_int (k : IntKind) (n : Int) : (AV.int k n).cells = [.int k n] := (rfl)
@[simp] theorem cells_bool (b : Bool) : (AV.bool b).cells = [.bool b] := (rfl)
@[simp] theorem cells_nil : AV.nil.cells = [.nil] := (rfl)
@[simp] theorem cells_sl (z : Nat) (l : List AV) : (AV.sl z l).cells = [.sl z l] := (rfl)
@[simp] theorem cells_osl (b z i n : Nat) : (AV.osl b z i n).cells = [.osl b z i n] := (rfl)
@[simp] theorem cells_ptr (b z i j : Nat) : (AV.ptr b z i j).cells = [.ptr b z i j] := (rfl)
@[simp] theorem cells_rptr (cs : List AV) : (AV.rptr cs).cells = [.rptr cs] := (rfl)
@[simp] theorem elems_nil (m : Mem) (z : Nat) : elems m z .nil = some [] := (rfl)
@[simp] theorem elems_sl (m : Mem) (z z' : Nat) (l : List AV) : elems m z (.sl z' l) = if z' = z then some l else none := (rfl)
@[simp] theorem elems_osl (m : Mem) (z b z' i n : Nat) : elems m z (.osl b z' i n) = if z' = z then (match m b with | some x => if x.z = z ∧ i + n ≤ x.l.length then some ((x.l.drop i).take n) else none | none => none) else none := (rfl)
@[simp] theorem elemsK_if (c : Prop) [Decidable c] (l : List AV) (k : List AV → Prop) : elemsK (if c then some l else none) k ↔ c ∧ k l := by split <;> simp_all [elemsK]
@[simp] theorem set_at (m : Mem) (b : Nat) (x : Blk) (c : Nat) : m.set b x c = if c = b then some x else m c := rfl
@[simp] theorem del_at (m : Mem) (b c : Nat) : m.del b c = if c = b then none else m c := rfl
@[simp] theorem emp_at (c : Nat) : Mem.emp c = none := rfl
theorem set_set (m : Mem) (b : Nat) (x y : Blk) : (m.set b x).set b y = m.set b y := by funext c; simp; split <;> simp_all
theorem set_del (m : Mem) (b : Nat) (x : Blk) : (m.set b x).del b = m.del b := by funext c; simp; split <;> simp_all
theorem set_comm' (m : Mem) {b c : Nat} (x y : Blk) (h : b ≠ c) : (m.set b x).set c y = (m.set c y).set b x := Mem.set_comm m x y h
theorem emp_del (b : Nat) : Mem.emp.del b = Mem.emp := by funext c; simp
@[simp] theorem partAV_one (size : Nat) (cs : List AV) (j : Nat) : partAV false size cs j = cs[j]? := (rfl)
@[simp] theorem partAV_agg (size : Nat) (cs : List AV) (j : Nat) : partAV true size cs j = if j + size ≤ cs.length then some (.agg ((cs.drop j).take size)) else none := (rfl)
@[simp] theorem loadAV_ptr (m : Mem) (ti : TI) (b z i j : Nat) : loadAV m ti (.ptr b z i j) = (match m b with | some x => if x.z = z then (x.l[i]?).bind fun v => partAV ti.cls.agg ti.size v.cells j else none | none => none) := (rfl)
@[simp] theorem loadAV_rptr (m : Mem) (ti : TI) (cs : List AV) : loadAV m ti (.rptr cs) = partAV ti.cls.agg ti.size cs 0 := (rfl)
@[simp] theorem fieldAV_agg (size bytes : Nat) (zero : AV) (fs : List (Nat × Nat × Option Bool)) (f : Nat) (cs : List AV) : fieldAV ⟨size, bytes, .struct, zero, fs⟩ f (.agg cs) = (match fs[f]? with | some (off, sz, some g) => partAV g sz cs off | _ => none) := by
  unfold fieldAV
  simp only
  rcases fs[f]? with _ | ⟨off, sz, _ | g⟩ <;> rfl
@[simp] theorem fieldAddr_ptr (size bytes : Nat) (zero : AV) (fs : List (Nat × Nat × Option Bool)) (f : Nat) (b z i j : Nat) : fieldAddrAV ⟨size, bytes, .struct, zero, fs⟩ f (.ptr b z i j) = (match fs[f]? with | some (off, sz, _) => if sz = 0 then none else some (.ptr b z i (j + off)) | _ => none) := by
  unfold fieldAddrAV
  simp only
  split <;> split <;> simp_all
@[simp] theorem fieldAddr_rptr (size bytes : Nat) (zero : AV) (fs : List (Nat × Nat × Option Bool)) (f : Nat) (cs : List AV) : fieldAddrAV ⟨size, bytes, .struct, zero, fs⟩ f (.rptr cs) = (match fs[f]? with | some (off, sz, _) => if sz = 0 then none else some (.rptr (cs.drop off)) | _ => none) := by
  unfold fieldAddrAV
  simp only
  split <;> split <;> simp_all
def AV.isAny : AV → Bool
  | .any => true
  | _ => false
@[simp] theorem isAny_int (k : IntKind) (n : Int) : (AV.int k n).isAny = false := (rfl)
@[simp] theorem isAny_bool (b : Bool) : (AV.bool b).isAny = false := (rfl)
@[simp] theorem isAny_nil : AV.nil.isAny = false := (rfl)
@[simp] theorem isAny_sl (z : Nat) (l : List AV) : (AV.sl z l).isAny = false := (rfl)
@[simp] theorem isAny_osl (b z i n : Nat) : (AV.osl b z i n).isAny = false := (rfl)
@[simp] theorem isAny_agg (cs : List AV) : (AV.agg cs).isAny = false := (rfl)
@[simp] theorem one_int (k : IntKind) (n : Int) : (AV.int k n).one = true := (rfl)
@[simp] theorem one_bool (b : Bool) : (AV.bool b).one = true := (rfl)
@[simp] theorem one_nil : AV.nil.one = true := (rfl)
@[simp] theorem one_sl (z : Nat) (l : List AV) : (AV.sl z l).one = true := (rfl)
@[simp] theorem one_osl (b z i n : Nat) : (AV.osl b z i n).one = true := (rfl)
@[simp] theorem one_ptr (b z i j : Nat) : (AV.ptr b z i j).one = true := (rfl)
@[simp] theorem one_rptr (cs : List AV) : (AV.rptr cs).one = true := (rfl)
@[simp] theorem one_fn (f : Nat) (cs : List AV) : (AV.fn f cs).one = true := (rfl)
@[simp] theorem cells_fn (f : Nat) (cs : List AV) : (AV.fn f cs).cells = [.fn f cs] := rfl
@[simp] theorem fillAV_nil (places : List (Nat × Nat × Option Bool)) (cells : List AV) : fillAV places cells [] = some cells := (rfl)
@[simp] theorem fillAV_cons (places : List (Nat × Nat × Option Bool)) (cells : List AV) (i : Nat) (v : AV) (rest : List (Nat × AV)) : fillAV places cells ((i, v) :: rest) = (match places[i]? with
    | some (off, size, _) => if v.cells.length = size ∧ off + size ≤ cells.length then (if v.isAny = true then none else fillAV places (cells.take off ++ v.cells ++ cells.drop (off + size)) rest) else none
    | none => none) := by
  cases v <;> rfl
@[simp] theorem buildAV_struct (size bytes : Nat) (zs : List AV) (fs : List (Nat × Nat × Option Bool)) (parts : List (Nat × AV)) : buildAV ⟨size, bytes, .struct, .agg zs, fs⟩ parts = if fs.all (fun f => f.2.1 != 0) = true then (fillAV fs zs parts).map .agg else none := (rfl)
@[simp] theorem storeElem_all (z : Nat) (old v : AV) : storeElem z z old v 0 = v := by simp [storeElem]
@[simp] theorem isNil_nil : isNil .nil = some true := (rfl)
@[simp] theorem isNil_osl (b z i n : Nat) : isNil (.osl b z i n) = some false := (rfl)
@[simp] theorem unAV_not (b : Bool) : unAV .not (.bool b) = some (.bool !b) := (rfl)
@[simp] theorem unAV_neg (k : IntKind) (n : Int) : unAV .neg (.int k n) = some (.int k (k.wrap (0 - n))) := (rfl)
@[simp] theorem convAV_int (k k' : IntKind) (n : Int) (size bytes : Nat) (zero : AV) (fs : List (Nat × Nat × Option Bool)) : convAV ⟨size, bytes, .int k, zero, fs⟩ (.int k' n) = some (.int k (k.wrap n)) := (rfl)
@[simp] theorem lenAV_sl (e : TypeId) (z : Nat) (l : List AV) (size bytes : Nat) (zero : AV) (fs : List (Nat × Nat × Option Bool)) : lenAV ⟨size, bytes, .slice e, zero, fs⟩ (.sl z l) = some (.int .i64 l.length) := (rfl)
@[simp] theorem lenAV_osl (e : TypeId) (b z i n : Nat) (size bytes : Nat) (zero : AV) (fs : List (Nat × Nat × Option Bool)) : lenAV ⟨size, bytes, .slice e, zero, fs⟩ (.osl b z i n) = some (.int .i64 n) := (rfl)
@[simp] theorem lenAV_nil (e : TypeId) (size bytes : Nat) (zero : AV) (fs : List (Nat × Nat × Option Bool)) : lenAV ⟨size, bytes, .slice e, zero, fs⟩ .nil = some (.int .i64 0) := (rfl)
@[simp] theorem Cls.agg_int (k : IntKind) : (Cls.int k).agg = false := (rfl)
@[simp] theorem Cls.agg_bool : Cls.bool.agg = false := (rfl)
@[simp] theorem Cls.agg_slice (e : TypeId) : (Cls.slice e).agg = false := (rfl)
@[simp] theorem Cls.agg_ptr (e : TypeId) : (Cls.ptr e).agg = false := (rfl)
@[simp] theorem Cls.agg_struct : Cls.struct.agg = true := (rfl)
@[simp] theorem avOf_int (k : IntKind) (n : Int) : avOf (.int k n) = .int k n := (rfl)
@[simp] theorem avOf_bool (b : Bool) : avOf (.bool b) = .bool b := (rfl)
@[simp] theorem avOf_nil : avOf (.slice none 0 0) = .nil := (rfl)
@[simp] theorem avOf_nptr : avOf (.pointer none) = .nptr := (rfl)
section
variable {P : Program} (size bytes : Nat) (e : TypeId) (zero : AV) (fs : List (Nat × Nat × Option Bool)) (k : IntKind) (n : Int)
@[simp] theorem indexAddr_sl (z : Nat) (l : List AV) : indexAddrAV P ⟨size, bytes, .slice e, zero, fs⟩ (.sl z l) (.int k n) = (tinfo P e).bind fun te => if z = te.size ∧ 0 ≤ n ∧ n < l.length then some (.rptr (l.getD n.toNat .any).cells) else none := by
  unfold indexAddrAV
  simp only
  cases tinfo P e <;> rfl
@[simp] theorem indexAddr_osl (b z i0 n0 : Nat) : indexAddrAV P ⟨size, bytes, .slice e, zero, fs⟩ (.osl b z i0 n0) (.int k n) = (tinfo P e).bind fun te => if z = te.size ∧ 0 ≤ n ∧ n < n0 then some (.ptr b z (i0 + n.toNat) 0) else none := by
  unfold indexAddrAV
  simp only
  cases tinfo P e <;> rfl
@[simp] theorem sliceAV_sl (z : Nat) (l : List AV) (lo hi : Option AV) : sliceAV P ⟨size, bytes, .slice e, zero, fs⟩ (.sl z l) lo hi = (tinfo P e).bind fun te => if z = te.size then (cutAV l.length lo hi).map fun (a, b) => .sl z ((l.drop a).take (b - a)) else none := by
  unfold sliceAV
  simp only
  cases tinfo P e <;> rfl
end
@[simp] theorem cutAV_to (n : Nat) (k : IntKind) (h : Int) : cutAV n none (some (.int k h)) = if 0 ≤ h ∧ h ≤ n then some (0, h.toNat) else none := by
  simp [cutAV, intOf?]
@[simp] theorem cutAV_from (n : Nat) (k : IntKind) (l : Int) : cutAV n (some (.int k l)) none = if 0 ≤ l ∧ l ≤ n then some (l.toNat, n) else none := by
  simp [cutAV, intOf?]
@[simp] theorem cutAV_both (n : Nat) (k k' : IntKind) (l h : Int) : cutAV n (some (.int k l)) (some (.int k' h)) = if 0 ≤ l ∧ l ≤ h ∧ h ≤ n then some (l.toNat, h.toNat) else none := by
  simp [cutAV, intOf?]
@[simp] theorem optK_map_if {α : Type} (c : Prop) [Decidable c] (v : α) (f : α → AV) (k : AV → Prop) : optK ((if c then some v else none).map f) k ↔ c ∧ k (f v) := by split <;> simp_all
section
variable {P : Program} {rs : List ResultVar} {R : AV → Mem → Prop} {s : St}
/-- The end of a function that leaves no memory of its own. -/
theorem ret_emp {vs : List AV} (hs : resList P s rs = some vs) (v' : AV) (hv : View s.m Mem.emp (oneOrTup vs) v') (hR : R v' Mem.emp) : retQ P rs R .ret s :=
  ⟨vs, hs, v', Mem.emp, ⟨fun b x h => by cases h⟩, hv, hR⟩
theorem ret_emp' {vs : List AV} (hs : resList P s rs = some vs) (v' : AV) (hv : View s.m Mem.emp (oneOrTup vs) v') (hR : R v' Mem.emp) : retQ P rs R .normal s :=
  ⟨vs, hs, v', Mem.emp, ⟨fun b x h => by cases h⟩, hv, hR⟩
/-- Values looked at anew, one by one. -/
def viewsL (m m' : Mem) : List AV → List AV → Prop
  | [], [] => True
  | a :: l, a' :: l' => View m m' a a' ∧ viewsL m m' l l'
  | _, _ => False
theorem viewsL_spec {m m' : Mem} : ∀ {l l' : List AV}, viewsL m m' l l' → l'.length = l.length ∧ ∀ (k : Nat) (v v' : AV), l[k]? = some v → l'[k]? = some v' → View m m' v v'
  | [], [], _ => ⟨rfl, fun k v v' h => by simp at h⟩
  | a :: l, a' :: l', h => by
    obtain ⟨h1, h2⟩ := viewsL_spec h.2
    refine ⟨by simp [h1], fun k v v' h3 h4 => ?_⟩
    rcases k with _ | k
    · simp at h3 h4; subst h3; subst h4; exact h.1
    · exact h2 k v v' (by simpa using h3) (by simpa using h4)
  | [], _ :: _, h => h.elim
  | _ :: _, [], h => h.elim
theorem View.tupL {m m' : Mem} {l l' : List AV} (h : viewsL m m' l l') : View m m' (.tup l) (.tup l') := .tup _ _ (viewsL_spec h).1 (viewsL_spec h).2
theorem View.aggL {m m' : Mem} {l l' : List AV} (h : viewsL m m' l l') : View m m' (.agg l) (.agg l') := .agg _ _ (viewsL_spec h).1 (viewsL_spec h).2
theorem View.oneOrTup {m m' : Mem} {l l' : List AV} (h : viewsL m m' l l') : View m m' (oneOrTup l) (oneOrTup l') := by
  match l, l', h with
  | [], [], h => exact View.tupL h
  | [a], [a'], h => exact h.1
  | a :: b :: l, a' :: b' :: l', h => exact View.tupL h
  | [_], _ :: _ :: _, h => exact h.2.elim
  | _ :: _ :: _, [_], h => exact h.2.elim
theorem ret_views {vs : List AV} (vs' : List AV) (hs : resList P s rs = some vs) (hv : viewsL s.m Mem.emp vs vs') (hR : R (Av.oneOrTup vs') Mem.emp) : retQ P rs R .ret s := ret_emp hs _ (View.oneOrTup hv) hR
theorem ret_views' {vs : List AV} (vs' : List AV) (hs : resList P s rs = some vs) (hv : viewsL s.m Mem.emp vs vs') (hR : R (Av.oneOrTup vs') Mem.emp) : retQ P rs R .normal s := ret_emp' hs _ (View.oneOrTup hv) hR
/-- The end of a function that leaves its memory as it is. -/
theorem ret_mem {vs : List AV} (hs : resList P s rs = some vs) (h1 : ∀ b x, s.m b = some x → ∀ v ∈ x.l, v.cells.all AV.one = true) (hR : R (oneOrTup vs) s.m) : retQ P rs R .ret s :=
  ⟨vs, hs, _, s.m, Recast.refl _ h1, .same _, hR⟩
end
section
variable {P : Program} {Q : Exit → St → Prop} {s : St}
/-- A region and what follows. -/
theorem AW.sr {id : Nat} {ops : Array Oper} {y : Code} (h : aops P (Cfg.txt fun _ => false) ops ops.toList (fun s' => s'.n = s.n → AW P y Q s') s) (hok : regionOk s.n ops = true := by kernel_rfl) : AW P (.seq (.region id ops false) y) Q s :=
  AW.seq (AW.region _ hok h)
theorem AW.rg {id : Nat} {ops : Array Oper} (h : aops P (Cfg.txt fun _ => false) ops ops.toList (Q .normal) s) (hok : regionOk s.n ops = true := by kernel_rfl) : AW P (.region id ops false) Q s :=
  AW.region _ hok h
theorem AW.cs {c : Operand} {x y : Code} {t : Bool} (h1 : t = true → AW P x Q s) (h2 : t = false → AW P y Q s) (hc : s.ev c = .bool t) (hok : opdOk s.n c = true := by rfl) : AW P (.cond c x y) Q s :=
  AW.cond_split hok hc h1 h2
theorem AW.yes {c : Operand} {x y : Code} (h1 : AW P x Q s) (hc : s.ev c = .bool true) (hok : opdOk s.n c = true := by rfl) : AW P (.cond c x y) Q s := AW.cond hok hc h1
theorem AW.no {c : Operand} {x y : Code} (h1 : AW P y Q s) (hc : s.ev c = .bool false) (hok : opdOk s.n c = true := by rfl) : AW P (.cond c x y) Q s := AW.cond hok hc h1
end
@[simp] theorem viewsL_nil (m m' : Mem) : viewsL m m' [] [] ↔ True := Iff.rfl
@[simp] theorem viewsL_cons (m m' : Mem) (a a' : AV) (l l' : List AV) : viewsL m m' (a :: l) (a' :: l') ↔ View m m' a a' ∧ viewsL m m' l l' := Iff.rfl
@[simp] theorem view_same (m m' : Mem) (a : AV) : View m m' a a ↔ True := iff_true_intro (.same a)
theorem viewsL_of {m m' : Mem} : ∀ {l l' : List AV}, l'.length = l.length → (∀ (k : Nat) (v v' : AV), l[k]? = some v → l'[k]? = some v' → View m m' v v') → viewsL m m' l l'
  | [], [], _, _ => trivial
  | [], _ :: _, h, _ => by cases h
  | _ :: _, [], h, _ => by cases h
  | a :: l, a' :: l', h1, h2 => ⟨h2 0 a a' rfl rfl, viewsL_of (by simpa using h1) (fun k v v' q1 q2 => h2 (k + 1) v v' (by simpa using q1) (by simpa using q2))⟩
theorem viewsL_same (m m' : Mem) (l : List AV) : viewsL m m' l l := viewsL_of rfl (fun k v v' h1 h2 => by rw [h1] at h2; cases h2; exact .same _)
@[simp] theorem view_agg (m m' : Mem) (l l' : List AV) : View m m' (.agg l) (.agg l') ↔ viewsL m m' l l' := by
  constructor
  · intro h
    cases h with
    | same => exact viewsL_same _ _ _
    | agg _ _ h1 h2 => exact viewsL_of h1 h2
  · exact .aggL
@[simp] theorem resOne_cell (P : Program) (n : Nat) (L : List (Nat × AV)) (m : Mem) (t : Nat) (ty : TypeId) : resOne P (S n L m) (.cell t ty) = if Nat.blt t n = true then (tinfo P ty).bind fun ti => (match look L t with | .ptr b z i j => loadAV m ti (.ptr b z i j) | .rptr cs => loadAV m ti (.rptr cs) | _ => none) else none := (rfl)
@[simp] theorem resOne_tmp (P : Program) (n : Nat) (L : List (Nat × AV)) (m : Mem) (t : Nat) : resOne P (S n L m) (.tmp t) = if Nat.blt t n = true then some (look L t) else none := (rfl)
@[simp] theorem resList_nil (P : Program) (s : St) : resList P s [] = some [] := (rfl)
@[simp] theorem resList_cons (P : Program) (s : St) (r : ResultVar) (rs : List ResultVar) : resList P s (r :: rs) = (resOne P s r).bind fun v => (resList P s rs).map (v :: ·) := (rfl)
@[simp] theorem oneOrTup_one (v : AV) : oneOrTup [v] = v := (rfl)
@[simp] theorem oneOrTup_two (u v : AV) (l : List AV) : oneOrTup (u :: v :: l) = .tup (u :: v :: l) := (rfl)
end Go.Av
end
section
namespace Go.Av
section
variable {P : Program}
def stepO (P : Program) (cf : Cfg) (ops : Array Oper) (x : Option Oper) (K : St → Prop) (s : St) : Prop := match x with
  | some o => astep P cf ops o K s
  | none => False
@[congr] theorem stepO_congr {cf : Cfg} {ops : Array Oper} {x x' : Option Oper} {K : St → Prop} {s s' : St} (h : x = x') (h' : s = s') : stepO P cf ops x K s = stepO P cf ops x' K s' := by rw [h, h']
@[congr] theorem aopsI_congr {cf : Cfg} {ops : Array Oper} {l : List Nat} {K : St → Prop} {s s' : St} (h : s = s') : aopsI P cf ops l K s = aopsI P cf ops l K s' := by rw [h]
@[simp] theorem aopsI_nil (cf : Cfg) (ops : Array Oper) (K : St → Prop) (s : St) : aopsI P cf ops [] K s = K s := (rfl)
@[simp] theorem aopsI_cons (cf : Cfg) (ops : Array Oper) (i : Nat) (l : List Nat) (K : St → Prop) (s : St) : aopsI P cf ops (i :: l) K s = stepO P cf ops (ops[i]?) (aopsI P cf ops l K) s := (rfl)
@[simp] theorem stepO_none (cf : Cfg) (ops : Array Oper) (K : St → Prop) (s : St) (d : Option Tmp) (op : Op) (t : TypeId) (p : String) (a : Array Edge) :
    stepO P cf ops (some { dst := d, op := op, type := t, pos := p, after := a, guard := none }) K s ↔ aop P cf { dst := d, op := op, type := t, pos := p, after := a, guard := none } K s := Iff.rfl
@[simp] theorem stepO_some (cf : Cfg) (ops : Array Oper) (K : St → Prop) (s : St) (d : Option Tmp) (op : Op) (t : TypeId) (p : String) (a : Array Edge) (j : Nat) (want : Bool) :
    stepO P cf ops (some { dst := d, op := op, type := t, pos := p, after := a, guard := some (j, want) }) K s ↔
      grdK (regAV s ((ops[j]?).bind (·.dst))) want (aop P cf { dst := d, op := op, type := t, pos := p, after := a, guard := some (j, want) } K s) (K (s.put d (.tup []))) := by
  unfold stepO astep effG
  simp only
  cases (ops[j]?).bind (·.dst) with
  | none => simp [regAV, grdK, gate]
  | some d' =>
    simp only [regAV_some]
    exact grdK_iff _ _ _ _
variable {Q : Exit → St → Prop} {s : St}
theorem AW.sd {id : Nat} {ops : Array Oper} {y : Code} (plan : List Nat) (hm : P.follows .mixedOrders = true) (h : aopsI P ⟨fun _ => false, fun _ => False, true⟩ ops plan (fun s' => s'.n = s.n → AW P y Q s') s)
    (hok : regionOk s.n ops = true := by kernel_rfl) (hp : planOk P (fun _ => false) ops plan = true := by kernel_rfl) : AW P (.seq (.region id ops true) y) Q s :=
  AW.seq (AW.draw (fun _ => false) (fun _ => False) plan hm hok hp (fun _ h => h.elim) h)
theorem AW.rd {id : Nat} {ops : Array Oper} (plan : List Nat) (hm : P.follows .mixedOrders = true) (h : aopsI P ⟨fun _ => false, fun _ => False, true⟩ ops plan (Q .normal) s)
    (hok : regionOk s.n ops = true := by kernel_rfl) (hp : planOk P (fun _ => false) ops plan = true := by kernel_rfl) : AW P (.region id ops true) Q s :=
  AW.draw (fun _ => false) (fun _ => False) plan hm hok hp (fun _ h => h.elim) h
def roL (l : List Nat) (d : Nat) : Bool := l.contains d
@[simp] theorem roL_nil (d : Nat) : roL [] d = false := (rfl)
@[simp] theorem roL_cons (a : Nat) (l : List Nat) (d : Nat) : roL (a :: l) d = (d == a || roL l d) := (rfl)
theorem AW.rgR {id : Nat} {ops : Array Oper} (ro : List Nat) (h : aops P (Cfg.txt (roL ro)) ops ops.toList (Q .normal) s) (hok : regionOk s.n ops = true := by kernel_rfl) : AW P (.region id ops false) Q s :=
  AW.region _ hok h
theorem AW.rdR {id : Nat} {ops : Array Oper} (ro : List Nat) (plan : List Nat) (hm : P.follows .mixedOrders = true) (h : aopsI P ⟨roL ro, fun _ => False, true⟩ ops plan (Q .normal) s)
    (hok : regionOk s.n ops = true := by kernel_rfl) (hp : planOk P (roL ro) ops plan = true := by kernel_rfl) : AW P (.region id ops true) Q s :=
  AW.draw (roL ro) (fun _ => False) plan hm hok hp (fun _ h => h.elim) h
theorem AW.rdA {id : Nat} {ops : Array Oper} (b : Nat) (plan : List Nat) (hm : P.follows .mixedOrders = true) (hb : s.m b ≠ none) (h : aopsI P ⟨fun _ => false, fun c => c = b, true⟩ ops plan (Q .normal) s)
    (hok : regionOk s.n ops = true := by kernel_rfl) (hp : planOk P (fun _ => false) ops plan = true := by kernel_rfl) : AW P (.region id ops true) Q s :=
  AW.draw (fun _ => false) (fun c => c = b) plan hm hok hp (fun c h => by rw [h]; exact hb) h
/-- Registers by the blocks that they point into. -/
def sepB (l : List (Nat × Nat)) (r : Nat) : Nat := match l with
  | [] => 0
  | (k, b) :: l => if r = k then b else sepB l r
def sepPr (l : List (Nat × Nat)) (r : Nat) : Bool := match l with
  | [] => false
  | (k, _) :: l => r == k || sepPr l r
def sepRs : List Nat → Nat → Bool
  | [], _ => false
  | k :: l, r => r == k || sepRs l r
theorem sepPr_eq (l : List (Nat × Nat)) : sepPr l = sepRs (l.map (·.1)) := by
  funext r
  induction l with
  | nil => rfl
  | cons p l ih => simp only [sepPr, List.map_cons, sepRs, ih]
theorem sepPr_mem {l : List (Nat × Nat)} {r : Nat} (h : sepPr l r = true) : ∃ b, (r, b) ∈ l ∧ sepB l r = b := by
  induction l with
  | nil => cases h
  | cons p l ih =>
    obtain ⟨k, b⟩ := p
    by_cases hk : r = k
    · subst hk; exact ⟨b, by simp, by simp [sepB]⟩
    · have h' : sepPr l r = true := by simpa [sepPr, hk] using h
      obtain ⟨b', h1, h2⟩ := ih h'
      exact ⟨b', by simp [h1], by simp [sepB, hk, h2]⟩
theorem sepRs_mem {l : List Nat} {r : Nat} (h : sepRs l r = true) : r ∈ l := by
  induction l with
  | nil => cases h
  | cons k l ih =>
    by_cases hk : r = k
    · simp [hk]
    · exact List.mem_cons_of_mem _ (ih (by simpa [sepRs, hk] using h))
/-- A region that draws its order and reads and writes cells: l: registers that point into different blocks; rp: registers that point into no owned block; wo: registers into whose blocks is only written; bs: the blocks that are read. -/
theorem AW.rdS {id : Nat} {ops : Array Oper} (l : List (Nat × Nat)) (rp wo bs : List Nat) (plan : List Nat) (hm : P.follows .mixedOrders = true) (hp1 : ∀ p ∈ l, ∀ b z i j, s.r p.1 = .ptr b z i j → b = p.2) (hp2 : (l.map (·.2)).Nodup)
    (hrp : ∀ r ∈ rp, ∀ b z i j, s.r r ≠ .ptr b z i j) (hwo : ∀ r ∈ wo, ∀ b z i j, s.r r = .ptr b z i j → b ∉ bs) (hb : ∀ b ∈ bs, s.m b ≠ none)
    (h : aopsI P ⟨fun _ => false, fun c => c ∈ bs, true⟩ ops plan (Q .normal) s)
    (hok : regionOk s.n ops = true := by kernel_rfl) (hp : planOkS P (fun _ => false) ⟨sepRs (l.map (·.1)), sepRs rp, sepRs wo⟩ ops plan = true := by kernel_rfl) : AW P (.region id ops true) Q s := by
  refine AW.drawS (fun _ => false) ⟨sepRs (l.map (·.1)), sepRs rp, sepRs wo⟩ (sepB l) (fun c => c ∈ bs) ⟨fun r hr b z i j he => ?_, fun r r' hr hr' hne => ?_, fun r hr => hrp r (sepRs_mem hr), fun r hr => hwo r (sepRs_mem hr)⟩ plan hm hok hp hb h
  · simp only at hr
    rw [← sepPr_eq] at hr
    obtain ⟨b', h1, h2⟩ := sepPr_mem hr
    rw [h2]; exact hp1 _ h1 b z i j he
  · simp only at hr hr'
    rw [← sepPr_eq] at hr hr'
    obtain ⟨b1, h1, h2⟩ := sepPr_mem hr
    obtain ⟨b2, h3, h4⟩ := sepPr_mem hr'
    rw [h2, h4]
    intro e
    subst e
    obtain ⟨i, hi⟩ := List.getElem?_of_mem h1
    obtain ⟨j, hj⟩ := List.getElem?_of_mem h3
    have hij : i = j := by
      have e1 : (l.map (·.2))[i]? = some b1 := by rw [List.getElem?_map, hi]; rfl
      have e2 : (l.map (·.2))[j]? = some b1 := by rw [List.getElem?_map, hj]; rfl
      have hil : i < (l.map (·.2)).length := (List.getElem?_eq_some_iff.1 e1).1
      exact (List.getElem?_inj hil hp2).1 (e1.trans e2.symm)
    subst hij
    rw [hi] at hj
    simp at hj
    exact hne hj
@[simp] theorem avOk_rptr (av : Nat → Prop) (cs : List AV) : avOk av (.rptr cs) ↔ True := Iff.rfl
@[simp] theorem avOk_ptr (av : Nat → Prop) (b z i j : Nat) : avOk av (.ptr b z i j) ↔ av b := Iff.rfl
end
end Go.Av
end
section
namespace Go.Av
open Go.Proofs
@[simp] theorem ti2 : tinfo Tryz.prog 2 = some { size := 1, bytes := 8, cls := .int .i64, zero := .int .i64 0, fields := [] } := by kernel_rfl
@[simp] theorem ti3 : tinfo Tryz.prog 3 = some { size := 1, bytes := 8, cls := .int .i64, zero := .int .i64 0, fields := [] } := by kernel_rfl
@[simp] theorem ti4 : tinfo Tryz.prog 4 = some { size := 1, bytes := 1, cls := .bool, zero := .bool false, fields := [] } := by kernel_rfl
@[simp] theorem ti5 : tinfo Tryz.prog 5 = some { size := 1, bytes := 1, cls := .int .u8, zero := .int .u8 0, fields := [] } := by kernel_rfl
@[simp] theorem ti6 : tinfo Tryz.prog 6 = some { size := 1, bytes := 1, cls := .int .u8, zero := .int .u8 0, fields := [] } := by kernel_rfl
@[simp] theorem ti7 : tinfo Tryz.prog 7 = some { size := 4, bytes := 24, cls := .struct, zero := .agg [.int .i64 0, .int .i64 0, .bool false, .int .u8 0], fields := [(0, 1, some false), (1, 1, some false), (2, 1, some false), (3, 1, some false)] } := by kernel_rfl
@[simp] theorem ti8 : tinfo Tryz.prog 8 = some { size := 4, bytes := 24, cls := .struct, zero := .agg [.int .i64 0, .int .i64 0, .bool false, .int .u8 0], fields := [(0, 1, some false), (1, 1, some false), (2, 1, some false), (3, 1, some false)] } := by kernel_rfl
@[simp] theorem ti12 : tinfo Tryz.prog 12 = some { size := 1, bytes := 8, cls := .int .u64, zero := .int .u64 0, fields := [] } := by kernel_rfl
@[simp] theorem ti15 : tinfo Tryz.prog 15 = some { size := 1, bytes := 8, cls := .ptr 132, zero := .nptr, fields := [] } := by kernel_rfl
@[simp] theorem ti16 : tinfo Tryz.prog 16 = some { size := 1, bytes := 8, cls := .ptr 135, zero := .nptr, fields := [] } := by kernel_rfl
@[simp] theorem ti17 : tinfo Tryz.prog 17 = some { size := 1, bytes := 8, cls := .ptr 144, zero := .nptr, fields := [] } := by kernel_rfl
@[simp] theorem ti18 : tinfo Tryz.prog 18 = some { size := 1, bytes := 8, cls := .struct, zero := .agg [.nptr], fields := [(0, 1, some false)] } := by kernel_rfl
@[simp] theorem ti19 : tinfo Tryz.prog 19 = some { size := 1, bytes := 8, cls := .struct, zero := .agg [.nptr], fields := [(0, 1, some false)] } := by kernel_rfl
@[simp] theorem ti21 : tinfo Tryz.prog 21 = some { size := 1, bytes := 4, cls := .int .i32, zero := .int .i32 0, fields := [] } := by kernel_rfl
@[simp] theorem ti22 : tinfo Tryz.prog 22 = some { size := 1, bytes := 24, cls := .slice 42, zero := .nil, fields := [] } := by kernel_rfl
@[simp] theorem ti25 : tinfo Tryz.prog 25 = some { size := 1, bytes := 24, cls := .slice 3, zero := .nil, fields := [] } := by kernel_rfl
@[simp] theorem ti26 : tinfo Tryz.prog 26 = some { size := 1, bytes := 8, cls := .int .i64, zero := .int .i64 0, fields := [] } := by kernel_rfl
@[simp] theorem ti32 : tinfo Tryz.prog 32 = some { size := 1, bytes := 24, cls := .slice 87, zero := .nil, fields := [] } := by kernel_rfl
@[simp] theorem ti33 : tinfo Tryz.prog 33 = some { size := 2, bytes := 32, cls := .struct, zero := .agg [.bool false, .nil], fields := [(0, 1, some false), (1, 1, some false)] } := by kernel_rfl
@[simp] theorem ti34 : tinfo Tryz.prog 34 = some { size := 2, bytes := 32, cls := .struct, zero := .agg [.bool false, .nil], fields := [(0, 1, some false), (1, 1, some false)] } := by kernel_rfl
@[simp] theorem ti35 : tinfo Tryz.prog 35 = some { size := 4, bytes := 64, cls := .struct, zero := .agg [.bool false, .nil, .bool false, .nil], fields := [(0, 2, some true), (2, 2, some true)] } := by kernel_rfl
@[simp] theorem ti36 : tinfo Tryz.prog 36 = some { size := 4, bytes := 64, cls := .struct, zero := .agg [.bool false, .nil, .bool false, .nil], fields := [(0, 2, some true), (2, 2, some true)] } := by kernel_rfl
@[simp] theorem ti42 : tinfo Tryz.prog 42 = some { size := 1, bytes := 24, cls := .slice 36, zero := .nil, fields := [] } := by kernel_rfl
@[simp] theorem ti59 : tinfo Tryz.prog 59 = some { size := 1, bytes := 8, cls := .ptr 61, zero := .nptr, fields := [] } := by kernel_rfl
@[simp] theorem ti60 : tinfo Tryz.prog 60 = some { size := 1, bytes := 8, cls := .struct, zero := .agg [.int .i64 0], fields := [(0, 1, some false)] } := by kernel_rfl
@[simp] theorem ti61 : tinfo Tryz.prog 61 = some { size := 1, bytes := 8, cls := .struct, zero := .agg [.int .i64 0], fields := [(0, 1, some false)] } := by kernel_rfl
@[simp] theorem ti87 : tinfo Tryz.prog 87 = some { size := 1, bytes := 4, cls := .int .u32, zero := .int .u32 0, fields := [] } := by kernel_rfl
@[simp] theorem ti104 : tinfo Tryz.prog 104 = some { size := 1, bytes := 8, cls := .int .u64, zero := .int .u64 0, fields := [] } := by kernel_rfl
@[simp] theorem ti106 : tinfo Tryz.prog 106 = some { size := 1, bytes := 8, cls := .int .u64, zero := .int .u64 0, fields := [] } := by kernel_rfl
end Go.Av
end
section
namespace Go.Av
/-- The number of a list of limbs. -/
def val : List Nat → Nat
  | [] => 0
  | x :: l => x + 4294967296 * val l
/-- The limbs of a number. -/
def dig (n : Nat) : List Nat :=
  if h : n = 0 then [] else n % 4294967296 :: dig (n / 4294967296)
termination_by n
decreasing_by omega
def Lb (l : List Nat) : Prop := ∀ x ∈ l, x < 4294967296
def trimL (l : List Nat) : List Nat := (l.reverse.dropWhile (· == 0)).reverse
theorem dig_zero : dig 0 = [] := by rw [dig]; simp
theorem dig_pos {n : Nat} (h : n ≠ 0) : dig n = n % 4294967296 :: dig (n / 4294967296) := by rw [dig]; simp [h]
theorem val_dig (n : Nat) : val (dig n) = n := by
  induction n using Nat.strongRecOn with
  | _ n ih =>
    by_cases h : n = 0
    · subst h; rw [dig_zero]; rfl
    · rw [dig_pos h, val, ih _ (by omega)]; omega
theorem dig_lb (n : Nat) : Lb (dig n) := by
  induction n using Nat.strongRecOn with
  | _ n ih =>
    by_cases h : n = 0
    · subst h; rw [dig_zero]; exact fun x hx => by cases hx
    · rw [dig_pos h]
      intro x hx
      rcases List.mem_cons.1 hx with rfl | hx
      · omega
      · exact ih _ (by omega) x hx
theorem val_append (a b : List Nat) : val (a ++ b) = val a + 4294967296 ^ a.length * val b := by
  induction a with
  | nil => simp [val]
  | cons x a ih =>
    simp only [List.cons_append, val, ih, List.length_cons, Nat.pow_succ]
    rw [Nat.mul_add, ← Nat.add_assoc, ← Nat.mul_assoc, Nat.mul_comm 4294967296 (4294967296 ^ a.length)]
theorem val_lt {l : List Nat} (h : Lb l) : val l < 4294967296 ^ l.length := by
  induction l with
  | nil => simp [val]
  | cons x l ih =>
    have h1 := h x (by simp)
    have h2 := ih (fun y hy => h y (by simp [hy]))
    simp only [val, List.length_cons, Nat.pow_succ]
    omega
theorem val_lt' {l : List Nat} (h : Lb l) {k : Nat} (hk : l.length ≤ k) : val l < 4294967296 ^ k :=
  Nat.lt_of_lt_of_le (val_lt h) (Nat.pow_le_pow_right (by omega) hk)
/-- A digit and the carry. -/
theorem carry_step (X s : Nat) : X * (s % 4294967296) + X * 4294967296 * (s / 4294967296) = X * s := by
  rw [Nat.mul_assoc, ← Nat.mul_add, Nat.mod_add_div]
theorem trimL_snoc0 (l : List Nat) : trimL (l ++ [0]) = trimL l := by simp [trimL]
theorem trimL_last (l : List Nat) {x : Nat} (h : x ≠ 0) : trimL (l ++ [x]) = l ++ [x] := by simp [trimL, h]
theorem dig_val {l : List Nat} (h : Lb l) (hl : ∀ l' x, l = l' ++ [x] → x ≠ 0) : dig (val l) = l := by
  induction l with
  | nil => rw [val, dig_zero]
  | cons x l ih =>
    have h1 := h x (by simp)
    have h2 := ih (fun y hy => h y (by simp [hy])) (fun l' y e => hl (x :: l') y (by rw [e]; rfl))
    have hne : val (x :: l) ≠ 0 := by
      cases l with
      | nil => simp [val]; exact hl [] x rfl
      | cons y l =>
        intro e
        have : val (y :: l) = 0 := by simp only [val] at e ⊢; omega
        rw [this, dig_zero] at h2
        cases h2
    rw [dig_pos hne]
    have e1 : val (x :: l) % 4294967296 = x := by simp only [val]; omega
    have e2 : val (x :: l) / 4294967296 = val l := by simp only [val]; omega
    rw [e1, e2, h2]
theorem dig_last (n : Nat) : ∀ l' x, dig n = l' ++ [x] → x ≠ 0 := by
  induction n using Nat.strongRecOn with
  | _ n ih =>
    intro l' x he
    by_cases h : n = 0
    · subst h; rw [dig_zero] at he; cases l' <;> cases he
    · rw [dig_pos h] at he
      cases l' with
      | nil =>
        simp only [List.nil_append, List.cons.injEq] at he
        have h2 : n / 4294967296 = 0 := by
          have := val_dig (n / 4294967296)
          rw [he.2] at this
          exact this.symm
        omega
      | cons y l' =>
        simp only [List.cons_append, List.cons.injEq] at he
        exact ih _ (by omega) l' x he.2
theorem trimL_eq {l : List Nat} (h : Lb l) : trimL l = dig (val l) := by
  generalize hn : l.length = n
  induction n generalizing l with
  | zero => have := List.eq_nil_of_length_eq_zero hn; subst this; rw [val, dig_zero]; rfl
  | succ n ih =>
    rcases List.eq_nil_or_concat l with rfl | ⟨l2, x, rfl⟩
    · cases hn
    · rw [List.concat_eq_append] at *
      by_cases hx : x = 0
      · subst hx
        rw [trimL_snoc0, val_append, ih (fun y hy => h y (by simp [hy])) (by simpa using hn)]
        simp [val]
      · rw [trimL_last _ hx, dig_val h]
        intro l' y e
        have := List.append_inj' e rfl
        simp at this
        rw [← this.2]
        exact hx
theorem dig_length_le {n k : Nat} : (dig n).length ≤ k ↔ n < 4294967296 ^ k := by
  induction k generalizing n with
  | zero =>
    by_cases h : n = 0
    · subst h; simp [dig_zero]
    · rw [dig_pos h]; simp; omega
  | succ k ih =>
    by_cases h : n = 0
    · subst h; simp [dig_zero]; exact Nat.pow_pos (by omega)
    · rw [dig_pos h, List.length_cons, Nat.succ_le_succ_iff, ih, Nat.pow_succ]; constructor
      · intro h1; omega
      · intro h1; exact Nat.div_lt_of_lt_mul (by omega)
theorem dig_nil {n : Nat} : dig n = [] ↔ n = 0 := by
  constructor
  · intro h; rw [← val_dig n, h]; rfl
  · rintro rfl; exact dig_zero
theorem val_take_succ (l : List Nat) (i : Nat) (h : i < l.length) : val (l.take (i + 1)) = val (l.take i) + 4294967296 ^ i * l[i] := by
  have e : l.take (i + 1) = l.take i ++ [l[i]] := by rw [List.take_add_one, List.getElem?_eq_getElem h]; rfl
  rw [e, val_append]; simp [val, Nat.min_eq_left (Nat.le_of_lt h)]
theorem val_take_of_le (l : List Nat) (i : Nat) (h : l.length ≤ i) : val (l.take i) = val l := by rw [List.take_of_length_le h]
theorem Lb.set {l : List Nat} (h : Lb l) (i x : Nat) (hx : x < 4294967296) : Lb (l.set i x) := by
  intro y hy
  rcases List.mem_or_eq_of_mem_set hy with hy | rfl
  · exact h y hy
  · exact hx
theorem Lb.rep (n : Nat) : Lb (List.replicate n 0) := by
  intro x hx
  rw [(List.mem_replicate.1 hx).2]; omega
theorem Lb.get {l : List Nat} (h : Lb l) (i : Nat) (hi : i < l.length) : l[i] < 4294967296 := h _ (List.getElem_mem hi)
theorem val_rep (n : Nat) : val (List.replicate n 0) = 0 := by
  induction n with
  | zero => rfl
  | succ n ih => simp [List.replicate_succ, val, ih]
theorem dig_len_lt {x y : Nat} (h : (dig x).length < (dig y).length) : x < y := by
  rcases Nat.lt_or_ge x y with h1 | h1
  · exact h1
  · have h2 := (dig_length_le (n := x) (k := (dig x).length)).1 (Nat.le_refl _)
    have h3 := (dig_length_le (n := y) (k := (dig x).length)).2 (by omega)
    omega
theorem dig_len_le {x y : Nat} (h : x ≤ y) : (dig x).length ≤ (dig y).length := by
  rcases Nat.lt_or_ge (dig y).length (dig x).length with h1 | h1
  · have := dig_len_lt h1; omega
  · exact h1
theorem Lb.take {l : List Nat} (h : Lb l) (k : Nat) : Lb (l.take k) := fun x hx => h x (List.mem_of_mem_take hx)
theorem val_take_lt {l : List Nat} (h : Lb l) (k : Nat) : val (l.take k) < 4294967296 ^ k := val_lt' (h.take k) (by simp; omega)
def ordI (x y : Nat) : Int := if x < y then -1 else if x = y then 0 else 1
theorem ordI_lt {x y : Nat} (h : x < y) : ordI x y = -1 := by simp [ordI, h]
theorem ordI_gt {x y : Nat} (h : y < x) : ordI x y = 1 := by simp [ordI, show ¬ x < y by omega, show x ≠ y by omega]
theorem ordI_eq {x y : Nat} (h : x = y) : ordI x y = 0 := by simp [ordI, h]
end Go.Av
end
section
namespace Go.Av
open Go.Proofs
theorem mix : Tryz.prog.follows .mixedOrders = true := by kernel_rfl
theorem wrap_i64 {x : Int} (h1 : -9223372036854775808 ≤ x) (h2 : x < 9223372036854775808) : IntKind.i64.wrap x = x := by
  simp only [IntKind.wrap, IntKind.bits, IntKind.signed, Bool.true_and]
  split <;> rename_i h <;> simp only [ge_iff_le, decide_eq_true_eq, Int.not_le] at h <;> omega
@[simp] theorem wrap_u32 (x : Int) : IntKind.u32.wrap x = x % 4294967296 := by simp [IntKind.wrap, IntKind.bits, IntKind.signed]
@[simp] theorem wrap_u64 (x : Int) : IntKind.u64.wrap x = x % 18446744073709551616 := by simp [IntKind.wrap, IntKind.bits, IntKind.signed]
/-- The limb at a place. -/
def nth (l : List Nat) (i : Nat) : Nat := l.getD i 0
theorem nth_eq {l : List Nat} {i : Nat} (h : i < l.length) : nth l i = l[i] := by unfold nth; rw [List.getD_eq_getElem?_getD, List.getElem?_eq_getElem h]; rfl
def u32s (l : List Nat) : List AV := l.map fun (n : Nat) => .int .u32 (n : Int)
def lim (l : List Nat) : AV := .sl 1 (u32s l)
@[simp] theorem u32s_length (l : List Nat) : (u32s l).length = l.length := by simp [u32s]
@[simp] theorem u32s_set (l : List Nat) (i x : Nat) : (u32s l).set i (.int .u32 (x : Int)) = u32s (l.set i x) := by simp [u32s, List.map_set]
theorem u32s_rep (n : Nat) : List.replicate n (.int .u32 0) = u32s (List.replicate n 0) := by simp [u32s]
@[simp] theorem u32s_get? {l : List Nat} {i : Nat} (h : i < l.length) : (u32s l)[i]? = some (.int .u32 (nth l i : Nat)) := by simp [u32s, nth_eq h, h]
@[simp] theorem u32s_get {l : List Nat} {i : Nat} (h : i < (u32s l).length) : (u32s l)[i] = .int .u32 (nth l i : Nat) := by
  have h' : i < l.length := by simpa [u32s] using h
  simp [u32s, nth_eq h']
@[simp] theorem nth_rep (n i : Nat) : nth (List.replicate n 0) i = 0 := by
  unfold nth
  rw [List.getD_eq_getElem?_getD, List.getElem?_replicate]
  split <;> rfl
theorem nth_set_eq {l : List Nat} {i : Nat} (x : Nat) (h : i < l.length) : nth (l.set i x) i = x := by
  unfold nth
  rw [List.getD_eq_getElem?_getD, List.getElem?_set_self h]
  rfl
theorem nth_set_ne {l : List Nat} {i j : Nat} (x : Nat) (h : i ≠ j) : nth (l.set i x) j = nth l j := by
  unfold nth
  rw [List.getD_eq_getElem?_getD, List.getElem?_set_ne h, ← List.getD_eq_getElem?_getD]
@[simp] theorem u32s_ok (l : List Nat) : (u32s l).all (fun v => v.cells.length == 1 && v.cells.all AV.one) = true := by
  rw [List.all_eq_true]
  intro v hv
  obtain ⟨n, _, rfl⟩ := List.mem_map.1 hv
  rfl
theorem u32s_take (l : List Nat) (n : Nat) : (u32s l).take n = u32s (l.take n) := by simp [u32s, List.map_take]
theorem u32s_drop (l : List Nat) (n : Nat) : (u32s l).drop n = u32s (l.drop n) := by simp [u32s, List.map_drop]
theorem u32s_append (a b : List Nat) : u32s a ++ u32s b = u32s (a ++ b) := by simp [u32s]
@[simp] theorem u32s_nil : u32s [] = [] := rfl
@[simp] theorem u32s_eq_nil (l : List Nat) : u32s l = [] ↔ l = [] := by simp [u32s]
@[simp] theorem cells_lim (l : List Nat) : (lim l).cells = [lim l] := (rfl)
@[simp] theorem one_lim (l : List Nat) : (lim l).one = true := (rfl)
@[simp] theorem isAny_lim (l : List Nat) : (lim l).isAny = false := (rfl)
@[simp] theorem lenAV_lim (e : TypeId) (l : List Nat) (size bytes : Nat) (zero : AV) (fs : List (Nat × Nat × Option Bool)) : lenAV ⟨size, bytes, .slice e, zero, fs⟩ (lim l) = some (.int .i64 l.length) := by
  simp [lim]
@[simp] theorem elems_lim (m : Mem) (l : List Nat) : elems m 1 (lim l) = some (u32s l) := by simp [lim]
@[simp] theorem indexAddr_lim (P : Program) (e : TypeId) (l : List Nat) (size bytes : Nat) (zero : AV) (fs : List (Nat × Nat × Option Bool)) (k : IntKind) (n : Int) : indexAddrAV P ⟨size, bytes, .slice e, zero, fs⟩ (lim l) (.int k n) = (tinfo P e).bind fun te => if 1 = te.size ∧ 0 ≤ n ∧ n < l.length then some (.rptr [.int .u32 (nth l n.toNat : Nat)]) else none := by
  unfold lim
  rw [indexAddr_sl]
  congr 1
  funext te
  rw [u32s_length]
  by_cases h : 1 = te.size ∧ 0 ≤ n ∧ n < l.length
  · rw [if_pos h, if_pos h]
    have h1 : n.toNat < l.length := by omega
    simp only [u32s, nth, List.getD_eq_getElem?_getD, List.getElem?_map, List.getElem?_eq_getElem h1, Option.map_some, Option.getD_some]
    rfl
  · rw [if_neg h, if_neg h]
@[simp] theorem sliceAV_lim (P : Program) (e : TypeId) (l : List Nat) (size bytes : Nat) (zero : AV) (fs : List (Nat × Nat × Option Bool)) (lo hi : Option AV) : sliceAV P ⟨size, bytes, .slice e, zero, fs⟩ (lim l) lo hi = (tinfo P e).bind fun te => if 1 = te.size then (cutAV l.length lo hi).map fun (a, b) => lim ((l.drop a).take (b - a)) else none := by
  unfold lim
  rw [sliceAV_sl, u32s_length]
  simp only [u32s_drop, u32s_take]
/-- A list of limbs that may be nil. -/
theorem view_osl {m : Mem} {b : Nat} {e : TypeId} {l : List Nat} (h : m b = some ⟨e, 1, u32s l⟩) : View m Mem.emp (.osl b 1 0 l.length) (lim l) := by
  refine .osl b 1 0 l.length _ _ h rfl rfl (by simp) (by simp) ?_
  intro k v v' h1 h2
  simp only [Nat.zero_add] at h1
  rw [h1] at h2
  cases h2
  exact .same _
theorem view_osl1 {m m' : Mem} {b : Nat} {e : TypeId} {l : List Nat} (h : m b = some ⟨e, 1, u32s l⟩) (h' : m' b = none) : View m m' (.osl b 1 0 l.length) (lim l) := by
  refine .osl b 1 0 l.length _ _ h h' rfl (by simp) (by simp) ?_
  intro k v v' h1 h2
  simp only [Nat.zero_add] at h1
  rw [h1] at h2
  cases h2
  exact .same _
@[simp] theorem view_nil_lim (m m' : Mem) : View m m' .nil (lim []) ↔ True := iff_true_intro (.nilsl 1)
theorem val_take_getD (l : List Nat) (i : Nat) : val (l.take (i + 1)) = val (l.take i) + 4294967296 ^ i * nth l i := by
  unfold nth
  rcases Nat.lt_or_ge i l.length with h | h
  · rw [val_take_succ l i h, List.getD_eq_getElem?_getD, List.getElem?_eq_getElem h]; rfl
  · rw [List.take_of_length_le h, List.take_of_length_le (by omega), List.getD_eq_getElem?_getD, List.getElem?_eq_none h]; simp
theorem Lb.nth {l : List Nat} (h : Lb l) (i : Nat) : nth l i < 4294967296 := by
  unfold Av.nth
  rcases Nat.lt_or_ge i l.length with h' | h'
  · rw [List.getD_eq_getElem?_getD, List.getElem?_eq_getElem h']; exact h.get i h'
  · rw [List.getD_eq_getElem?_getD, List.getElem?_eq_none h']; simp
theorem nth_ge {l : List Nat} {i : Nat} (h : l.length ≤ i) : nth l i = 0 := by
  unfold nth
  rw [List.getD_eq_getElem?_getD, List.getElem?_eq_none h]; rfl
theorem take_set_succ (l : List Nat) (i x : Nat) (h : i < l.length) : val ((l.set i x).take (i + 1)) = val (l.take i) + 4294967296 ^ i * x := by
  rw [val_take_getD, List.take_set_of_le (by omega)]
  congr 2
  simp [nth, List.getD_eq_getElem?_getD, h]
@[simp] theorem tdiv_nat (a b : Nat) : Int.tdiv (a : Int) (b : Int) = ((a / b : Nat) : Int) := rfl
@[simp] theorem tmod_nat (a b : Nat) : Int.tmod (a : Int) (b : Int) = ((a % b : Nat) : Int) := rfl
@[simp] theorem tdiv_B (a : Nat) : Int.tdiv (a : Int) 4294967296 = ((a / 4294967296 : Nat) : Int) := rfl
theorem u32s_set' (l : List Nat) (i : Nat) (n : Int) (x : Nat) (h : n = x) : (u32s l).set i (.int .u32 n) = u32s (l.set i x) := by rw [h, u32s_set]
end Go.Av
end
section
namespace Go.Av
open Go.Proofs
theorem trim_call (l : List Nat) (hl : l.length < 2^62) : ACall Tryz.prog 134 [lim l] Mem.emp fun v m => v = lim (trimL l) ∧ m = Mem.emp := by
  refine acall_S Tryz.func134 rfl rfl 21 rfl (Nat.le_of_ble_eq_true rfl) ?_
  refine AW.seq ?_
  refine AW.region (fun _ => false) (by kernel_rfl) ?_
  simp
  refine AW.keep [(0, lim l)] (by simp [argsL]) ?_
  refine AW.seq ?_
  refine AW.block (AW.loopS (ι := List Nat) (fun l => [(0, lim l)]) (fun _ => Mem.emp) (fun l' => l'.length < 2^62 ∧ trimL l' = trimL l) List.length l ⟨hl, rfl⟩ rfl (by simp) ?_)
  rintro l' ⟨h1, h2⟩
  by_cases hz : ∃ l2, l' = l2 ++ [0]
  · refine AW.seq (AW.seq ?_)
    refine AW.region (fun _ => false) (by kernel_rfl) ?_
    obtain ⟨l2, rfl⟩ := hz
    have hw : IntKind.i64.wrap (l2.length : Int) = l2.length := wrap_i64 (by omega) (by simp at h1; omega)
    simp [hw, nth]
    refine ⟨by omega, ?_⟩
    refine AW.cond (t := true) rfl rfl ?_
    refine AW.skip ?_; simp
    refine AW.block (AW.region (fun _ => false) (by kernel_rfl) ?_)
    simp [hw]
    refine ⟨by omega, l2, ?_⟩
    simp at h1
    simp [← h2, trimL_snoc0, lim]; omega
  · have ht : trimL l' = l' := by
      rcases List.eq_nil_or_concat l' with rfl | ⟨l2, x, rfl⟩
      · rfl
      · rw [List.concat_eq_append] at *
        exact trimL_last l2 (fun h => hz ⟨l2, by rw [h]⟩)
    rw [ht] at h2
    refine AW.seq (AW.seq_has [(14, .bool false), (0, lim l')] Mem.emp (AW.region (fun _ => false) (by kernel_rfl) ?_) ?_)
    · rcases List.eq_nil_or_concat l' with rfl | ⟨l2, x, rfl⟩
      · simp
      · rw [List.concat_eq_append] at *
        have hx : x ≠ 0 := fun h => hz ⟨l2, by rw [h]⟩
        have hw : IntKind.i64.wrap (l2.length : Int) = l2.length := wrap_i64 (by omega) (by simp at h1; omega)
        simp [hw, hx, nth]; omega
    refine AW.cond (t := false) rfl rfl ?_
    refine AW.exit ?_
    simp
    refine AW.seq ?_
    refine AW.region (fun _ => false) (by kernel_rfl) ?_
    simp
    exact AW.ret (ret_emp rfl _ (.same _) ⟨by simp [h2], rfl⟩)
theorem plus_call (a b : List Nat) (ha : Lb a) (hb : Lb b) (la : a.length < 2^40) (lb : b.length < 2^40) : ACall Tryz.prog 117 [lim a, lim b] Mem.emp fun v m => v = lim (dig (val a + val b)) ∧ m = Mem.emp := by
  refine acall_S Tryz.func117 rfl rfl 54 rfl (Nat.le_of_ble_eq_true rfl) ?_
  refine AW.seq (AW.region (fun _ => false) (by kernel_rfl) ?_)
  simp
  generalize hN : max a.length b.length + 1 = N
  have hm : (if a.length < b.length then (b.length : Int) else a.length) + 1 = (N : Int) := by split <;> omega
  refine AW.seq (AW.region (fun _ => false) (by kernel_rfl) ?_)
  have hw : IntKind.i64.wrap (N : Int) = N := wrap_i64 (by omega) (by omega)
  simp [argsL, hm, hw]
  refine ⟨by omega, Fresh.intro fun bl _ => ?_⟩
  refine AW.seq (AW.region (fun _ => false) (by kernel_rfl) ?_)
  simp
  refine AW.seq_ex (ι := List Nat) (fun o => [(5, .osl bl 1 0 o.length)]) (fun o => Mem.emp.set bl ⟨87, 1, u32s o⟩) (fun o => Lb o ∧ val o = val a + val b ∧ o.length < 2^41) ?_ ?_
  · refine AW.seq (AW.region (fun _ => false) (by kernel_rfl) ?_)
    simp
    refine AW.block (AW.loopS (ι := Nat × Nat × List Nat) (fun x => [(0, lim a), (1, lim b), (5, .osl bl 1 0 N), (6, .int .u64 (x.2.1 : Nat)), (7, .int .i64 (x.1 : Nat))]) (fun x => Mem.emp.set bl ⟨87, 1, u32s x.2.2⟩)
      (fun x => x.1 ≤ N ∧ x.2.1 < 2 ∧ Lb x.2.2 ∧ x.2.2.length = N ∧ val (x.2.2.take x.1) + 4294967296 ^ x.1 * x.2.1 = val (a.take x.1) + val (b.take x.1)) (fun x => N - x.1) (0, 0, List.replicate N 0) ⟨by simp, by simp, Lb.rep _, by simp, by simp [val]⟩ (by simp [u32s_rep]) (by simp) ?_)
    rintro ⟨i, c, o⟩ ⟨h1, h2, h3, h4, h5⟩
    simp only at h1 h2 h3 h4 h5; simp only
    refine AW.seq (AW.seq (AW.region (fun _ => false) (by kernel_rfl) ?_))
    simp
    refine AW.cond_split rfl rfl (fun hi => ?_) (fun hi => ?_)
    · simp at hi
      refine AW.skip ?_; simp
      refine AW.seq (AW.block ?_)
      refine AW.seq (AW.region (fun _ => false) (by kernel_rfl) ?_)
      simp
      refine AW.seq_has [(0, lim a), (1, lim b), (5, .osl bl 1 0 N), (7, .int .i64 (i : Nat)), (8, .int .u64 (c + nth a i : Nat))] (Mem.emp.set bl ⟨87, 1, u32s o⟩) ?_ ?_
      · refine AW.seq (AW.region (fun _ => false) (by kernel_rfl) ?_)
        simp
        refine AW.cond_split rfl rfl (fun hl => ?_) (fun hl => ?_)
        · simp at hl
          refine AW.region (fun _ => false) (by kernel_rfl) ?_
          have := ha.nth i
          simp [hl]; omega
        · simp at hl
          refine AW.skip ?_
          have := nth_ge hl
          simp [hl, this]
      refine AW.seq_has [(5, .osl bl 1 0 N), (7, .int .i64 (i : Nat)), (8, .int .u64 (c + nth a i + nth b i : Nat)), (0, lim a), (1, lim b)] (Mem.emp.set bl ⟨87, 1, u32s o⟩) ?_ ?_
      · refine AW.seq (AW.region (fun _ => false) (by kernel_rfl) ?_)
        simp
        refine AW.cond_split rfl rfl (fun hl => ?_) (fun hl => ?_)
        · simp at hl
          refine AW.region (fun _ => false) (by kernel_rfl) ?_
          have := ha.nth i
          have := hb.nth i
          simp [hl]; omega
        · simp at hl
          refine AW.skip ?_
          have := nth_ge hl
          simp [hl, this]
      have := ha.nth i
      have := hb.nth i
      generalize hs : c + nth a i + nth b i = s
      refine AW.seq (AW.region (fun _ => false) (by kernel_rfl) ?_)
      simp [hi, h4]; rw [set_set, u32s_set' o i _ (s % 4294967296) (by simp)]
      refine AW.region (fun _ => false) (by kernel_rfl) ?_
      simp
      refine AW.region (fun _ => false) (by kernel_rfl) ?_
      have hw2 : IntKind.i64.wrap ((i : Int) + 1) = ((i + 1 : Nat) : Int) := wrap_i64 (by omega) (by omega)
      simp [hw2]
      refine ⟨i + 1, s / 4294967296, o.set i (s % 4294967296), ⟨by omega, by omega, h3.set i _ (by omega), by simpa using h4, ?_⟩, by omega, rfl, by omega, by simp⟩
      rw [take_set_succ _ _ _ (by omega), val_take_getD, val_take_getD, Nat.pow_succ]
      have q := carry_step (4294967296 ^ i) s
      rw [← hs, Nat.mul_add, Nat.mul_add, hs] at q
      omega
    · simp at hi
      have hiN : i = N := by omega
      subst hiN
      refine AW.exit ?_
      simp
      refine ⟨o, ⟨h3, ?_, by omega⟩, rfl, h4.symm⟩
      rw [val_take_of_le o i (by omega), val_take_of_le a i (by omega), val_take_of_le b i (by omega)] at h5
      have q1 := val_lt' ha (k := max a.length b.length) (by omega)
      have q2 := val_lt' hb (k := max a.length b.length) (by omega)
      have q3 : 4294967296 ^ i = 4294967296 ^ (max a.length b.length) * 4294967296 := by rw [← hN, Nat.pow_succ]
      have q4 : c = 0 := by
        rcases Nat.eq_zero_or_pos c with h | h
        · exact h
        · have := Nat.le_mul_of_pos_right (4294967296 ^ i) h
          omega
      subst q4; omega
  · rintro o ⟨h1, h2, h3⟩
    refine AW.toEmp [(5, lim o)] (by simp; exact view_osl (e := 87) (by simp)) ?_
    refine AW.seq (AW.region (fun _ => false) (by kernel_rfl) ?_)
    simp
    refine CallK.val (trim_call o (by omega)) ?_
    try simp
    exact AW.ret (ret_emp rfl _ (.same _) ⟨by simp [trimL_eq h1, h2], rfl⟩)
end Go.Av
end
section
namespace Go.Av
open Go.Proofs
theorem order_step {a b : List Nat} (ha : Lb a) {k : Nat} (h : val a + val (b.take (k + 1)) = val b + val (a.take (k + 1))) (hlt : nth a k < nth b k) : val a < val b := by
  rw [val_take_getD, val_take_getD] at h
  have h1 := val_take_lt ha k
  have h2 : 4294967296 ^ k * (nth a k + 1) ≤ 4294967296 ^ k * nth b k := Nat.mul_le_mul_left _ hlt
  rw [Nat.mul_add] at h2
  omega
theorem order_call (x y : Nat) (lx : (dig x).length < 2^40) (ly : (dig y).length < 2^40) : ACall Tryz.prog 120 [lim (dig x), lim (dig y)] Mem.emp fun v m => v = .int .i64 (ordI x y) ∧ m = Mem.emp := by
  refine acall_S Tryz.func120 rfl rfl 41 rfl (Nat.le_of_ble_eq_true rfl) ?_
  generalize ha : dig x = a at *
  generalize hb : dig y = b at *
  have va : val a = x := by rw [← ha, val_dig]
  have vb : val b = y := by rw [← hb, val_dig]
  have la : Lb a := by rw [← ha]; exact dig_lb x
  have lb : Lb b := by rw [← hb]; exact dig_lb y
  refine AW.sr ?_
  simp
  refine AW.seq ?_
  refine AW.sr ?_
  simp [argsL]
  refine AW.cs (fun h => ?_) (fun h => ?_) rfl
  · refine AW.seq ?_
    refine AW.sr ?_
    simp
    refine AW.cs (fun h2 => ?_) (fun h2 => ?_) rfl <;> simp at h h2
    · refine AW.sr ?_
      simp
      have := dig_len_lt (x := x) (y := y) (by rw [ha, hb]; omega)
      exact AW.ret (ret_emp rfl _ (.same _) ⟨by simp [ordI_lt this], rfl⟩)
    · refine AW.skip ?_; simp
      refine AW.sr ?_
      simp
      have := dig_len_lt (x := y) (y := x) (by rw [ha, hb]; omega)
      exact AW.ret (ret_emp rfl _ (.same _) ⟨by simp [ordI_gt this], rfl⟩)
  · simp at h
    have hl : a.length = b.length := by omega
    refine AW.skip ?_
    have hw : IntKind.i64.wrap ((a.length : Int) - 1) = (a.length : Int) - 1 := wrap_i64 (by omega) (by omega)
    simp
    refine AW.seq (AW.sr ?_)
    simp [hw, ← hl]
    refine AW.block (AW.loopS (ι := Nat) (fun k => [(0, lim a), (1, lim b), (5, .int .i64 ((k : Int) - 1))]) (fun _ => Mem.emp) (fun k => k ≤ a.length ∧ val a + val (b.take k) = val b + val (a.take k)) (fun k => k) a.length ⟨Nat.le_refl _, by rw [val_take_of_le b _ (by omega), val_take_of_le a _ (by omega)]; omega⟩ rfl (by simp) ?_)
    rintro k ⟨h1, h2⟩
    refine AW.seq (AW.sr ?_)
    simp
    refine AW.cs (fun h3 => ?_) (fun h3 => ?_) rfl <;> simp at h3
    · obtain ⟨k, rfl⟩ : ∃ k', k = k' + 1 := ⟨k - 1, by omega⟩
      refine AW.skip ?_
      have e : ((k + 1 : Nat) : Int) - 1 = k := by omega
      simp only [e]
      simp
      refine AW.seq (AW.block ?_)
      refine AW.seq (AW.sd [0, 1, 2, 3, 4, 5, 6, 7, 8] mix ?_)
      simp
      refine ⟨by omega, by omega, ?_⟩
      refine AW.cs (fun h4 => ?_) (fun h4 => ?_) rfl <;> simp at h4
      · refine AW.sr ?_
        simp
        have := order_step la h2 h4
        exact AW.ret (ret_emp rfl _ (.same _) ⟨by simp [ordI_lt (show x < y by omega)], rfl⟩)
      refine AW.skip ?_; simp
      refine AW.sd [0, 1, 2, 3, 4, 5, 6, 7, 8] mix ?_
      simp
      refine ⟨by omega, by omega, ?_⟩
      refine AW.cs (fun h5 => ?_) (fun h5 => ?_) rfl <;> simp at h5
      · refine AW.sr ?_
        simp
        have := order_step lb h2.symm h5
        exact AW.ret (ret_emp rfl _ (.same _) ⟨by simp [ordI_gt (show y < x by omega)], rfl⟩)
      refine AW.skip ?_; simp
      have hw2 : IntKind.i64.wrap ((k : Int) - 1) = (k : Int) - 1 := wrap_i64 (by omega) (by omega)
      refine AW.rg ?_; simp [hw2]
      refine ⟨k, ⟨by omega, ?_⟩, by omega, rfl⟩
      have : nth a k = nth b k := by omega
      rw [val_take_getD, val_take_getD, this] at h2
      omega
    · have : k = 0 := by omega
      subst this
      refine AW.exit ?_
      simp
      refine AW.sr ?_
      simp
      simp [val] at h2
      exact AW.ret (ret_emp rfl _ (.same _) ⟨by simp [ordI_eq (show x = y by omega)], rfl⟩)
theorem minus_call (x y : Nat) (hxy : y ≤ x) (lx : (dig x).length < 2^40) : ACall Tryz.prog 121 [lim (dig x), lim (dig y)] Mem.emp fun v m => v = lim (dig (x - y)) ∧ m = Mem.emp := by
  refine acall_S Tryz.func121 rfl rfl 62 rfl (Nat.le_of_ble_eq_true rfl) ?_
  have hlen := dig_len_le hxy
  generalize ha : dig x = a at *
  generalize hb : dig y = b at *
  have va : val a = x := by rw [← ha, val_dig]
  have vb : val b = y := by rw [← hb, val_dig]
  have la : Lb a := by rw [← ha]; exact dig_lb x
  have lb : Lb b := by rw [← hb]; exact dig_lb y
  refine AW.sr ?_
  simp [argsL]
  refine AW.sr ?_
  simp
  refine ⟨by omega, Fresh.intro fun bl _ => ?_⟩
  refine AW.sr ?_
  simp
  refine AW.seq_ex (ι := List Nat) (fun o => [(5, .osl bl 1 0 o.length)]) (fun o => Mem.emp.set bl ⟨87, 1, u32s o⟩) (fun o => Lb o ∧ val o = x - y ∧ o.length < 2^41) ?_ ?_
  · refine AW.sr ?_
    simp
    refine AW.block (AW.loopS (ι := Nat × Nat × List Nat) (fun x => [(0, lim a), (1, lim b), (5, .osl bl 1 0 a.length), (6, .int .u64 (x.2.1 : Nat)), (7, .int .i64 (x.1 : Nat))]) (fun x => Mem.emp.set bl ⟨87, 1, u32s x.2.2⟩)
      (fun x => x.1 ≤ a.length ∧ x.2.1 < 2 ∧ Lb x.2.2 ∧ x.2.2.length = a.length ∧ val (x.2.2.take x.1) + val (b.take x.1) = val (a.take x.1) + 4294967296 ^ x.1 * x.2.1) (fun x => a.length - x.1) (0, 0, List.replicate a.length 0) ⟨by simp, by simp, Lb.rep _, by simp, by simp [val]⟩ (by simp [u32s_rep]) (by simp) ?_)
    rintro ⟨i, c, o⟩ ⟨h1, h2, h3, h4, h5⟩
    simp only at h1 h2 h3 h4 h5; simp only
    refine AW.seq (AW.sr ?_)
    simp
    refine AW.cs (fun hi => ?_) (fun hi => ?_) rfl <;> simp at hi
    · refine AW.skip ?_; simp
      have qa := la.nth i
      have qb := lb.nth i
      have hw2 : IntKind.i64.wrap ((i : Int) + 1) = ((i + 1 : Nat) : Int) := wrap_i64 (by omega) (by omega)
      refine AW.seq (AW.block ?_)
      refine AW.sr ?_
      simp
      refine AW.seq_has [(0, lim a), (1, lim b), (5, .osl bl 1 0 a.length), (7, .int .i64 (i : Nat)), (8, .int .u64 (c + nth b i : Nat))] (Mem.emp.set bl ⟨87, 1, u32s o⟩) ?_ ?_
      · refine AW.sr ?_
        simp
        refine AW.cs (fun hl => ?_) (fun hl => ?_) rfl <;> simp at hl
        · refine AW.rg ?_; simp [hl]; omega
        · refine AW.skip ?_; simp [nth_ge hl]
      refine AW.sr ?_
      simp [hi]
      have q1 : (nth a i : Int) % 18446744073709551616 = nth a i := by omega
      refine AW.cs (fun hl => ?_) (fun hl => ?_) rfl <;> simp [q1] at hl
      · refine AW.sr ?_
        simp [hi, h4, q1]; rw [set_set, u32s_set' o i _ (nth a i + 4294967296 - (c + nth b i)) (by omega)]; refine AW.rg ?_; simp; refine AW.rg ?_; simp [hw2]
        refine ⟨i + 1, 1, o.set i (nth a i + 4294967296 - (c + nth b i)), ⟨by omega, by omega, h3.set i _ (by omega), by simpa using h4, ?_⟩, by omega, rfl, by omega, by omega⟩
        rw [take_set_succ _ _ _ (by omega), val_take_getD, val_take_getD, Nat.pow_succ]
        have q : 4294967296 ^ i * (nth a i + 4294967296 - (c + nth b i)) + 4294967296 ^ i * (c + nth b i) = 4294967296 ^ i * (nth a i) + 4294967296 ^ i * 4294967296 := by
          rw [← Nat.mul_add, ← Nat.mul_add]; congr 1; omega
        rw [Nat.mul_add _ c] at q
        omega
      · refine AW.sr ?_
        simp [hi, h4, q1]; rw [set_set, u32s_set' o i _ (nth a i - (c + nth b i)) (by omega)]; refine AW.rg ?_; simp; refine AW.rg ?_; simp [hw2]
        refine ⟨i + 1, 0, o.set i (nth a i - (c + nth b i)), ⟨by omega, by omega, h3.set i _ (by omega), by simpa using h4, ?_⟩, by omega, rfl, by omega, by omega⟩
        rw [take_set_succ _ _ _ (by omega), val_take_getD, val_take_getD]
        have q : 4294967296 ^ i * (nth a i - (c + nth b i)) + 4294967296 ^ i * (c + nth b i) = 4294967296 ^ i * (nth a i) := by
          rw [← Nat.mul_add]; congr 1; omega
        rw [Nat.mul_add _ c] at q
        omega
    · refine AW.exit ?_
      simp
      refine ⟨o, ⟨h3, ?_, by omega⟩, rfl, h4.symm⟩
      rw [val_take_of_le o i (by omega), val_take_of_le a i (by omega), val_take_of_le b i (by omega)] at h5
      have q1 := val_lt' h3 (k := i) (by omega)
      have q4 : c = 0 := by
        rcases Nat.eq_zero_or_pos c with h | h
        · exact h
        · have := Nat.le_mul_of_pos_right (4294967296 ^ i) h
          omega
      subst q4; omega
  · rintro o ⟨h1, h2, h3⟩
    refine AW.toEmp [(5, lim o)] (by simp; exact view_osl (e := 87) (by simp)) ?_
    refine AW.sr ?_
    simp
    refine CallK.val (trim_call o (by omega)) ?_
    try simp
    exact AW.ret (ret_emp rfl _ (.same _) ⟨by simp [trimL_eq h1, h2], rfl⟩)
end Go.Av
end
section
namespace Go.Av
theorem nth_val {l : List Nat} (h : Lb l) (k : Nat) : nth l k = val l / 4294967296 ^ k % 4294967296 := by
  induction l generalizing k with
  | nil => simp [nth, val]
  | cons x l ih =>
    have hx := h x (by simp)
    cases k with
    | zero => simp [nth, val]; omega
    | succ k =>
      have := ih (fun y hy => h y (by simp [hy])) k
      simp only [nth, List.getD_cons_succ] at this ⊢
      rw [this, val, Nat.pow_succ, Nat.mul_comm _ 4294967296, ← Nat.div_div_eq_div_mul]
      congr 2
      omega
theorem nth_dig (x k : Nat) : nth (dig x) k = x / 4294967296 ^ k % 4294967296 := by rw [nth_val (dig_lb x), val_dig]
theorem B_pow (k : Nat) : 4294967296 ^ k = 2 ^ (32 * k) := by rw [show (4294967296 : Nat) = 2 ^ 32 by rfl, ← Nat.pow_mul]
theorem mod_pow_step (x i : Nat) : x % 4294967296 ^ (i + 1) = x % 4294967296 ^ i + 4294967296 ^ i * (x / 4294967296 ^ i % 4294967296) := by
  rw [Nat.pow_succ, Nat.mod_mul]
theorem bit_eq (x i : Nat) : x / 4294967296 ^ (i / 32) % 4294967296 / 2 ^ (i % 32) % 2 = x / 2 ^ i % 2 := by
  have h : 2 ^ i = 2 ^ (32 * (i / 32)) * 2 ^ (i % 32) := by rw [← Nat.pow_add, Nat.div_add_mod]
  rw [h, ← Nat.div_div_eq_div_mul, B_pow]
  generalize x / 2 ^ (32 * (i / 32)) = y
  have hr : i % 32 < 32 := Nat.mod_lt _ (by omega)
  generalize i % 32 = r at hr
  have e : (4294967296 : Nat) = 2 ^ r * 2 ^ (32 - r) := by rw [← Nat.pow_add, Nat.add_sub_cancel' (by omega)]
  have e2 : 2 ^ (32 - r) = 2 * 2 ^ (31 - r) := by rw [show 32 - r = (31 - r) + 1 by omega, Nat.pow_succ, Nat.mul_comm]
  rw [e, Nat.mod_mul_right_div_self, e2, Nat.mod_mul_right_mod]
theorem shift_digit (x n i : Nat) : (x / 4294967296 ^ (i + n / 32) % 4294967296 + x / 4294967296 ^ (i + n / 32 + 1) % 4294967296 * 4294967296) / 2 ^ (n % 32) % 4294967296 = x / 2 ^ n / 4294967296 ^ i % 4294967296 := by
  have h : 2 ^ n = 2 ^ (32 * (n / 32)) * 2 ^ (n % 32) := by rw [← Nat.pow_add, Nat.div_add_mod]
  have h2 : x / 2 ^ n / 4294967296 ^ i = x / 4294967296 ^ (i + n / 32) / 2 ^ (n % 32) := by
    rw [h, Nat.div_div_eq_div_mul, Nat.div_div_eq_div_mul, Nat.pow_add, B_pow (n / 32)]
    congr 1
    rw [Nat.mul_comm (4294967296 ^ i), Nat.mul_assoc, Nat.mul_assoc, Nat.mul_comm (2 ^ (n % 32))]
  rw [h2, Nat.pow_succ 4294967296 (i + n / 32), ← Nat.div_div_eq_div_mul]
  generalize x / 4294967296 ^ (i + n / 32) = y
  have e : y % 4294967296 + y / 4294967296 % 4294967296 * 4294967296 = y % 18446744073709551616 := by omega
  rw [e]
  have hr : n % 32 < 32 := Nat.mod_lt _ (by omega)
  generalize n % 32 = r at hr
  have e3 : (18446744073709551616 : Nat) = 2 ^ r * (4294967296 * 2 ^ (32 - r)) := by
    rw [show (4294967296 : Nat) = 2 ^ 32 by rfl, ← Nat.pow_add, ← Nat.pow_add, show r + (32 + (32 - r)) = 64 by omega]
  rw [e3, Nat.mod_mul_right_div_self, Nat.mod_mul_right_mod]
theorem or_low {r h d : Nat} (hr : r ≤ 32) (hh : h < 2 ^ r) : h ||| d * 2 ^ r % 4294967296 = h + d * 2 ^ r % 4294967296 := by
  have e : d * 2 ^ r % 4294967296 = 2 ^ r * (d % 2 ^ (32 - r)) := by
    rw [show (4294967296 : Nat) = 2 ^ r * 2 ^ (32 - r) by rw [← Nat.pow_add, Nat.add_sub_cancel' hr], Nat.mul_comm d, Nat.mul_mod_mul_left]
  rw [e, Nat.or_comm, Nat.add_comm, Nat.two_pow_add_eq_or_of_lt hh]
theorem and_u32 {a b : Nat} (ha : a < 4294967296) (hb : b < 4294967296) : bitw .and .u32 (a : Int) (b : Int) = ((a &&& b : Nat) : Int) := by
  show IntKind.u32.wrap (((BitVec.ofInt 32 (a : Int) &&& BitVec.ofInt 32 (b : Int)).toNat : Nat) : Int) = _
  rw [wrap_u32, BitVec.ofInt_natCast, BitVec.ofInt_natCast, BitVec.toNat_and, BitVec.toNat_ofNat, BitVec.toNat_ofNat, Nat.mod_eq_of_lt (show a < 2 ^ 32 by omega), Nat.mod_eq_of_lt (show b < 2 ^ 32 by omega)]
  have := Nat.and_lt_two_pow (n := 32) a (show b < 2 ^ 32 by omega)
  omega
theorem or_u32 {a b : Nat} (ha : a < 4294967296) (hb : b < 4294967296) : bitw .or .u32 (a : Int) (b : Int) = ((a ||| b : Nat) : Int) := by
  show IntKind.u32.wrap (((BitVec.ofInt 32 (a : Int) ||| BitVec.ofInt 32 (b : Int)).toNat : Nat) : Int) = _
  rw [wrap_u32, BitVec.ofInt_natCast, BitVec.ofInt_natCast, BitVec.toNat_or, BitVec.toNat_ofNat, BitVec.toNat_ofNat, Nat.mod_eq_of_lt (show a < 2 ^ 32 by omega), Nat.mod_eq_of_lt (show b < 2 ^ 32 by omega)]
  have := Nat.or_lt_two_pow (n := 32) (show a < 2 ^ 32 by omega) (show b < 2 ^ 32 by omega)
  omega
theorem and_u64 {a b : Nat} (ha : a < 18446744073709551616) (hb : b < 18446744073709551616) : bitw .and .u64 (a : Int) (b : Int) = ((a &&& b : Nat) : Int) := by
  show IntKind.u64.wrap (((BitVec.ofInt 64 (a : Int) &&& BitVec.ofInt 64 (b : Int)).toNat : Nat) : Int) = _
  rw [wrap_u64, BitVec.ofInt_natCast, BitVec.ofInt_natCast, BitVec.toNat_and, BitVec.toNat_ofNat, BitVec.toNat_ofNat, Nat.mod_eq_of_lt (show a < 2 ^ 64 by omega), Nat.mod_eq_of_lt (show b < 2 ^ 64 by omega)]
  have := Nat.and_lt_two_pow (n := 64) a (show b < 2 ^ 64 by omega)
  omega
theorem or_u64 {a b : Nat} (ha : a < 18446744073709551616) (hb : b < 18446744073709551616) : bitw .or .u64 (a : Int) (b : Int) = ((a ||| b : Nat) : Int) := by
  show IntKind.u64.wrap (((BitVec.ofInt 64 (a : Int) ||| BitVec.ofInt 64 (b : Int)).toNat : Nat) : Int) = _
  rw [wrap_u64, BitVec.ofInt_natCast, BitVec.ofInt_natCast, BitVec.toNat_or, BitVec.toNat_ofNat, BitVec.toNat_ofNat, Nat.mod_eq_of_lt (show a < 2 ^ 64 by omega), Nat.mod_eq_of_lt (show b < 2 ^ 64 by omega)]
  have := Nat.or_lt_two_pow (n := 64) (show a < 2 ^ 64 by omega) (show b < 2 ^ 64 by omega)
  omega
theorem shr_nat (a j : Nat) : Int.fdiv (a : Int) (2 ^ j) = (a : Int) / 2 ^ j := by
  rw [Int.fdiv_eq_ediv_of_nonneg _ (Int.le_of_lt (Int.pow_pos (by omega)))]
@[simp] theorem tdiv_32 (a : Nat) : Int.tdiv (a : Int) 32 = ((a / 32 : Nat) : Int) := rfl
@[simp] theorem tmod_32 (a : Nat) : Int.tmod (a : Int) 32 = ((a % 32 : Nat) : Int) := rfl
@[simp] theorem toNat_div32 (a : Nat) : ((a : Int) / 32).toNat = a / 32 := by omega
@[simp] theorem toNat_mod32 (a : Nat) : ((a : Int) % 32).toNat = a % 32 := by omega
theorem wi' {x : Int} (h : -9223372036854775808 ≤ x ∧ x < 9223372036854775808) : IntKind.i64.wrap x = x := wrap_i64 h.1 h.2
@[simp] theorem bits_u32 : IntKind.u32.bits = 32 := rfl
@[simp] theorem bits_u64 : IntKind.u64.bits = 64 := rfl
theorem wi {a : Nat} (h : a < 9223372036854775808) : IntKind.i64.wrap (a : Int) = a := wrap_i64 (by omega) (by omega)
end Go.Av
end
section
namespace Go.Av
@[simp] theorem lift_add (a b : Nat) : (a : Int) + (b : Int) = ((a + b : Nat) : Int) := by omega
@[simp] theorem lift_mul (a b : Nat) : (a : Int) * (b : Int) = ((a * b : Nat) : Int) := (Int.natCast_mul a b).symm
@[simp] theorem lift_div (a b : Nat) : (a : Int) / (b : Int) = ((a / b : Nat) : Int) := rfl
@[simp] theorem lift_mod (a b : Nat) : (a : Int) % (b : Int) = ((a % b : Nat) : Int) := rfl
@[simp] theorem lift_shr (a j : Nat) : Int.fdiv (a : Int) (2 ^ j) = ((a / 2 ^ j : Nat) : Int) := by
  rw [shr_nat, show ((2 : Int) ^ j) = ((2 ^ j : Nat) : Int) by simp [Int.natCast_pow]]
  rfl
@[simp] theorem lift_shl (a j : Nat) : (a : Int) * 2 ^ j = ((a * 2 ^ j : Nat) : Int) := by
  rw [show ((2 : Int) ^ j) = ((2 ^ j : Nat) : Int) by simp [Int.natCast_pow], lift_mul]
theorem lift_sub {a b : Nat} (h : b ≤ a) : (a : Int) - (b : Int) = ((a - b : Nat) : Int) := by omega
@[simp] theorem lift_add_1 (a : Nat) : (a : Int) + 1 = ((a + 1 : Nat) : Int) := by omega
@[simp] theorem lift_1_add (a : Nat) : 1 + (a : Int) = ((1 + a : Nat) : Int) := by omega
@[simp] theorem lift_mul_1 (a : Nat) : (a : Int) * 1 = ((a * 1 : Nat) : Int) := by omega
@[simp] theorem lift_1_mul (a : Nat) : 1 * (a : Int) = ((1 * a : Nat) : Int) := by omega
@[simp] theorem lift_div_1 (a : Nat) : (a : Int) / 1 = ((a / 1 : Nat) : Int) := rfl
@[simp] theorem lift_mod_1 (a : Nat) : (a : Int) % 1 = ((a % 1 : Nat) : Int) := rfl
@[simp] theorem lift_tdiv_1 (a : Nat) : Int.tdiv (a : Int) 1 = ((a / 1 : Nat) : Int) := rfl
@[simp] theorem lift_tmod_1 (a : Nat) : Int.tmod (a : Int) 1 = ((a % 1 : Nat) : Int) := rfl
@[simp] theorem lift_lt_1 (a : Nat) : (a : Int) < 1 ↔ a < 1 := by omega
@[simp] theorem lift_1_lt (a : Nat) : 1 < (a : Int) ↔ 1 < a := by omega
@[simp] theorem lift_le_1 (a : Nat) : (a : Int) ≤ 1 ↔ a ≤ 1 := by omega
@[simp] theorem lift_1_le (a : Nat) : 1 ≤ (a : Int) ↔ 1 ≤ a := by omega
@[simp] theorem lift_eq_1 (a : Nat) : (a : Int) = 1 ↔ a = 1 := by omega
@[simp] theorem lift_add_2 (a : Nat) : (a : Int) + 2 = ((a + 2 : Nat) : Int) := by omega
@[simp] theorem lift_2_add (a : Nat) : 2 + (a : Int) = ((2 + a : Nat) : Int) := by omega
@[simp] theorem lift_mul_2 (a : Nat) : (a : Int) * 2 = ((a * 2 : Nat) : Int) := by omega
@[simp] theorem lift_2_mul (a : Nat) : 2 * (a : Int) = ((2 * a : Nat) : Int) := by omega
@[simp] theorem lift_div_2 (a : Nat) : (a : Int) / 2 = ((a / 2 : Nat) : Int) := rfl
@[simp] theorem lift_mod_2 (a : Nat) : (a : Int) % 2 = ((a % 2 : Nat) : Int) := rfl
@[simp] theorem lift_tdiv_2 (a : Nat) : Int.tdiv (a : Int) 2 = ((a / 2 : Nat) : Int) := rfl
@[simp] theorem lift_tmod_2 (a : Nat) : Int.tmod (a : Int) 2 = ((a % 2 : Nat) : Int) := rfl
@[simp] theorem lift_lt_2 (a : Nat) : (a : Int) < 2 ↔ a < 2 := by omega
@[simp] theorem lift_2_lt (a : Nat) : 2 < (a : Int) ↔ 2 < a := by omega
@[simp] theorem lift_le_2 (a : Nat) : (a : Int) ≤ 2 ↔ a ≤ 2 := by omega
@[simp] theorem lift_2_le (a : Nat) : 2 ≤ (a : Int) ↔ 2 ≤ a := by omega
@[simp] theorem lift_eq_2 (a : Nat) : (a : Int) = 2 ↔ a = 2 := by omega
@[simp] theorem lift_add_4 (a : Nat) : (a : Int) + 4 = ((a + 4 : Nat) : Int) := by omega
@[simp] theorem lift_4_add (a : Nat) : 4 + (a : Int) = ((4 + a : Nat) : Int) := by omega
@[simp] theorem lift_mul_4 (a : Nat) : (a : Int) * 4 = ((a * 4 : Nat) : Int) := by omega
@[simp] theorem lift_4_mul (a : Nat) : 4 * (a : Int) = ((4 * a : Nat) : Int) := by omega
@[simp] theorem lift_div_4 (a : Nat) : (a : Int) / 4 = ((a / 4 : Nat) : Int) := rfl
@[simp] theorem lift_mod_4 (a : Nat) : (a : Int) % 4 = ((a % 4 : Nat) : Int) := rfl
@[simp] theorem lift_tdiv_4 (a : Nat) : Int.tdiv (a : Int) 4 = ((a / 4 : Nat) : Int) := rfl
@[simp] theorem lift_tmod_4 (a : Nat) : Int.tmod (a : Int) 4 = ((a % 4 : Nat) : Int) := rfl
@[simp] theorem lift_lt_4 (a : Nat) : (a : Int) < 4 ↔ a < 4 := by omega
@[simp] theorem lift_4_lt (a : Nat) : 4 < (a : Int) ↔ 4 < a := by omega
@[simp] theorem lift_le_4 (a : Nat) : (a : Int) ≤ 4 ↔ a ≤ 4 := by omega
@[simp] theorem lift_4_le (a : Nat) : 4 ≤ (a : Int) ↔ 4 ≤ a := by omega
@[simp] theorem lift_eq_4 (a : Nat) : (a : Int) = 4 ↔ a = 4 := by omega
@[simp] theorem lift_add_10 (a : Nat) : (a : Int) + 10 = ((a + 10 : Nat) : Int) := by omega
@[simp] theorem lift_10_add (a : Nat) : 10 + (a : Int) = ((10 + a : Nat) : Int) := by omega
@[simp] theorem lift_mul_10 (a : Nat) : (a : Int) * 10 = ((a * 10 : Nat) : Int) := by omega
@[simp] theorem lift_10_mul (a : Nat) : 10 * (a : Int) = ((10 * a : Nat) : Int) := by omega
@[simp] theorem lift_div_10 (a : Nat) : (a : Int) / 10 = ((a / 10 : Nat) : Int) := rfl
@[simp] theorem lift_mod_10 (a : Nat) : (a : Int) % 10 = ((a % 10 : Nat) : Int) := rfl
@[simp] theorem lift_tdiv_10 (a : Nat) : Int.tdiv (a : Int) 10 = ((a / 10 : Nat) : Int) := rfl
@[simp] theorem lift_tmod_10 (a : Nat) : Int.tmod (a : Int) 10 = ((a % 10 : Nat) : Int) := rfl
@[simp] theorem lift_lt_10 (a : Nat) : (a : Int) < 10 ↔ a < 10 := by omega
@[simp] theorem lift_10_lt (a : Nat) : 10 < (a : Int) ↔ 10 < a := by omega
@[simp] theorem lift_le_10 (a : Nat) : (a : Int) ≤ 10 ↔ a ≤ 10 := by omega
@[simp] theorem lift_10_le (a : Nat) : 10 ≤ (a : Int) ↔ 10 ≤ a := by omega
@[simp] theorem lift_eq_10 (a : Nat) : (a : Int) = 10 ↔ a = 10 := by omega
@[simp] theorem lift_add_31 (a : Nat) : (a : Int) + 31 = ((a + 31 : Nat) : Int) := by omega
@[simp] theorem lift_31_add (a : Nat) : 31 + (a : Int) = ((31 + a : Nat) : Int) := by omega
@[simp] theorem lift_mul_31 (a : Nat) : (a : Int) * 31 = ((a * 31 : Nat) : Int) := by omega
@[simp] theorem lift_31_mul (a : Nat) : 31 * (a : Int) = ((31 * a : Nat) : Int) := by omega
@[simp] theorem lift_div_31 (a : Nat) : (a : Int) / 31 = ((a / 31 : Nat) : Int) := rfl
@[simp] theorem lift_mod_31 (a : Nat) : (a : Int) % 31 = ((a % 31 : Nat) : Int) := rfl
@[simp] theorem lift_tdiv_31 (a : Nat) : Int.tdiv (a : Int) 31 = ((a / 31 : Nat) : Int) := rfl
@[simp] theorem lift_tmod_31 (a : Nat) : Int.tmod (a : Int) 31 = ((a % 31 : Nat) : Int) := rfl
@[simp] theorem lift_lt_31 (a : Nat) : (a : Int) < 31 ↔ a < 31 := by omega
@[simp] theorem lift_31_lt (a : Nat) : 31 < (a : Int) ↔ 31 < a := by omega
@[simp] theorem lift_le_31 (a : Nat) : (a : Int) ≤ 31 ↔ a ≤ 31 := by omega
@[simp] theorem lift_31_le (a : Nat) : 31 ≤ (a : Int) ↔ 31 ≤ a := by omega
@[simp] theorem lift_eq_31 (a : Nat) : (a : Int) = 31 ↔ a = 31 := by omega
@[simp] theorem lift_add_32 (a : Nat) : (a : Int) + 32 = ((a + 32 : Nat) : Int) := by omega
@[simp] theorem lift_32_add (a : Nat) : 32 + (a : Int) = ((32 + a : Nat) : Int) := by omega
@[simp] theorem lift_mul_32 (a : Nat) : (a : Int) * 32 = ((a * 32 : Nat) : Int) := by omega
@[simp] theorem lift_32_mul (a : Nat) : 32 * (a : Int) = ((32 * a : Nat) : Int) := by omega
@[simp] theorem lift_div_32 (a : Nat) : (a : Int) / 32 = ((a / 32 : Nat) : Int) := rfl
@[simp] theorem lift_mod_32 (a : Nat) : (a : Int) % 32 = ((a % 32 : Nat) : Int) := rfl
@[simp] theorem lift_lt_32 (a : Nat) : (a : Int) < 32 ↔ a < 32 := by omega
@[simp] theorem lift_32_lt (a : Nat) : 32 < (a : Int) ↔ 32 < a := by omega
@[simp] theorem lift_le_32 (a : Nat) : (a : Int) ≤ 32 ↔ a ≤ 32 := by omega
@[simp] theorem lift_32_le (a : Nat) : 32 ≤ (a : Int) ↔ 32 ≤ a := by omega
@[simp] theorem lift_eq_32 (a : Nat) : (a : Int) = 32 ↔ a = 32 := by omega
@[simp] theorem lift_add_63 (a : Nat) : (a : Int) + 63 = ((a + 63 : Nat) : Int) := by omega
@[simp] theorem lift_63_add (a : Nat) : 63 + (a : Int) = ((63 + a : Nat) : Int) := by omega
@[simp] theorem lift_mul_63 (a : Nat) : (a : Int) * 63 = ((a * 63 : Nat) : Int) := by omega
@[simp] theorem lift_63_mul (a : Nat) : 63 * (a : Int) = ((63 * a : Nat) : Int) := by omega
@[simp] theorem lift_div_63 (a : Nat) : (a : Int) / 63 = ((a / 63 : Nat) : Int) := rfl
@[simp] theorem lift_mod_63 (a : Nat) : (a : Int) % 63 = ((a % 63 : Nat) : Int) := rfl
@[simp] theorem lift_tdiv_63 (a : Nat) : Int.tdiv (a : Int) 63 = ((a / 63 : Nat) : Int) := rfl
@[simp] theorem lift_tmod_63 (a : Nat) : Int.tmod (a : Int) 63 = ((a % 63 : Nat) : Int) := rfl
@[simp] theorem lift_lt_63 (a : Nat) : (a : Int) < 63 ↔ a < 63 := by omega
@[simp] theorem lift_63_lt (a : Nat) : 63 < (a : Int) ↔ 63 < a := by omega
@[simp] theorem lift_le_63 (a : Nat) : (a : Int) ≤ 63 ↔ a ≤ 63 := by omega
@[simp] theorem lift_63_le (a : Nat) : 63 ≤ (a : Int) ↔ 63 ≤ a := by omega
@[simp] theorem lift_eq_63 (a : Nat) : (a : Int) = 63 ↔ a = 63 := by omega
@[simp] theorem lift_add_64 (a : Nat) : (a : Int) + 64 = ((a + 64 : Nat) : Int) := by omega
@[simp] theorem lift_64_add (a : Nat) : 64 + (a : Int) = ((64 + a : Nat) : Int) := by omega
@[simp] theorem lift_mul_64 (a : Nat) : (a : Int) * 64 = ((a * 64 : Nat) : Int) := by omega
@[simp] theorem lift_64_mul (a : Nat) : 64 * (a : Int) = ((64 * a : Nat) : Int) := by omega
@[simp] theorem lift_div_64 (a : Nat) : (a : Int) / 64 = ((a / 64 : Nat) : Int) := rfl
@[simp] theorem lift_mod_64 (a : Nat) : (a : Int) % 64 = ((a % 64 : Nat) : Int) := rfl
@[simp] theorem lift_tdiv_64 (a : Nat) : Int.tdiv (a : Int) 64 = ((a / 64 : Nat) : Int) := rfl
@[simp] theorem lift_tmod_64 (a : Nat) : Int.tmod (a : Int) 64 = ((a % 64 : Nat) : Int) := rfl
@[simp] theorem lift_lt_64 (a : Nat) : (a : Int) < 64 ↔ a < 64 := by omega
@[simp] theorem lift_64_lt (a : Nat) : 64 < (a : Int) ↔ 64 < a := by omega
@[simp] theorem lift_le_64 (a : Nat) : (a : Int) ≤ 64 ↔ a ≤ 64 := by omega
@[simp] theorem lift_64_le (a : Nat) : 64 ≤ (a : Int) ↔ 64 ≤ a := by omega
@[simp] theorem lift_eq_64 (a : Nat) : (a : Int) = 64 ↔ a = 64 := by omega
@[simp] theorem lift_add_128 (a : Nat) : (a : Int) + 128 = ((a + 128 : Nat) : Int) := by omega
@[simp] theorem lift_128_add (a : Nat) : 128 + (a : Int) = ((128 + a : Nat) : Int) := by omega
@[simp] theorem lift_mul_128 (a : Nat) : (a : Int) * 128 = ((a * 128 : Nat) : Int) := by omega
@[simp] theorem lift_128_mul (a : Nat) : 128 * (a : Int) = ((128 * a : Nat) : Int) := by omega
@[simp] theorem lift_div_128 (a : Nat) : (a : Int) / 128 = ((a / 128 : Nat) : Int) := rfl
@[simp] theorem lift_mod_128 (a : Nat) : (a : Int) % 128 = ((a % 128 : Nat) : Int) := rfl
@[simp] theorem lift_tdiv_128 (a : Nat) : Int.tdiv (a : Int) 128 = ((a / 128 : Nat) : Int) := rfl
@[simp] theorem lift_tmod_128 (a : Nat) : Int.tmod (a : Int) 128 = ((a % 128 : Nat) : Int) := rfl
@[simp] theorem lift_lt_128 (a : Nat) : (a : Int) < 128 ↔ a < 128 := by omega
@[simp] theorem lift_128_lt (a : Nat) : 128 < (a : Int) ↔ 128 < a := by omega
@[simp] theorem lift_le_128 (a : Nat) : (a : Int) ≤ 128 ↔ a ≤ 128 := by omega
@[simp] theorem lift_128_le (a : Nat) : 128 ≤ (a : Int) ↔ 128 ≤ a := by omega
@[simp] theorem lift_eq_128 (a : Nat) : (a : Int) = 128 ↔ a = 128 := by omega
@[simp] theorem lift_add_4294967295 (a : Nat) : (a : Int) + 4294967295 = ((a + 4294967295 : Nat) : Int) := by omega
@[simp] theorem lift_4294967295_add (a : Nat) : 4294967295 + (a : Int) = ((4294967295 + a : Nat) : Int) := by omega
@[simp] theorem lift_mul_4294967295 (a : Nat) : (a : Int) * 4294967295 = ((a * 4294967295 : Nat) : Int) := by omega
@[simp] theorem lift_4294967295_mul (a : Nat) : 4294967295 * (a : Int) = ((4294967295 * a : Nat) : Int) := by omega
@[simp] theorem lift_div_4294967295 (a : Nat) : (a : Int) / 4294967295 = ((a / 4294967295 : Nat) : Int) := rfl
@[simp] theorem lift_mod_4294967295 (a : Nat) : (a : Int) % 4294967295 = ((a % 4294967295 : Nat) : Int) := rfl
@[simp] theorem lift_tdiv_4294967295 (a : Nat) : Int.tdiv (a : Int) 4294967295 = ((a / 4294967295 : Nat) : Int) := rfl
@[simp] theorem lift_tmod_4294967295 (a : Nat) : Int.tmod (a : Int) 4294967295 = ((a % 4294967295 : Nat) : Int) := rfl
@[simp] theorem lift_lt_4294967295 (a : Nat) : (a : Int) < 4294967295 ↔ a < 4294967295 := by omega
@[simp] theorem lift_4294967295_lt (a : Nat) : 4294967295 < (a : Int) ↔ 4294967295 < a := by omega
@[simp] theorem lift_le_4294967295 (a : Nat) : (a : Int) ≤ 4294967295 ↔ a ≤ 4294967295 := by omega
@[simp] theorem lift_4294967295_le (a : Nat) : 4294967295 ≤ (a : Int) ↔ 4294967295 ≤ a := by omega
@[simp] theorem lift_eq_4294967295 (a : Nat) : (a : Int) = 4294967295 ↔ a = 4294967295 := by omega
@[simp] theorem lift_add_4294967296 (a : Nat) : (a : Int) + 4294967296 = ((a + 4294967296 : Nat) : Int) := by omega
@[simp] theorem lift_4294967296_add (a : Nat) : 4294967296 + (a : Int) = ((4294967296 + a : Nat) : Int) := by omega
@[simp] theorem lift_mul_4294967296 (a : Nat) : (a : Int) * 4294967296 = ((a * 4294967296 : Nat) : Int) := by omega
@[simp] theorem lift_4294967296_mul (a : Nat) : 4294967296 * (a : Int) = ((4294967296 * a : Nat) : Int) := by omega
@[simp] theorem lift_div_4294967296 (a : Nat) : (a : Int) / 4294967296 = ((a / 4294967296 : Nat) : Int) := rfl
@[simp] theorem lift_mod_4294967296 (a : Nat) : (a : Int) % 4294967296 = ((a % 4294967296 : Nat) : Int) := rfl
@[simp] theorem lift_tdiv_4294967296 (a : Nat) : Int.tdiv (a : Int) 4294967296 = ((a / 4294967296 : Nat) : Int) := rfl
@[simp] theorem lift_tmod_4294967296 (a : Nat) : Int.tmod (a : Int) 4294967296 = ((a % 4294967296 : Nat) : Int) := rfl
@[simp] theorem lift_lt_4294967296 (a : Nat) : (a : Int) < 4294967296 ↔ a < 4294967296 := by omega
@[simp] theorem lift_4294967296_lt (a : Nat) : 4294967296 < (a : Int) ↔ 4294967296 < a := by omega
@[simp] theorem lift_le_4294967296 (a : Nat) : (a : Int) ≤ 4294967296 ↔ a ≤ 4294967296 := by omega
@[simp] theorem lift_4294967296_le (a : Nat) : 4294967296 ≤ (a : Int) ↔ 4294967296 ≤ a := by omega
@[simp] theorem lift_eq_4294967296 (a : Nat) : (a : Int) = 4294967296 ↔ a = 4294967296 := by omega
@[simp] theorem lift_add_18446744073709551616 (a : Nat) : (a : Int) + 18446744073709551616 = ((a + 18446744073709551616 : Nat) : Int) := by omega
@[simp] theorem lift_18446744073709551616_add (a : Nat) : 18446744073709551616 + (a : Int) = ((18446744073709551616 + a : Nat) : Int) := by omega
@[simp] theorem lift_mul_18446744073709551616 (a : Nat) : (a : Int) * 18446744073709551616 = ((a * 18446744073709551616 : Nat) : Int) := by omega
@[simp] theorem lift_18446744073709551616_mul (a : Nat) : 18446744073709551616 * (a : Int) = ((18446744073709551616 * a : Nat) : Int) := by omega
@[simp] theorem lift_div_18446744073709551616 (a : Nat) : (a : Int) / 18446744073709551616 = ((a / 18446744073709551616 : Nat) : Int) := rfl
@[simp] theorem lift_mod_18446744073709551616 (a : Nat) : (a : Int) % 18446744073709551616 = ((a % 18446744073709551616 : Nat) : Int) := rfl
@[simp] theorem lift_tdiv_18446744073709551616 (a : Nat) : Int.tdiv (a : Int) 18446744073709551616 = ((a / 18446744073709551616 : Nat) : Int) := rfl
@[simp] theorem lift_tmod_18446744073709551616 (a : Nat) : Int.tmod (a : Int) 18446744073709551616 = ((a % 18446744073709551616 : Nat) : Int) := rfl
@[simp] theorem lift_lt_18446744073709551616 (a : Nat) : (a : Int) < 18446744073709551616 ↔ a < 18446744073709551616 := by omega
@[simp] theorem lift_18446744073709551616_lt (a : Nat) : 18446744073709551616 < (a : Int) ↔ 18446744073709551616 < a := by omega
@[simp] theorem lift_le_18446744073709551616 (a : Nat) : (a : Int) ≤ 18446744073709551616 ↔ a ≤ 18446744073709551616 := by omega
@[simp] theorem lift_18446744073709551616_le (a : Nat) : 18446744073709551616 ≤ (a : Int) ↔ 18446744073709551616 ≤ a := by omega
@[simp] theorem lift_eq_18446744073709551616 (a : Nat) : (a : Int) = 18446744073709551616 ↔ a = 18446744073709551616 := by omega
attribute [simp] set_set emp_del set_del
end Go.Av
end
section
namespace Go.Av
open Go.Proofs
theorem bit_call (x i : Nat) (hi : i < 2^50) (lx : (dig x).length < 2^40) : ACall Tryz.prog 118 [lim (dig x), .int .i64 i] Mem.emp fun v m => v = .int .u32 ((x / 2 ^ i % 2 : Nat) : Int) ∧ m = Mem.emp := by
  refine acall_S Tryz.func118 rfl rfl 19 rfl (Nat.le_of_ble_eq_true rfl) ?_
  have hw : IntKind.i64.wrap ((i / 32 : Nat) : Int) = ((i / 32 : Nat) : Int) := wi (by omega)
  (repeat refine AW.seq ?_); refine AW.rg ?_; simp [-Int.natCast_ediv, -Int.natCast_emod, -Int.natCast_pow, argsL]; (repeat refine AW.seq ?_); refine AW.rg ?_; simp [-Int.natCast_emod, -Int.natCast_ediv, hw]; (repeat refine AW.seq ?_)
  refine AW.cs (fun h => ?_) (fun h => ?_) rfl <;> simp at h
  · (repeat refine AW.seq ?_); refine AW.rg ?_; simp [-Int.natCast_emod, -Int.natCast_ediv]
    have : x / 2 ^ i % 2 = 0 := by
      rw [← bit_eq, ← nth_dig, nth_ge h]; simp
    exact AW.ret (ret_views [.int .u32 0] rfl (by simp [-Int.natCast_ediv]) ⟨by rw [this]; rfl, rfl⟩)
  · refine AW.skip ?_
    try simp [-Int.natCast_ediv, -Int.natCast_emod, -Int.natCast_pow]
    have hm : min (i % 32) 32 = i % 32 := by omega
    (repeat refine AW.seq ?_); refine AW.rg ?_; simp [-Int.natCast_emod, -Int.natCast_ediv, hw, hm]
    have q := (dig_lb x).nth (i / 32)
    refine ⟨by omega, ?_⟩
    have e2 : nth (dig x) (i / 32) / 2 ^ (i % 32) < 4294967296 := Nat.lt_of_le_of_lt (Nat.div_le_self _ _) q
    refine AW.ret (ret_emp rfl _ (.same _) ⟨?_, rfl⟩)
    have e3 := and_u32 e2 (show 1 < 4294967296 by omega)
    have e4 : nth (dig x) (i / 32) / 2 ^ (i % 32) &&& 1 = x / 2 ^ i % 2 := by rw [Nat.and_one_is_mod, nth_dig, bit_eq]
    rw [e4] at e3
    simp [-Int.natCast_ediv, -Int.natCast_emod, -Int.natCast_pow] at e3 ⊢
    exact e3
def isRight (y : Nat) (v : AV) : Prop := ∃ t, v = .tup [lim (dig y), .bool t]
theorem right_call (x n : Nat) (hn : n < 2^50) (lx : (dig x).length < 2^40) : ACall Tryz.prog 144 [lim (dig x), .int .i64 n] Mem.emp fun v m => isRight (x / 2 ^ n) v ∧ m = Mem.emp := by
  refine acall_S Tryz.func144 rfl rfl 100 rfl (Nat.le_of_ble_eq_true rfl) ?_
  have hw : IntKind.i64.wrap ((n / 32 : Nat) : Int) = ((n / 32 : Nat) : Int) := wi (by omega)
  have hx := val_dig x
  have hb := dig_lb x
  have hnth := nth_dig x
  generalize ha : dig x = a at *
  have hx2 : x < 4294967296 ^ a.length := by rw [← hx]; exact val_lt hb
  (repeat refine AW.seq ?_); refine AW.rg ?_; simp [argsL]; (repeat refine AW.seq ?_); refine AW.rg ?_; simp [-Int.natCast_ediv, hw]; (repeat refine AW.seq ?_)
  refine AW.cs (fun h => ?_) (fun h => ?_) rfl <;> simp at h
  · (repeat refine AW.seq ?_); refine AW.rg ?_; simp [-Int.natCast_ediv]
    have : x / 2 ^ n = 0 := by
      have h3 := val_lt' hb h
      rw [B_pow] at h3
      have h4 : 2 ^ (32 * (n / 32)) ≤ 2 ^ n := Nat.pow_le_pow_right (by omega) (by omega)
      exact Nat.div_eq_of_lt (by omega)
    exact AW.ret (ret_views [lim [], .bool (decide (0 < a.length))] rfl (by simp [-Int.natCast_ediv]) ⟨⟨decide (0 < a.length), by simp [this, dig_zero]⟩, rfl⟩)
  · refine AW.skip ?_
    try simp [-Int.natCast_ediv]
    (repeat refine AW.seq ?_); refine AW.rg ?_; simp [-Int.natCast_ediv]
    refine AW.seq_ex (ι := Bool) (fun t => [(0, lim a), (1, .int .i64 n), (6, .bool t)]) (fun _ => Mem.emp) (fun _ => True) ?_ ?_
    · (repeat refine AW.seq ?_); refine AW.rg ?_; simp [-Int.natCast_ediv]
      refine AW.block (AW.loopS (ι := Nat × Bool) (fun x => [(0, lim a), (1, .int .i64 n), (6, .bool x.2), (7, .int .i64 x.1)]) (fun _ => Mem.emp) (fun x => x.1 ≤ n / 32) (fun x => n / 32 - x.1) (0, false) (by simp) rfl (by simp [-Int.natCast_ediv]) ?_)
      rintro ⟨i, t⟩ h1
      simp only at h1; simp only
      have hw2 : IntKind.i64.wrap ((i + 1 : Nat) : Int) = ((i + 1 : Nat) : Int) := wi (by omega)
      (repeat refine AW.seq ?_); refine AW.rg ?_; simp [-Int.natCast_ediv, hw]; (repeat refine AW.seq ?_)
      refine AW.cs (fun h2 => ?_) (fun h2 => ?_) rfl <;> simp at h2
      · refine AW.skip ?_
        try simp [-Int.natCast_ediv]
        (repeat refine AW.seq ?_); refine AW.block ?_
        cases t
        · (repeat refine AW.seq ?_); refine AW.rg ?_; simp [-Int.natCast_ediv]
          refine ⟨by omega, ?_⟩
          (repeat refine AW.seq ?_); refine AW.rg ?_; simp [-Int.natCast_add, -Int.natCast_ediv, hw2]
          refine ⟨i + 1, ?_⟩
          by_cases hz : nth a i = 0 <;> simp [-Int.natCast_add, hz] <;> omega
        · (repeat refine AW.seq ?_); refine AW.rg ?_; simp [-Int.natCast_ediv]; (repeat refine AW.seq ?_); refine AW.rg ?_; simp [-Int.natCast_add, -Int.natCast_ediv, hw2]
          exact ⟨i + 1, by omega, by omega, rfl⟩
      · refine AW.exit ?_
        try simp [-Int.natCast_ediv]
    · rintro t -
      have hw3 : IntKind.i64.wrap ((a.length : Int) - ((n / 32 : Nat) : Int)) = ((a.length - n / 32 : Nat) : Int) := by rw [lift_sub (by omega)]; exact wi (by omega)
      (repeat refine AW.seq ?_); refine AW.rg ?_; simp [-Int.natCast_mul, -Int.natCast_ediv, hw, hw3]
      refine ⟨by omega, Fresh.intro fun bl _ => ?_⟩
      generalize hN : a.length - n / 32 = N at *
      refine AW.seq_ex (ι := List Nat) (fun o => [(0, lim a), (1, .int .i64 n), (6, .bool t), (8, .osl bl 1 0 o.length)]) (fun o => Mem.emp.set bl ⟨87, 1, u32s o⟩) (fun o => Lb o ∧ val o = x / 2 ^ n ∧ o.length < 2^41) ?_ ?_
      · (repeat refine AW.seq ?_); refine AW.rg ?_; simp [-Int.natCast_ediv]
        refine AW.block (AW.loopS (ι := Nat × List Nat) (fun x => [(0, lim a), (1, .int .i64 n), (6, .bool t), (8, .osl bl 1 0 N), (9, .int .i64 (x.1 : Nat))]) (fun x => Mem.emp.set bl ⟨87, 1, u32s x.2⟩)
          (fun y => y.1 ≤ N ∧ Lb y.2 ∧ y.2.length = N ∧ val (y.2.take y.1) = x / 2 ^ n % 4294967296 ^ y.1) (fun x => N - x.1) (0, List.replicate N 0) ⟨by simp, Lb.rep _, by simp, by simp [val, Nat.mod_one]⟩ (by simp [u32s_rep]) (by simp [-Int.natCast_ediv]) ?_)
        rintro ⟨i, o⟩ ⟨h1, h3, h4, h5⟩
        simp only at h1 h3 h4 h5; simp only; (repeat refine AW.seq ?_); refine AW.rg ?_; simp; (repeat refine AW.seq ?_)
        refine AW.cs (fun hi => ?_) (fun hi => ?_) rfl <;> simp at hi
        · refine AW.skip ?_; try simp
          have hw4 : IntKind.i64.wrap ((i + n / 32 : Nat) : Int) = ((i + n / 32 : Nat) : Int) := wi (by omega)
          have hw5 : IntKind.i64.wrap ((i + n / 32 + 1 : Nat) : Int) = ((i + n / 32 + 1 : Nat) : Int) := wi (by omega)
          have hw6 : IntKind.i64.wrap ((i + 1 : Nat) : Int) = ((i + 1 : Nat) : Int) := wi (by omega)
          have q1 := hb.nth (i + n / 32)
          have q2 := hb.nth (i + n / 32 + 1)
          (repeat refine AW.seq ?_); refine AW.block ?_; (repeat refine AW.seq ?_); refine AW.rg ?_; simp [-Int.natCast_emod, -Int.natCast_add, -Int.natCast_ediv, hw, hw4]
          refine ⟨by omega, ?_⟩
          refine AW.seq_has [(0, lim a), (1, .int .i64 n), (6, .bool t), (8, .osl bl 1 0 N), (9, .int .i64 (i : Nat)), (10, .int .u64 ((nth a (i + n / 32) + nth a (i + n / 32 + 1) * 4294967296 : Nat) : Int))] (Mem.emp.set bl ⟨87, 1, u32s o⟩) ?_ ?_
          · (repeat refine AW.seq ?_); refine AW.rg ?_; simp [-Int.natCast_add, -Int.natCast_ediv, -Int.natCast_emod, hw, hw4, hw5]; (repeat refine AW.seq ?_)
            refine AW.cs (fun hl => ?_) (fun hl => ?_) rfl <;> simp at hl
            · (repeat refine AW.seq ?_); refine AW.rg ?_; simp [-Int.natCast_mul, -Int.natCast_emod, -Int.natCast_add, -Int.natCast_ediv, hw, hw4, hw5]; omega
            · refine AW.skip ?_
              try simp [-Int.natCast_emod, -Int.natCast_ediv, -Int.natCast_add, -Int.natCast_mul]
              simp [-Int.natCast_emod, nth_ge hl]; omega
          · have hm : min (n % 32) 64 = n % 32 := by omega
            have e : (nth a (i + n / 32) + nth a (i + n / 32 + 1) * 4294967296) / 2 ^ (n % 32) % 4294967296 = x / 2 ^ n / 4294967296 ^ i % 4294967296 := by rw [← shift_digit, hnth, hnth]
            (repeat refine AW.seq ?_); refine AW.rg ?_; simp [-Int.natCast_ediv, -Int.natCast_pow, -Int.natCast_emod, -Int.natCast_add, -Int.natCast_mul, hw, hm, hi, h4, e]; (repeat refine AW.seq ?_); refine AW.rg ?_; simp [-Int.natCast_ediv, -Int.natCast_emod, -Int.natCast_pow, -Int.natCast_add, -Int.natCast_mul, hw6]
            refine ⟨i + 1, _, ⟨by omega, h3.set i _ (Nat.mod_lt _ (by omega)), by simpa using h4, ?_⟩, by omega, rfl, rfl⟩
            rw [take_set_succ _ _ _ (by omega), h5, mod_pow_step]
        · have hiN : i = N := by omega
          refine AW.exit ?_
          try simp
          refine ⟨o, ⟨h3, ?_, by omega⟩, by simp [h4]⟩
          rw [val_take_of_le o i (by omega)] at h5
          rw [h5]
          apply Nat.mod_eq_of_lt
          refine Nat.div_lt_of_lt_mul (Nat.lt_of_lt_of_le hx2 ?_)
          rw [B_pow, B_pow, ← Nat.pow_add]
          exact Nat.pow_le_pow_right (by omega) (by omega)
      · rintro o ⟨h1, h2, h3⟩
        refine AW.toEmp [(0, lim a), (1, .int .i64 n), (6, .bool t), (8, lim o)] (by simp; exact view_osl (e := 87) (by simp)) ?_
        (repeat refine AW.seq ?_); refine AW.rg ?_; simp [-Int.natCast_emod, hw]
        cases t
        · (repeat refine AW.seq ?_)
          refine AW.rd [0,2,1,3,4,5,6,7,8,9,10,11,12,13,14,15] mix ?_
          simp [-Int.natCast_emod]
          refine CallK.val (trim_call o (by omega)) ?_
          simp [-Int.natCast_ediv, -Int.natCast_emod, hw, h]
          refine AW.ret (ret_views [lim (dig (x / 2 ^ n)), .bool _] rfl (by simp [-Int.natCast_ediv, -Int.natCast_emod, trimL_eq h1, h2]; exact .same _) ⟨⟨_, rfl⟩, rfl⟩)
        · (repeat refine AW.seq ?_)
          refine AW.rd [0,2,1,3,4,5,6,7,8,9,10,11,12,13,14,15] mix ?_
          simp [-Int.natCast_emod]
          refine CallK.val (trim_call o (by omega)) ?_
          try simp [-Int.natCast_emod]
          refine AW.ret (ret_views [lim (dig (x / 2 ^ n)), .bool _] rfl (by simp [-Int.natCast_emod, trimL_eq h1, h2]; exact .same _) ⟨⟨_, rfl⟩, rfl⟩)
/-- The number of factors 2. -/
theorem odd_call (x : Nat) (hx : x ≠ 0) (lx : (dig x).length < 2^40) : ACall Tryz.prog 119 [lim (dig x)] Mem.emp fun v m => (∃ k, 2 ^ k ∣ x ∧ x / 2 ^ k % 2 = 1 ∧ v = lim (dig (x / 2 ^ k))) ∧ m = Mem.emp := by
  refine acall_S Tryz.func119 rfl rfl 19 rfl (Nat.le_of_ble_eq_true rfl) ?_
  have hlen : x < 2 ^ (32 * (dig x).length) := by rw [← B_pow]; exact dig_length_le.1 (Nat.le_refl _)
  (repeat refine AW.seq ?_); refine AW.rg ?_; simp [argsL]; (repeat refine AW.seq ?_); refine AW.rg ?_; simp
  refine AW.seq_ex (ι := Nat) (fun k => [(0, lim (dig x)), (3, .int .i64 k)]) (fun _ => Mem.emp) (fun k => 2 ^ k ∣ x ∧ x / 2 ^ k % 2 = 1) ?_ ?_
  · refine AW.block (AW.loopS (ι := Nat) (fun k => [(0, lim (dig x)), (3, .int .i64 k)]) (fun _ => Mem.emp) (fun k => 2 ^ k ∣ x) (fun k => 32 * (dig x).length - k) 0 (by simp) rfl (by simp) ?_)
    rintro k h1
    have hk : k < 32 * (dig x).length := by
      rcases Nat.lt_or_ge k (32 * (dig x).length) with h | h
      · exact h
      · have h3 : 2 ^ (32 * (dig x).length) ≤ 2 ^ k := Nat.pow_le_pow_right (by omega) h
        have h4 := Nat.le_of_dvd (by omega) h1
        omega
    have hw2 : IntKind.i64.wrap ((k + 1 : Nat) : Int) = ((k + 1 : Nat) : Int) := wi (by omega)
    (repeat refine AW.seq ?_); refine AW.rg ?_; simp
    refine CallK.val (bit_call x k (by omega) lx) ?_
    simp [-Int.natCast_ediv, -Int.natCast_emod, -Int.natCast_pow]; (repeat refine AW.seq ?_)
    refine AW.cs (fun h2 => ?_) (fun h2 => ?_) rfl <;> simp at h2
    · refine AW.skip ?_
      try simp [-Int.natCast_ediv, -Int.natCast_emod, -Int.natCast_pow]
      (repeat refine AW.seq ?_); refine AW.block ?_; (repeat refine AW.seq ?_); refine AW.rg ?_; simp [-Int.natCast_ediv, -Int.natCast_emod, -Int.natCast_pow, -Int.natCast_add, hw2]
      refine ⟨k + 1, ?_, by omega, rfl⟩
      rw [Nat.pow_succ]
      obtain ⟨c, hc⟩ := h1
      rw [hc, Nat.mul_div_cancel_left _ (Nat.pow_pos (by omega))] at h2
      rw [hc]
      exact Nat.mul_dvd_mul_left _ (Nat.dvd_of_mod_eq_zero h2)
    · refine AW.exit ?_
      try simp [-Int.natCast_ediv, -Int.natCast_emod, -Int.natCast_pow]
      exact ⟨k, ⟨h1, by omega⟩, rfl⟩
  · rintro k ⟨h1, h2⟩
    have hk : k < 32 * (dig x).length := by
      rcases Nat.lt_or_ge k (32 * (dig x).length) with h | h
      · exact h
      · have h3 : 2 ^ (32 * (dig x).length) ≤ 2 ^ k := Nat.pow_le_pow_right (by omega) h
        have h4 := Nat.le_of_dvd (by omega) h1
        omega
    (repeat refine AW.seq ?_); refine AW.rg ?_; simp
    refine CallK.pure (right_call x k (by omega) lx) ?_
    rintro v ⟨t, rfl⟩
    simp; (repeat refine AW.seq ?_); refine AW.rg ?_; simp
    exact AW.ret (ret_views' [lim (dig (x / 2 ^ k))] rfl (by simp) ⟨⟨k, h1, h2, rfl⟩, rfl⟩)
end Go.Av
end
section
namespace Go.Av
open Go.Proofs
theorem left_call (x n : Nat) (hn : n < 2^40) (lx : (dig x).length < 2^40) : ACall Tryz.prog 122 [lim (dig x), .int .i64 n] Mem.emp fun v m => v = lim (dig (x * 2 ^ n)) ∧ m = Mem.emp := by
  refine acall_S Tryz.func122 rfl rfl 57 rfl (Nat.le_of_ble_eq_true rfl) ?_
  have hw : IntKind.i64.wrap ((n / 32 : Nat) : Int) = ((n / 32 : Nat) : Int) := wi (by omega)
  have hx := val_dig x
  have hb := dig_lb x
  have hnth := nth_dig x
  generalize ha : dig x = a at *
  have hx2 : x < 4294967296 ^ a.length := by rw [← hx]; exact val_lt hb
  have hw1 : IntKind.i64.wrap ((a.length + n / 32 : Nat) : Int) = ((a.length + n / 32 : Nat) : Int) := wi (by omega)
  have hw3 : IntKind.i64.wrap ((a.length + n / 32 + 1 : Nat) : Int) = ((a.length + n / 32 + 1 : Nat) : Int) := wi (by omega)
  (repeat refine AW.seq ?_); refine AW.rg ?_; simp [argsL]; (repeat refine AW.seq ?_); refine AW.rg ?_; simp [-Int.natCast_mul, -Int.natCast_add, -Int.natCast_ediv, hw, hw1, hw3]
  refine ⟨by omega, Fresh.intro fun bl _ => ?_⟩
  generalize hN : a.length + n / 32 + 1 = N at *
  have hpow : 2 ^ (n % 32) * 2 ^ (32 - n % 32) = 4294967296 := by rw [← Nat.pow_add, show n % 32 + (32 - n % 32) = 32 by omega]
  have hr : n % 32 < 32 := Nat.mod_lt _ (by omega)
  have hn2 : 2 ^ n = 4294967296 ^ (n / 32) * 2 ^ (n % 32) := by rw [B_pow, ← Nat.pow_add, Nat.div_add_mod]
  refine AW.seq_ex (ι := List Nat) (fun o => [(5, .osl bl 1 0 o.length)]) (fun o => Mem.emp.set bl ⟨87, 1, u32s o⟩) (fun o => Lb o ∧ val o = x * 2 ^ n ∧ o.length < 2^42) ?_ ?_
  · (repeat refine AW.seq ?_); refine AW.rg ?_; simp [-Int.natCast_add, -Int.natCast_ediv]
    refine AW.block (AW.loopS (ι := Nat × List Nat) (fun x => [(0, lim a), (1, .int .i64 n), (5, .osl bl 1 0 N), (6, .int .i64 (x.1 : Nat))]) (fun x => Mem.emp.set bl ⟨87, 1, u32s x.2⟩)
      (fun y => y.1 ≤ a.length ∧ Lb y.2 ∧ y.2.length = N ∧ nth y.2 (y.1 + n / 32) < 2 ^ (n % 32) ∧ val (y.2.take (y.1 + n / 32 + 1)) = x % 4294967296 ^ y.1 * 2 ^ n) (fun y => a.length - y.1) (0, List.replicate N 0) ⟨by simp, Lb.rep _, by simp, by simp [Nat.pow_pos], by simp [val_rep, Nat.mod_one]⟩ (by simp [u32s_rep]) (by simp [-Int.natCast_add, -Int.natCast_ediv]) ?_)
    rintro ⟨i, o⟩ ⟨h1, h3, h4, h6, h5⟩
    simp only at h1 h3 h4 h5 h6; simp only; (repeat refine AW.seq ?_); refine AW.rg ?_; simp; (repeat refine AW.seq ?_)
    refine AW.cs (fun hi => ?_) (fun hi => ?_) rfl <;> simp at hi
    · refine AW.skip ?_; try simp
      have hw4 : IntKind.i64.wrap ((i + n / 32 : Nat) : Int) = ((i + n / 32 : Nat) : Int) := wi (by omega)
      have hw5 : IntKind.i64.wrap ((i + n / 32 + 1 : Nat) : Int) = ((i + n / 32 + 1 : Nat) : Int) := wi (by omega)
      have hw6 : IntKind.i64.wrap ((i + 1 : Nat) : Int) = ((i + 1 : Nat) : Int) := wi (by omega)
      have hm : min (n % 32) 64 = n % 32 := by omega
      have q1 := hb.nth i
      have q2 := h3.nth (i + n / 32)
      (repeat refine AW.seq ?_); refine AW.block ?_
      generalize hd : nth a i = d at *
      have q3 : d * 2 ^ (n % 32) < 18446744073709551616 := by
        have : 2 ^ (n % 32) ≤ 2 ^ 32 := Nat.pow_le_pow_right (by omega) (by omega)
        calc d * 2 ^ (n % 32) ≤ d * 2 ^ 32 := Nat.mul_le_mul_left _ this
          _ < 18446744073709551616 := by omega
      have q4 : d * 2 ^ (n % 32) % 18446744073709551616 = d * 2 ^ (n % 32) := Nat.mod_eq_of_lt q3
      (repeat refine AW.seq ?_); refine AW.rg ?_; simp [-Int.natCast_mul, -Int.natCast_pow, -Int.natCast_emod, hi, hd, hm, q4]
      have q5 : bitw .or .u32 (nth o (i + n / 32) : Int) ((d * 2 ^ (n % 32) % 4294967296 : Nat) : Int) = ((nth o (i + n / 32) + d * 2 ^ (n % 32) % 4294967296 : Nat) : Int) := by
        rw [or_u32 q2 (Nat.mod_lt _ (by omega)), or_low (by omega) h6]
      have q6 : i + n / 32 < N := by omega
      have q7 : i + n / 32 + 1 < N := by omega
      (repeat refine AW.seq ?_); refine AW.rg ?_; simp [-Int.natCast_add, -Int.natCast_ediv, -Int.natCast_emod, -Int.natCast_mul, -Int.natCast_pow, hw, hw4, h4, q6, q5]; (repeat refine AW.seq ?_); refine AW.rg ?_; simp [-Int.natCast_ediv, -Int.natCast_add, -Int.natCast_emod, -Int.natCast_mul, -Int.natCast_pow, hw, hw4, hw5, h4, q7]
      have q8 : d * 2 ^ (n % 32) / 4294967296 < 2 ^ (n % 32) := by
        refine Nat.div_lt_of_lt_mul ?_
        exact Nat.mul_lt_mul_of_pos_right q1 (Nat.pow_pos (n := n % 32) (show 0 < 2 by omega))
      have q9 : nth o (i + n / 32) + d * 2 ^ (n % 32) % 4294967296 < 4294967296 := by
        rw [← or_low (show n % 32 ≤ 32 by omega) h6]
        exact Nat.or_lt_two_pow (n := 32) q2 (Nat.mod_lt _ (by omega))
      (repeat refine AW.seq ?_); refine AW.rg ?_; simp [-Int.natCast_add, -Int.natCast_ediv, -Int.natCast_emod, -Int.natCast_mul, -Int.natCast_pow, hw6]
      refine ⟨i + 1, _, ⟨by omega, (h3.set _ _ q9).set _ _ (Nat.mod_lt _ (by omega)), by simpa using h4, ?_, ?_⟩, by omega, rfl, rfl⟩
      · rw [show i + 1 + n / 32 = i + n / 32 + 1 by omega, nth_set_eq _ (by rw [List.length_set]; omega)]
        exact Nat.lt_of_le_of_lt (Nat.mod_le _ _) q8
      · have q10 : d * 2 ^ (n % 32) / 4294967296 < 4294967296 := Nat.lt_of_lt_of_le q8 (Nat.pow_le_pow_right (n := 2) (by omega) (show n % 32 ≤ 32 by omega))
        rw [show i + 1 + n / 32 = i + n / 32 + 1 by omega, take_set_succ _ _ _ (by rw [List.length_set]; omega), take_set_succ _ _ _ (by omega), Nat.mod_eq_of_lt q10]
        rw [val_take_getD] at h5
        have c := carry_step (4294967296 ^ (i + n / 32)) (d * 2 ^ (n % 32))
        rw [mod_pow_step, ← hnth, hd, Nat.add_mul, ← h5, Nat.mul_add, Nat.pow_succ]
        have e : 4294967296 ^ i * d * 2 ^ n = 4294967296 ^ (i + n / 32) * (d * 2 ^ (n % 32)) := by
          rw [hn2, Nat.pow_add]
          ac_rfl
        rw [e, ← c]; omega
    · refine AW.exit ?_
      try simp
      refine ⟨o, ⟨h3, ?_, by omega⟩, by simp [h4]⟩
      have : i = a.length := by omega
      subst this
      rw [val_take_of_le o _ (by omega)] at h5
      rw [h5, Nat.mod_eq_of_lt hx2]
  · rintro o ⟨h1, h2, h3⟩
    refine AW.toEmp [(5, lim o)] (by simp; exact view_osl (e := 87) (by simp)) ?_
    (repeat refine AW.seq ?_); refine AW.rg ?_; simp
    refine CallK.val (trim_call o (by omega)) ?_
    try simp
    exact AW.ret (ret_emp rfl _ (.same _) ⟨by simp [trimL_eq h1, h2], rfl⟩)
end Go.Av
end
section
namespace Go.Av
open Go.Proofs
/-- Is this an integer? -/
def okInt (neg : Bool) (l : List Nat) : Bool := if 128 < l.length then false else if l.length = 0 then !neg else decide (nth l (l.length - 1) ≠ 0)
def rawInt (neg : Bool) (l : List Nat) : AV := .agg [.bool neg, lim l]
def intAV (z : Int) : AV := .agg [.bool (decide (z < 0)), lim (dig z.natAbs)]
def B128 : Nat := 4294967296 ^ 128
/-- An integer or an error. -/
def fz (z : Int) : Int := if z.natAbs < B128 then z else 0
def fe (z : Int) : Int := if z.natAbs < B128 then 0 else 2
def fitAV (z : Int) : AV := .tup [intAV (fz z), .int .i64 (fe z)]
theorem fitAV_eq (z : Int) : fitAV z = .tup [.agg [.bool (decide (fz z < 0)), lim (dig (fz z).natAbs)], .int .i64 (fe z)] := rfl
theorem fz_lt (z : Int) : (fz z).natAbs < B128 := by
  unfold fz
  split
  · assumption
  · decide
theorem fz_ok {z : Int} (h : z.natAbs < B128) : fz z = z := if_pos h
theorem fe_ok {z : Int} (h : z.natAbs < B128) : fe z = 0 := if_pos h
/-- The end of a function that gives an integer and an error. -/
theorem ret_int {n c t b : Nat} {L : List (Nat × AV)} {m : Mem} {R : AV → Mem → Prop} {x y e : AV} (x' y' : AV) (hc : look L c = .ptr b 2 0 0) (he : look L t = e) (hm : m b = some ⟨34, 2, [.agg [x, y]]⟩) (hn : (Nat.blt c n && Nat.blt t n) = true)
    (hv : viewsL m Mem.emp [x, y] [x', y']) (hR : R (.tup [.agg [x', y'], e]) Mem.emp) : retQ Tryz.prog [.cell c 34, .tmp t] R .ret (S n L m) := by
  rw [Bool.and_eq_true] at hn
  refine ret_views (vs := [.agg [x, y], e]) [.agg [x', y'], e] ?_ ?_ hR
  · simp only [resList_cons, resList_nil, resOne_cell, resOne_tmp, hn.1, hn.2, if_true, hc, he, ti34, Option.bind_some, loadAV_ptr, hm]
    simp
  · simp only [viewsL_cons, viewsL_nil, and_true, view_same, view_agg] at hv ⊢
    exact hv
theorem valid1_call (neg : Bool) (l : List Nat) : ACall Tryz.prog 88 [rawInt neg l] Mem.emp fun v m => v = .bool (okInt neg l) ∧ m = Mem.emp := by
  refine acall_S Tryz.func88 rfl rfl 23 rfl (Nat.le_of_ble_eq_true rfl) ?_
  (repeat refine AW.seq ?_)
  refine AW.rgR [1] ?_
  simp [argsL, rawInt]; (repeat refine AW.seq ?_); refine AW.rg ?_; simp; (repeat refine AW.seq ?_)
  refine AW.cs (fun h => ?_) (fun h => ?_) rfl <;> simp at h
  · (repeat refine AW.seq ?_); refine AW.rg ?_; simp
    exact AW.ret (ret_emp rfl _ (.same _) ⟨by simp [okInt, h], rfl⟩)
  · refine AW.skip ?_; try simp
    (repeat refine AW.seq ?_); refine AW.rg ?_; simp; (repeat refine AW.seq ?_)
    refine AW.cs (fun h2 => ?_) (fun h2 => ?_) rfl <;> simp at h2
    · (repeat refine AW.seq ?_); refine AW.rg ?_; simp
      exact AW.ret (ret_emp rfl _ (.same _) ⟨by simp [okInt, h2], rfl⟩)
    · refine AW.skip ?_; try simp
      have hl : 0 < l.length := by
        rcases l with _ | _
        · simp at h2
        · simp
      have hw : IntKind.i64.wrap ((l.length : Int) - 1) = ((l.length - 1 : Nat) : Int) := by rw [wi' (by omega)]; omega
      (repeat refine AW.seq ?_); refine AW.rg ?_; simp [hw]
      refine ⟨by omega, ?_⟩
      exact AW.ret (ret_emp rfl _ (.same _) ⟨by simp [okInt, show ¬ 128 < l.length by omega, h2], rfl⟩)
theorem fit_call (neg : Bool) (l : List Nat) (hb : Lb l) (hl : l.length < 2^40) : ACall Tryz.prog 107 [.bool neg, lim l] Mem.emp fun v m => v = fitAV (if neg = true then -(val l : Int) else val l) ∧ m = Mem.emp := by
  refine acall_S Tryz.func107 rfl rfl 22 rfl (Nat.le_of_ble_eq_true rfl) ?_
  (repeat refine AW.seq ?_); refine AW.rg ?_; simp [argsL]
  refine Fresh.intro fun b4 _ => ?_
  (repeat refine AW.seq ?_); refine AW.rg ?_; simp
  refine CallK.val (trim_call l (by omega)) ?_
  simp [trimL_eq hb]
  have hlen := dig_length_le (n := val l) (k := 128)
  generalize hn : val l = n at *
  (repeat refine AW.seq ?_); refine AW.rg ?_; simp; (repeat refine AW.seq ?_)
  refine AW.cs (fun h => ?_) (fun h => ?_) rfl <;> simp at h
  · (repeat refine AW.seq ?_); refine AW.rg ?_; simp
    have : ¬ n < B128 := fun h' => by have := hlen.2 h'; omega
    refine AW.ret (ret_views (vs := [.agg [.bool false, .nil], .int .i64 2]) [intAV 0, .int .i64 2] (by simp) (by simp [intAV, dig_zero]) ⟨?_, rfl⟩)
    cases neg <;> simp [fitAV, fz, fe, this]
  · refine AW.skip ?_; try simp
    have hn' : n < B128 := hlen.1 h
    have key : ∀ (t : Bool) (z : Int), z.natAbs = n → t = decide (z < 0) → ∀ (b b' : Nat) (m : Mem), b4 ≠ b → b4 ≠ b' → m b4 = some ⟨34, 2, [.agg [.bool t, .osl b' 1 0 (dig n).length]]⟩ → m b' = some ⟨87, 1, u32s (dig n)⟩ → ∀ L, look L 4 = .ptr b4 2 0 0 → look L 5 = .int .i64 0 →
        AW Tryz.prog .ret (retQ Tryz.prog [.cell 4 34, .tmp 5] fun v m => v = fitAV z ∧ m = Mem.emp) (S 22 L m) := by
      intro t z hz ht b b' m e1 e2 e3 e4 L e5 e6
      refine AW.ret (ret_views (vs := [.agg [.bool t, .osl b' 1 0 (dig n).length], .int .i64 0]) [intAV z, .int .i64 0] (by simp [e5, e6, e3]) ?_ ⟨?_, rfl⟩)
      · simp only [viewsL_cons, viewsL_nil, and_true, view_same, intAV, view_agg, ht, hz]
        exact ⟨trivial, view_osl e4⟩
      · simp [fitAV, fz, fe, hz, hn']
    (repeat refine AW.seq ?_); refine AW.rg ?_
    have hr := u32s_ok (dig n)
    simp only [List.all_eq_true] at hr
    by_cases h0 : n = 0
    · subst h0
      cases neg <;> simp [dig_zero]
      all_goals
        refine Fresh.intro fun b hb => ?_
        have e1 : b4 ≠ b := by rintro rfl; simp at hb
        refine Fresh.intro fun b' hb' => ?_
        have e2 : b4 ≠ b' := by rintro rfl; simp [e1] at hb'
        simp [e1, e2]
        exact key false 0 rfl rfl b b' _ e1 e2 (by simp [dig_zero]) (by simp [Ne.symm e2, dig_zero]) _ (by simp) (by simp)
    · have h1 : 0 < (dig n).length := by
        rcases hd : dig n with _ | _
        · exact absurd (dig_nil.1 hd) h0
        · simp
      have h2 : decide (-(n : Int) < 0) = true := by simp; omega
      have h3 : decide ((n : Int) < 0) = false := by simp
      cases neg <;> simp
      · refine Fresh.intro fun b hb => ?_
        have e1 : b4 ≠ b := by rintro rfl; simp at hb
        simp [e1]
        refine ⟨by omega, by unfold maxLen; omega, Fresh.intro fun b' hb' => ?_⟩
        have e2 : b4 ≠ b' := by rintro rfl; simp [e1] at hb'
        simp [e2]
        exact key false n (by simp) h3.symm b b' _ e1 e2 (by simp) (by simp [Ne.symm e2]) _ (by simp) (by simp)
      · refine Fresh.intro fun b hb => ?_
        have e1 : b4 ≠ b := by rintro rfl; simp at hb
        simp [e1]
        refine ⟨by omega, by unfold maxLen; omega, Fresh.intro fun b' hb' => ?_⟩
        have e2 : b4 ≠ b' := by rintro rfl; simp [e1] at hb'
        simp [e2]
        exact key true (-n) (by simp) h2.symm b b' _ e1 e2 (by simp [h1]) (by simp [Ne.symm e2]) _ (by simp) (by simp)
end Go.Av
end
section
namespace Go.Av
theorem cop_pow {k n : Nat} (h : n % 2 = 1) : Nat.Coprime (2 ^ k) n := by
  apply Nat.Coprime.pow_left
  rw [Nat.coprime_iff_gcd_eq_one]
  have h1 : Nat.gcd 2 n ∣ 2 := Nat.gcd_dvd_left 2 n
  have h2 : Nat.gcd 2 n ∣ n := Nat.gcd_dvd_right 2 n
  have h3 : Nat.gcd 2 n ≤ 2 := Nat.le_of_dvd (by omega) h1
  have h4 : Nat.gcd 2 n ≠ 0 := fun e => by rw [e] at h1; simp at h1
  have h5 : Nat.gcd 2 n ≠ 2 := fun e => by rw [e] at h2; omega
  omega
/-- Without its factors 2. -/
theorem gcd_odd {x k y : Nat} (h : 2 ^ k ∣ x) (hy : y % 2 = 1) : Nat.gcd (x / 2 ^ k) y = Nat.gcd x y := by
  obtain ⟨c, rfl⟩ := h
  rw [Nat.mul_div_cancel_left _ (Nat.pow_pos (by omega)), Nat.Coprime.gcd_mul_left_cancel _ (cop_pow hy)]
theorem gcd_both {x y k i j : Nat} (hx : 2 ^ k ∣ x) (hy : 2 ^ k ∣ y) (ho : x / 2 ^ k % 2 = 1 ∨ y / 2 ^ k % 2 = 1) (hi : 2 ^ i ∣ x) (hio : x / 2 ^ i % 2 = 1) (hj : 2 ^ j ∣ y) (hjo : y / 2 ^ j % 2 = 1) :
    Nat.gcd x y = Nat.gcd (x / 2 ^ i) (y / 2 ^ j) * 2 ^ k := by
  have hp : 0 < 2 ^ k := Nat.pow_pos (by omega)
  have pi : 0 < 2 ^ i := Nat.pow_pos (by omega)
  have pj : 0 < 2 ^ j := Nat.pow_pos (by omega)
  have uniq : ∀ {z a b : Nat}, 2 ^ a ∣ z → z / 2 ^ a % 2 = 1 → 2 ^ b ∣ z → b ≤ a := by
    intro z a b h1 h2 h3
    rcases Nat.lt_or_ge a b with h | h
    · exfalso
      obtain ⟨c, rfl⟩ := h3
      have e : 2 ^ b = 2 ^ a * (2 * 2 ^ (b - a - 1)) := by
        rw [← Nat.pow_succ', ← Nat.pow_add]; congr 1; omega
      rw [e, Nat.mul_assoc, Nat.mul_div_cancel_left _ (Nat.pow_pos (by omega)), Nat.mul_assoc, Nat.mul_mod_right] at h2
      omega
    · exact h
  have hki := uniq hi hio hx
  have hkj := uniq hj hjo hy
  obtain ⟨a, ha⟩ := hi
  obtain ⟨b, hb⟩ := hj
  have ea : x / 2 ^ i = a := by rw [ha, Nat.mul_div_cancel_left _ pi]
  have eb : y / 2 ^ j = b := by rw [hb, Nat.mul_div_cancel_left _ pj]
  rw [ea] at hio
  rw [eb] at hjo
  rw [ea, eb]
  have hx' : x = 2 ^ k * (2 ^ (i - k) * a) := by rw [ha, ← Nat.mul_assoc, ← Nat.pow_add]; congr 2; omega
  have hy' : y = 2 ^ k * (2 ^ (j - k) * b) := by rw [hb, ← Nat.mul_assoc, ← Nat.pow_add]; congr 2; omega
  rw [hx', hy', Nat.gcd_mul_left, Nat.mul_comm]
  congr 1
  rcases ho with ho | ho
  · have hxx : x / 2 ^ k = 2 ^ (i - k) * a := by rw [hx', Nat.mul_div_cancel_left _ hp]
    have hik : i - k = 0 := by
      rcases Nat.eq_zero_or_pos (i - k) with h | h
      · exact h
      · obtain ⟨m, hm⟩ : ∃ m, i - k = m + 1 := ⟨i - k - 1, by omega⟩
        rw [hxx, hm, Nat.pow_succ, Nat.mul_comm (2 ^ m), Nat.mul_assoc, Nat.mul_mod_right] at ho
        omega
    rw [hik, Nat.pow_zero, Nat.one_mul, Nat.gcd_comm, Nat.Coprime.gcd_mul_left_cancel _ (cop_pow hio), Nat.gcd_comm]
  · have hyy : y / 2 ^ k = 2 ^ (j - k) * b := by rw [hy', Nat.mul_div_cancel_left _ hp]
    have hik : j - k = 0 := by
      rcases Nat.eq_zero_or_pos (j - k) with h | h
      · exact h
      · obtain ⟨m, hm⟩ : ∃ m, j - k = m + 1 := ⟨j - k - 1, by omega⟩
        rw [hyy, hm, Nat.pow_succ, Nat.mul_comm (2 ^ m), Nat.mul_assoc, Nat.mul_mod_right] at ho
        omega
    rw [hik, Nat.pow_zero, Nat.one_mul, Nat.Coprime.gcd_mul_left_cancel _ (cop_pow hjo)]
theorem gcd_sub {x y : Nat} (h : y ≤ x) : Nat.gcd (x - y) y = Nat.gcd x y := by
  have e : x = (x - y) + y := by omega
  generalize x - y = d at e
  subst e; rw [Nat.gcd_add_self_left]
end Go.Av
end
section
namespace Go.Av
open Go.Proofs
theorem dig_128 {n : Nat} (h : n < B128) : (dig n).length ≤ 128 := dig_length_le.2 h
theorem okInt_dig {z : Int} (h : z.natAbs < B128) : okInt (decide (z < 0)) (dig z.natAbs) = true := by
  have h1 := dig_128 h
  unfold okInt
  rw [if_neg (by omega)]
  split
  · rename_i h2
    have := dig_nil.1 (List.eq_nil_of_length_eq_zero h2)
    simp; omega
  · rename_i h2
    rcases List.eq_nil_or_concat (dig z.natAbs) with h3 | ⟨l, x, h3⟩
    · rw [h3] at h2; exact absurd rfl h2
    · rw [List.concat_eq_append] at h3
      have h4 := dig_last _ l x h3
      rw [h3]; simp [nth, h4]
theorem order_ne {x y : Nat} : ordI x y = 0 ↔ x = y := by unfold ordI; split <;> (try split) <;> omega
theorem order_neg {x y : Nat} : ordI x y < 0 ↔ x < y := by unfold ordI; split <;> (try split) <;> omega
theorem gcd1_call (x y : Int) (hx : x.natAbs < B128) (hy : y.natAbs < B128) : ACall Tryz.prog 89 [intAV x, intAV y] Mem.emp fun v m => v = .tup [intAV (Nat.gcd x.natAbs y.natAbs : Nat), .int .i64 0] ∧ m = Mem.emp := by
  refine acall_S Tryz.func89 rfl rfl 78 rfl (Nat.le_of_ble_eq_true rfl) ?_
  have vx := valid1_call (decide (x < 0)) (dig x.natAbs)
  have vy := valid1_call (decide (y < 0)) (dig y.natAbs)
  rw [okInt_dig hx] at vx
  rw [okInt_dig hy] at vy
  have lx := dig_128 hx
  have ly := dig_128 hy
  have bx := val_dig x.natAbs
  have hg : Nat.gcd x.natAbs y.natAbs < B128 := by
    rcases Nat.eq_zero_or_pos x.natAbs with h | h
    · rw [h, Nat.gcd_zero_left]; exact hy
    · exact Nat.lt_of_le_of_lt (Nat.le_of_dvd h (Nat.gcd_dvd_left _ _)) hx
  (repeat refine AW.seq ?_)
  refine AW.rgR [2,3] ?_
  simp [argsL, intAV]
  refine Fresh.intro fun b4 _ => ?_
  generalize ha : dig x.natAbs = a at *
  generalize hb : dig y.natAbs = b at *
  (repeat refine AW.seq ?_); refine AW.rg ?_; simp; refine CallK.val vx ?_; try simp
  refine CallK.val vy ?_; simp; refine AW.no ?_ rfl; refine AW.skip ?_; try simp
  (repeat refine AW.seq ?_); refine AW.rg ?_; simp
  refine Fresh.intro fun b6 h6 => ?_
  have e46 : b4 ≠ b6 := by rintro rfl; simp at h6
  refine ⟨by omega, by unfold maxLen; omega, Fresh.intro fun b6' h6' => ?_⟩
  have e46' : b4 ≠ b6' := by rintro rfl; simp [e46] at h6'
  refine AW.turn [(4, .ptr b4 2 0 0), (5, .int .i64 0), (6, lim a), (3, .rptr [.bool (decide (y < 0)), lim b])] (Mem.emp.set b4 ⟨34, 2, [.agg [.bool false, .nil]]⟩) (Recast.one (by simp [e46, e46']) (by simp)) ?_ ?_
  · simp
    exact view_osl1 (e := 87) (by simp) (by simp [Ne.symm e46'])
  (repeat refine AW.seq ?_); refine AW.rg ?_; simp
  refine Fresh.intro fun b6 h6 => ?_
  have e46 : b4 ≠ b6 := by rintro rfl; simp at h6
  refine ⟨by omega, by unfold maxLen; omega, Fresh.intro fun b6' h6' => ?_⟩
  have e46' : b4 ≠ b6' := by rintro rfl; simp [e46] at h6'
  refine AW.turn [(4, .ptr b4 2 0 0), (5, .int .i64 0), (6, lim a), (7, lim b)] (Mem.emp.set b4 ⟨34, 2, [.agg [.bool false, .nil]]⟩) (Recast.one (by simp [e46, e46']) (by simp)) ?_ ?_
  · simp
    exact view_osl1 (e := 87) (by simp) (by simp [Ne.symm e46'])
  have key : ∀ (g : Nat), g < B128 → ∀ L, look L 4 = .ptr b4 2 0 0 → look L 5 = .int .i64 0 → retQ Tryz.prog [.cell 4 34, .tmp 5] (fun v m => v = .tup [intAV (g : Nat), .int .i64 0] ∧ m = Mem.emp) .ret (S 78 L (Mem.emp.set b4 ⟨34, 2, [intAV (g : Nat)]⟩)) := by
    intro g hg L e4 e5
    exact ret_views (vs := [intAV (g : Nat), .int .i64 0]) [intAV (g : Nat), .int .i64 0] (by simp [e4, e5, intAV]) (by simp) ⟨rfl, rfl⟩
  have la : (dig x.natAbs).length ≤ 128 := by rw [ha]; exact lx
  have lb : (dig y.natAbs).length ≤ 128 := by rw [hb]; exact ly
  (repeat refine AW.seq ?_); refine AW.rg ?_
  have e0 : fitAV (if false = true then -(val (dig (Nat.gcd x.natAbs y.natAbs)) : Int) else val (dig (Nat.gcd x.natAbs y.natAbs))) = .tup [intAV (Nat.gcd x.natAbs y.natAbs : Nat), .int .i64 0] := by
    simp [fitAV, fz, fe, val_dig, hg]
  have l6 := dig_128 hg
  have hLb : Lb a := by rw [← ha]; exact dig_lb _
  have hLb' : Lb b := by rw [← hb]; exact dig_lb _
  have by' : val b = y.natAbs := by rw [← hb, val_dig]
  by_cases hx0 : x.natAbs = 0
  · have h1 : a.length = 0 := by rw [← ha, hx0, dig_zero]; rfl
    simp [h1]; refine AW.yes ?_ rfl
    have h2 : val a + val b = Nat.gcd x.natAbs y.natAbs := by rw [bx, by', hx0, Nat.gcd_zero_left]; omega
    (repeat refine AW.seq ?_); refine AW.rg ?_; simp
    refine CallK.val (plus_call a b hLb hLb' (by omega) (by omega)) ?_
    rw [h2]; try simp
    refine CallK.val (fit_call false _ (dig_lb _) (by omega)) ?_
    rw [e0]; simp [intAV]
    refine AW.ret (key _ hg _ ?_ ?_) <;> rfl
  by_cases hy0 : y.natAbs = 0
  · have h1 : b.length = 0 := by rw [← hb, hy0, dig_zero]; rfl
    have h1' : a ≠ [] := fun h => hx0 (dig_nil.1 (by rw [ha, h]))
    simp [h1, h1']; refine AW.yes ?_ rfl
    have h2 : val a + val b = Nat.gcd x.natAbs y.natAbs := by rw [bx, by', hy0, Nat.gcd_zero_right]; omega
    (repeat refine AW.seq ?_); refine AW.rg ?_; simp
    refine CallK.val (plus_call a b hLb hLb' (by omega) (by omega)) ?_
    rw [h2]; try simp
    refine CallK.val (fit_call false _ (dig_lb _) (by omega)) ?_
    rw [e0]; simp [intAV]
    refine AW.ret (key _ hg _ ?_ ?_) <;> rfl
  have pa : a ≠ [] := fun h => hx0 (dig_nil.1 (by rw [ha, h]))
  have pb : b ≠ [] := fun h => hy0 (dig_nil.1 (by rw [hb, h]))
  simp [pa, pb]; refine AW.no ?_ rfl; refine AW.skip ?_; try simp
  rw [← ha, ← hb]
  generalize x.natAbs = x at *
  generalize y.natAbs = y at *
  (repeat refine AW.seq ?_); refine AW.rg ?_; simp
  refine AW.seq_ex (ι := Nat) (fun k => [(4, .ptr b4 2 0 0), (6, lim (dig x)), (7, lim (dig y)), (8, .int .i64 k)]) (fun _ => Mem.emp.set b4 ⟨34, 2, [.agg [.bool false, .nil]]⟩) (fun k => k < 4096 ∧ 2 ^ k ∣ x ∧ 2 ^ k ∣ y ∧ (x / 2 ^ k % 2 = 1 ∨ y / 2 ^ k % 2 = 1)) ?_ ?_
  · refine AW.block (AW.loopS (ι := Nat) (fun k => [(4, .ptr b4 2 0 0), (6, lim (dig x)), (7, lim (dig y)), (8, .int .i64 k)]) (fun _ => Mem.emp.set b4 ⟨34, 2, [.agg [.bool false, .nil]]⟩) (fun k => 2 ^ k ∣ x ∧ 2 ^ k ∣ y) (fun k => 4096 - k) 0 (by simp) rfl (by simp) ?_)
    rintro k ⟨h1, h2⟩
    have hk : k < 4096 := by
      obtain ⟨K, hK1, hK2⟩ : ∃ K, K = 4096 ∧ x < 2 ^ K := ⟨32 * 128, rfl, by rw [← B_pow]; exact hx⟩
      rcases Nat.lt_or_ge k K with h | h
      · omega
      · have h3 : 2 ^ K ≤ 2 ^ k := Nat.pow_le_pow_right (by omega) h
        have h4 := Nat.le_of_dvd (by omega) h1
        omega
    have hw2 : IntKind.i64.wrap ((k + 1 : Nat) : Int) = ((k + 1 : Nat) : Int) := wi (by omega)
    have step : ∀ {z : Nat}, 2 ^ k ∣ z → z / 2 ^ k % 2 = 0 → 2 ^ (k + 1) ∣ z := by
      intro z h3 h4
      rw [Nat.pow_succ]
      obtain ⟨c, hc⟩ := h3
      rw [hc, Nat.mul_div_cancel_left _ (Nat.pow_pos (by omega))] at h4
      rw [hc]
      exact Nat.mul_dvd_mul_left _ (Nat.dvd_of_mod_eq_zero h4)
    (repeat refine AW.seq ?_); refine AW.rg ?_; simp
    refine CallK.val (bit_call x k (by omega) (by omega)) ?_
    try simp [-Int.natCast_ediv, -Int.natCast_emod, -Int.natCast_pow]
    by_cases c1 : x / 2 ^ k % 2 = 0
    · simp [c1]
      refine CallK.val (bit_call y k (by omega) (by omega)) ?_
      try simp [-Int.natCast_ediv, -Int.natCast_emod, -Int.natCast_pow]
      (repeat refine AW.seq ?_)
      refine AW.cs (fun c2 => ?_) (fun c2 => ?_) rfl <;> simp at c2
      · refine AW.skip ?_
        try simp [-Int.natCast_ediv, -Int.natCast_emod, -Int.natCast_pow]
        (repeat refine AW.seq ?_); refine AW.block ?_; (repeat refine AW.seq ?_); refine AW.rg ?_; simp [-Int.natCast_ediv, -Int.natCast_emod, -Int.natCast_pow, -Int.natCast_add, hw2]
        exact ⟨k + 1, ⟨step h1 c1, step h2 c2⟩, by omega, rfl⟩
      · refine AW.exit ?_
        try simp [-Int.natCast_ediv, -Int.natCast_emod, -Int.natCast_pow]
        exact ⟨k, ⟨hk, h1, h2, .inr (by omega)⟩, rfl⟩
    · simp [-Int.natCast_ediv, -Int.natCast_emod, -Int.natCast_pow, c1]; refine AW.no ?_ rfl
      refine AW.exit ?_
      try simp [-Int.natCast_ediv, -Int.natCast_emod, -Int.natCast_pow]
      exact ⟨k, ⟨hk, h1, h2, .inl (by omega)⟩, rfl⟩
  · rintro k ⟨hk, h1, h2, h3⟩
    (repeat refine AW.seq ?_); refine AW.rg ?_; simp
    refine CallK.pure (odd_call x hx0 (by omega)) ?_
    rintro _ ⟨i, i1, i2, rfl⟩
    try simp
    (repeat refine AW.seq ?_); refine AW.rg ?_; simp
    refine CallK.pure (odd_call y hy0 (by omega)) ?_
    rintro _ ⟨j, j1, j2, rfl⟩
    try simp
    have hgcd := gcd_both h1 h2 h3 i1 i2 j1 j2
    have hx1 : x / 2 ^ i ≤ x := Nat.div_le_self _ _
    have hy1 : y / 2 ^ j ≤ y := Nat.div_le_self _ _
    generalize x / 2 ^ i = u at *
    generalize y / 2 ^ j = w at *
    refine AW.seq_has [(4, .ptr b4 2 0 0), (6, lim (dig (Nat.gcd u w))), (8, .int .i64 k)] (Mem.emp.set b4 ⟨34, 2, [.agg [.bool false, .nil]]⟩) ?_ ?_
    · refine AW.block (AW.loopS (ι := Nat × Nat) (fun z => [(4, .ptr b4 2 0 0), (6, lim (dig z.1)), (7, lim (dig z.2)), (8, .int .i64 k)]) (fun _ => Mem.emp.set b4 ⟨34, 2, [.agg [.bool false, .nil]]⟩) (fun z => z.1 < B128 ∧ z.2 < B128 ∧ z.1 % 2 = 1 ∧ z.2 % 2 = 1 ∧ Nat.gcd z.1 z.2 = Nat.gcd u w) (fun z => z.1 + z.2) (u, w) ⟨by omega, by omega, i2, j2, rfl⟩ rfl (by simp) ?_)
      rintro ⟨p, q⟩ ⟨p1, p2, p3, p4, p5⟩
      simp only at p1 p2 p3 p4 p5; simp only
      have l1 := dig_128 p1
      have l2 := dig_128 p2
      (repeat refine AW.seq ?_); refine AW.rg ?_; simp
      refine CallK.val (order_call p q (by omega) (by omega)) ?_
      simp [order_ne]; (repeat refine AW.seq ?_)
      refine AW.cs (fun h4 => ?_) (fun h4 => ?_) rfl <;> simp at h4
      · refine AW.skip ?_; try simp
        (repeat refine AW.seq ?_); refine AW.block ?_
        refine AW.seq_ex (ι := Nat × Nat) (fun z => [(4, .ptr b4 2 0 0), (6, lim (dig z.1)), (7, lim (dig z.2)), (8, .int .i64 k)]) (fun _ => Mem.emp.set b4 ⟨34, 2, [.agg [.bool false, .nil]]⟩) (fun z => z.2 < z.1 ∧ z.1 < B128 ∧ z.1 + z.2 = p + q ∧ z.1 % 2 = 1 ∧ z.2 % 2 = 1 ∧ Nat.gcd z.1 z.2 = Nat.gcd u w) ?_ ?_
        · (repeat refine AW.seq ?_); refine AW.rg ?_; simp
          refine CallK.val (order_call p q (by omega) (by omega)) ?_
          simp [order_neg]; (repeat refine AW.seq ?_)
          refine AW.cs (fun h5 => ?_) (fun h5 => ?_) rfl <;> simp at h5
          · (repeat refine AW.seq ?_); refine AW.rg ?_; simp; (repeat refine AW.seq ?_); refine AW.rg ?_; simp; (repeat refine AW.seq ?_); refine AW.rg ?_; simp
            exact ⟨q, p, ⟨by omega, by omega, by omega, p4, p3, by rw [Nat.gcd_comm]; exact p5⟩, rfl, rfl⟩
          · refine AW.skip ?_; try simp
            exact ⟨p, q, ⟨by omega, by omega, by omega, p3, p4, p5⟩, rfl, rfl⟩
        · rintro ⟨p', q'⟩ ⟨r1, r2, r3, r4, r5, r6⟩
          simp only at r1 r2 r3 r4 r5 r6; simp only
          have l3 := dig_128 r2
          have l4 := dig_128 (show p' - q' < B128 by omega)
          (repeat refine AW.seq ?_); refine AW.rg ?_; simp
          refine CallK.val (minus_call p' q' (by omega) (by omega)) ?_
          try simp
          refine CallK.pure (odd_call (p' - q') (by omega) (by omega)) ?_
          rintro _ ⟨i', s1, s2, rfl⟩
          try simp
          have s3 : (p' - q') / 2 ^ i' ≤ p' - q' := Nat.div_le_self _ _
          try simp
          exact ⟨(p' - q') / 2 ^ i', q', ⟨by omega, by omega, s2, r5, by rw [gcd_odd s1 r5, gcd_sub (by omega)]; exact r6⟩, by omega, rfl, rfl⟩
      · refine AW.exit ?_
        try simp
        rw [← h4, Nat.gcd_self] at p5
        rw [p5]
    · (repeat refine AW.seq ?_); refine AW.rg ?_; simp
      have hB : Nat.gcd u w < B128 := Nat.lt_of_le_of_lt (Nat.le_of_dvd (by omega) (Nat.gcd_dvd_left u w)) (by omega)
      have l5 := dig_128 hB
      refine CallK.val (left_call (Nat.gcd u w) k (by omega) (by omega)) ?_
      try simp
      rw [← hgcd]
      have l6 := dig_128 hg
      refine CallK.val (fit_call false _ (dig_lb _) (by omega)) ?_
      have e : fitAV (if false = true then -(val (dig (Nat.gcd x y)) : Int) else val (dig (Nat.gcd x y))) = .tup [intAV (Nat.gcd x y : Nat), .int .i64 0] := by
        simp [fitAV, fz, fe, val_dig, hg]
      rw [e]; simp [intAV]
      refine AW.ret (key _ hg _ ?_ ?_) <;> rfl
end Go.Av
end
section
namespace Go.Av
open Go.Proofs
theorem okInt_canon {neg : Bool} {l : List Nat} (hb : Lb l) (h : okInt neg l = true) : ∃ z : Int, z.natAbs < B128 ∧ neg = decide (z < 0) ∧ l = dig z.natAbs ∧ z.natAbs = val l := by
  unfold okInt at h
  split at h
  · cases h
  · rename_i h1
    split at h
    · rename_i h2
      have h3 : l = [] := List.eq_nil_of_length_eq_zero h2
      subst h3
      refine ⟨0, by decide, ?_, by simp [dig_zero], rfl⟩
      simpa using h
    · rename_i h2
      have h3 : dig (val l) = l := dig_val hb (fun l' x e => by
        rw [e] at h
        simpa [nth] using h)
      have h4 : val l ≠ 0 := fun e => by rw [e, dig_zero] at h3; rw [← h3] at h2; exact h2 rfl
      have h5 : val l < B128 := Nat.lt_of_lt_of_le (val_lt hb) (Nat.pow_le_pow_right (by omega) (by omega))
      cases neg
      · exact ⟨val l, h5, by simp, by simp [h3], by simp⟩
      · exact ⟨-(val l), by simpa using h5, by simp; omega, by simp [h3], by simp⟩
theorem dig_one {n : Nat} : ((dig n).length = 1 ∧ nth (dig n) 0 = 1) ↔ n = 1 := by
  constructor
  · rintro ⟨h1, h2⟩
    have h3 := val_dig n
    rcases hd : dig n with _ | ⟨a, _ | ⟨b, l⟩⟩
    · rw [hd] at h1; cases h1
    · rw [hd] at h2 h3
      simp [nth] at h2
      simp [val] at h3
      omega
    · rw [hd] at h1; simp at h1
  · rintro rfl
    rw [dig_pos (by omega)]; simp [dig_zero, nth]
theorem isZero_call (neg : Bool) (l : List Nat) : ACall Tryz.prog 64 [rawInt neg l] Mem.emp fun v m => v = .bool (decide (l.length = 0)) ∧ m = Mem.emp := by
  refine acall_S Tryz.func64 rfl rfl 7 rfl (Nat.le_of_ble_eq_true rfl) ?_
  (repeat refine AW.seq ?_)
  refine AW.rgR [1] ?_
  simp [argsL, rawInt]; (repeat refine AW.seq ?_); refine AW.rg ?_; simp
  exact AW.ret (ret_emp rfl _ (.same _) ⟨by simp, rfl⟩)
theorem zero_call (neg : Bool) (l : List Nat) : ACall Tryz.prog 85 [rawInt neg l] Mem.emp fun v m => v = .bool (decide (l.length = 0)) ∧ m = Mem.emp := by
  refine acall_S Tryz.func85 rfl rfl 7 rfl (Nat.le_of_ble_eq_true rfl) ?_
  (repeat refine AW.seq ?_)
  refine AW.rgR [1] ?_
  simp [argsL, rawInt]; (repeat refine AW.seq ?_); refine AW.rg ?_; simp
  exact AW.ret (ret_emp rfl _ (.same _) ⟨by simp, rfl⟩)
theorem isOne_call (z : Int) (hz : z.natAbs < B128) : ACall Tryz.prog 90 [intAV z] Mem.emp fun v m => v = .bool (decide (z = 1)) ∧ m = Mem.emp := by
  unfold intAV
  refine acall_S Tryz.func90 rfl rfl 19 rfl (Nat.le_of_ble_eq_true rfl) ?_
  have hd := dig_one (n := z.natAbs)
  have hl := dig_128 hz
  generalize dig z.natAbs = l at *
  (repeat refine AW.seq ?_)
  refine AW.rgR [1] ?_
  simp [argsL]
  by_cases h1 : z < 0
  · (repeat refine AW.seq ?_); refine AW.rg ?_; simp [h1]
    have : z ≠ 1 := by omega
    exact AW.ret (ret_emp rfl _ (.same _) ⟨by simp [this], rfl⟩)
  · by_cases h2 : l.length = 1
    · (repeat refine AW.seq ?_); refine AW.rg ?_; simp [h1, h2]
      have h3 : (z = 1) ↔ nth l 0 = 1 := by
        constructor
        · intro e; exact (hd.2 (by omega)).2
        · intro e; have := hd.1 ⟨h2, e⟩; omega
      exact AW.ret (ret_emp rfl _ (.same _) ⟨by simp [h3], rfl⟩)
    · (repeat refine AW.seq ?_); refine AW.rg ?_; simp [h1, h2]
      have : z ≠ 1 := fun e => h2 ((hd.2 (by omega)).1)
      exact AW.ret (ret_emp rfl _ (.same _) ⟨by simp [this], rfl⟩)
theorem one_call (z : Int) (hz : z.natAbs < B128) : ACall Tryz.prog 86 [intAV z] Mem.emp fun v m => v = .bool (decide (z = 1)) ∧ m = Mem.emp := by
  unfold intAV
  refine acall_S Tryz.func86 rfl rfl 19 rfl (Nat.le_of_ble_eq_true rfl) ?_
  have hd := dig_one (n := z.natAbs)
  have hl := dig_128 hz
  generalize dig z.natAbs = l at *
  (repeat refine AW.seq ?_)
  refine AW.rgR [1] ?_
  simp [argsL]
  by_cases h1 : z < 0
  · (repeat refine AW.seq ?_); refine AW.rg ?_; simp [h1]
    have : z ≠ 1 := by omega
    exact AW.ret (ret_emp rfl _ (.same _) ⟨by simp [this], rfl⟩)
  · by_cases h2 : l.length = 1
    · (repeat refine AW.seq ?_); refine AW.rg ?_; simp [h1, h2]
      have h3 : (z = 1) ↔ nth l 0 = 1 := by
        constructor
        · intro e; exact (hd.2 (by omega)).2
        · intro e; have := hd.1 ⟨h2, e⟩; omega
      exact AW.ret (ret_emp rfl _ (.same _) ⟨by simp [h3], rfl⟩)
    · (repeat refine AW.seq ?_); refine AW.rg ?_; simp [h1, h2]
      have : z ≠ 1 := fun e => h2 ((hd.2 (by omega)).1)
      exact AW.ret (ret_emp rfl _ (.same _) ⟨by simp [this], rfl⟩)
def rawRat (n1 : Bool) (l1 : List Nat) (n2 : Bool) (l2 : List Nat) : AV := .agg [.bool n1, lim l1, .bool n2, lim l2]
def ratAV (n : Int) (d : Nat) : AV := .agg [.bool (decide (n < 0)), lim (dig n.natAbs), .bool false, lim (dig d)]
/-- Is this a rational number? -/
def okRat (n1 : Bool) (l1 : List Nat) (n2 : Bool) (l2 : List Nat) : Bool := okInt n1 l1 && okInt n2 l2 && !n2 && decide (l2.length ≠ 0) && decide (Nat.gcd (val l1) (val l2) = 1)
theorem valid2_call (n1 : Bool) (l1 : List Nat) (n2 : Bool) (l2 : List Nat) (h1 : Lb l1) (h2 : Lb l2) : ACall Tryz.prog 52 [rawRat n1 l1 n2 l2] Mem.emp fun v m => v = .bool (okRat n1 l1 n2 l2) ∧ m = Mem.emp := by
  refine acall_S Tryz.func52 rfl rfl 39 rfl (Nat.le_of_ble_eq_true rfl) ?_
  (repeat refine AW.seq ?_)
  refine AW.rgR [1] ?_
  simp [argsL, rawRat]; (repeat refine AW.seq ?_); refine AW.rg ?_; simp
  refine CallK.val (valid1_call n1 l1) ?_
  try simp
  (repeat refine AW.seq ?_); refine AW.rg ?_; simp
  refine CallK.val (valid1_call n2 l2) ?_
  try simp
  unfold okRat
  cases o1 : okInt n1 l1
  · (repeat refine AW.seq ?_); refine AW.rg ?_; simp [o1]; refine AW.yes ?_ rfl; (repeat refine AW.seq ?_); refine AW.rg ?_; simp
    exact AW.ret (ret_emp rfl _ (.same _) ⟨by simp, rfl⟩)
  cases o2 : okInt n2 l2
  · (repeat refine AW.seq ?_); refine AW.rg ?_; simp [o1, o2]; refine AW.yes ?_ rfl; (repeat refine AW.seq ?_); refine AW.rg ?_; simp
    exact AW.ret (ret_emp rfl _ (.same _) ⟨by simp, rfl⟩)
  cases n2
  · (repeat refine AW.seq ?_); refine AW.rg ?_; simp [o1, o2]
    refine CallK.val (isZero_call false l2) ?_
    simp; (repeat refine AW.seq ?_)
    refine AW.cs (fun hl => ?_) (fun hl => ?_) rfl <;> simp at hl
    · (repeat refine AW.seq ?_); refine AW.rg ?_; simp
      exact AW.ret (ret_emp rfl _ (.same _) ⟨by simp [hl], rfl⟩)
    · refine AW.skip ?_; try simp
      obtain ⟨z1, b1, rfl, rfl, c1⟩ := okInt_canon h1 o1
      obtain ⟨z2, b2, e2, rfl, c2⟩ := okInt_canon h2 o2
      have g := gcd1_call z1 z2 b1 b2
      unfold intAV at g
      rw [← e2] at g
      (repeat refine AW.seq ?_); refine AW.rg ?_; simp; refine CallK.val g ?_; try simp
      have hg : Nat.gcd z1.natAbs z2.natAbs < B128 := by
        refine Nat.lt_of_le_of_lt (Nat.le_of_dvd ?_ (Nat.gcd_dvd_right _ _)) b2
        rcases Nat.eq_zero_or_pos z2.natAbs with h | h
        · exact absurd (dig_nil.2 h) hl
        · exact h
      try simp [intAV]
      refine Fresh.intro fun b5 _ => ?_
      (repeat refine AW.seq ?_); refine AW.rg ?_; simp
      refine CallK.val (isOne_call (Nat.gcd z1.natAbs z2.natAbs : Nat) (by simpa using hg)) ?_
      try simp
      exact AW.ret (ret_views [.bool (decide (Nat.gcd z1.natAbs z2.natAbs = 1))] rfl (by simp) ⟨by simp [← c1, ← c2, hl], rfl⟩)
  · (repeat refine AW.seq ?_); refine AW.rg ?_; simp [o1, o2]; refine AW.yes ?_ rfl; (repeat refine AW.seq ?_); refine AW.rg ?_; simp
    exact AW.ret (ret_emp rfl _ (.same _) ⟨by simp, rfl⟩)
end Go.Av
end
section
namespace Go.Av
@[simp] theorem lift_eq (a b : Nat) : (a : Int) = (b : Int) ↔ a = b := by omega
@[simp] theorem lift_fdiv32 (a : Nat) : Int.fdiv (a : Int) 4294967296 = ((a / 4294967296 : Nat) : Int) := by
  rw [Int.fdiv_eq_ediv_of_nonneg _ (by omega)]; rfl
@[simp] theorem lift_fdiv63 (a : Nat) : Int.fdiv (a : Int) 9223372036854775808 = ((a / 9223372036854775808 : Nat) : Int) := by
  rw [Int.fdiv_eq_ediv_of_nonneg _ (by omega)]; rfl
@[simp] theorem u32s_drop_len (l : List Nat) : (u32s l).drop l.length = [] := List.drop_eq_nil_of_le (by simp)
@[simp] theorem u32s_drop_rep (n : Nat) : (u32s (List.replicate n 0)).drop n = [] := List.drop_eq_nil_of_le (by simp)
end Go.Av
end
section
namespace Go.Av
open Go.Proofs
theorem valid_callU (neg : Bool) (l : List Nat) : ACall Tryz.prog 84 [rawInt neg l] Mem.emp fun v m => v = .bool (okInt neg l) ∧ m = Mem.emp := by
  refine acall_S Tryz.func84 rfl rfl 23 rfl (Nat.le_of_ble_eq_true rfl) ?_
  (repeat refine AW.seq ?_)
  refine AW.rgR [1] ?_
  simp [argsL, rawInt]; (repeat refine AW.seq ?_); refine AW.rg ?_; simp; (repeat refine AW.seq ?_); refine AW.rg ?_; simp; (repeat refine AW.seq ?_)
  refine AW.cs (fun h2 => ?_) (fun h2 => ?_) rfl <;> simp at h2
  · (repeat refine AW.seq ?_); refine AW.rg ?_; simp
    exact AW.ret (ret_emp rfl _ (.same _) ⟨by simp [okInt, h2], rfl⟩)
  · refine AW.skip ?_; try simp
    have hp : 0 < l.length := by
      rcases l with _ | _
      · simp at h2
      · simp
    by_cases h : l.length ≤ 128
    · have hw : IntKind.i64.wrap ((l.length : Int) - 1) = ((l.length - 1 : Nat) : Int) := by rw [wi' (by omega)]; omega
      (repeat refine AW.seq ?_); refine AW.rg ?_; simp [hw, h]
      refine ⟨by omega, ?_⟩
      exact AW.ret (ret_emp rfl _ (.same _) ⟨by simp [okInt, show ¬ 128 < l.length by omega, h2], rfl⟩)
    · (repeat refine AW.seq ?_); refine AW.rg ?_; simp [h]
      exact AW.ret (ret_emp rfl _ (.same _) ⟨by simp [okInt, show 128 < l.length by omega], rfl⟩)
theorem valid_call (neg : Bool) (l : List Nat) (_ : l.length < 2^40) : ACall Tryz.prog 84 [rawInt neg l] Mem.emp fun v m => v = .bool (okInt neg l) ∧ m = Mem.emp := valid_callU neg l
theorem both_call (n1 : Bool) (l1 : List Nat) (n2 : Bool) (l2 : List Nat) (h1 : l1.length < 2^40) (h2 : l2.length < 2^40) : ACall Tryz.prog 113 [rawInt n1 l1, rawInt n2 l2] Mem.emp fun v m => v = .bool (okInt n1 l1 && okInt n2 l2) ∧ m = Mem.emp := by
  refine acall_S Tryz.func113 rfl rfl 11 rfl (Nat.le_of_ble_eq_true rfl) ?_
  have v1 := valid_call n1 l1 h1
  have v2 := valid_call n2 l2 h2
  unfold rawInt at *
  (repeat refine AW.seq ?_)
  refine AW.rgR [2,3] ?_
  simp [argsL]; (repeat refine AW.seq ?_); refine AW.rg ?_; simp; refine CallK.val v1 ?_; try simp
  cases o1 : okInt n1 l1
  · simp
    exact AW.ret (ret_emp rfl _ (.same _) ⟨by simp, rfl⟩)
  · simp; refine CallK.val v2 ?_; try simp
    exact AW.ret (ret_emp rfl _ (.same _) ⟨by simp, rfl⟩)
theorem both_ok (x y : Int) (hx : x.natAbs < B128) (hy : y.natAbs < B128) : ACall Tryz.prog 113 [intAV x, intAV y] Mem.emp fun v m => v = .bool true ∧ m = Mem.emp := by
  have h1 := dig_128 hx
  have h2 := dig_128 hy
  have := both_call (decide (x < 0)) (dig x.natAbs) (decide (y < 0)) (dig y.natAbs) (by omega) (by omega)
  rw [okInt_dig hx, okInt_dig hy] at this
  exact this
theorem compare_call (x y : Nat) (lx : (dig x).length < 2^40) (ly : (dig y).length < 2^40) : ACall Tryz.prog 136 [lim (dig x), lim (dig y)] Mem.emp fun v m => v = .int .i64 (ordI x y) ∧ m = Mem.emp := by
  refine acall_S Tryz.func136 rfl rfl 46 rfl (Nat.le_of_ble_eq_true rfl) ?_
  generalize ha : dig x = a at *
  generalize hb : dig y = b at *
  have va : val a = x := by rw [← ha, val_dig]
  have vb : val b = y := by rw [← hb, val_dig]
  have la : Lb a := by rw [← ha]; exact dig_lb x
  have lb : Lb b := by rw [← hb]; exact dig_lb y
  (repeat refine AW.seq ?_); refine AW.rg ?_; simp [argsL]; (repeat refine AW.seq ?_); refine AW.rg ?_; simp; (repeat refine AW.seq ?_)
  refine AW.cs (fun h => ?_) (fun h => ?_) rfl <;> simp at h
  · (repeat refine AW.seq ?_); refine AW.rg ?_; simp; (repeat refine AW.seq ?_)
    refine AW.cs (fun h2 => ?_) (fun h2 => ?_) rfl <;> simp at h2
    · (repeat refine AW.seq ?_); refine AW.rg ?_; simp
      have := dig_len_lt (x := x) (y := y) (by rw [ha, hb]; omega)
      exact AW.ret (ret_emp rfl _ (.same _) ⟨by simp [ordI_lt this], rfl⟩)
    · refine AW.skip ?_; try simp
      (repeat refine AW.seq ?_); refine AW.rg ?_; simp
      have := dig_len_lt (x := y) (y := x) (by rw [ha, hb]; omega)
      exact AW.ret (ret_emp rfl _ (.same _) ⟨by simp [ordI_gt this], rfl⟩)
  · have hl : a.length = b.length := by omega
    refine AW.skip ?_; try simp
    (repeat refine AW.seq ?_); refine AW.rg ?_; simp
    refine AW.block (AW.loopS (ι := Nat) (fun k => [(0, lim a), (1, lim b), (18, .int .i64 a.length), (19, .int .i64 k)]) (fun _ => Mem.emp) (fun k => k ≤ a.length ∧ val a + val (b.take (a.length - k)) = val b + val (a.take (a.length - k))) (fun k => a.length - k) 0 ⟨Nat.zero_le _, by rw [val_take_of_le b _ (by omega), val_take_of_le a _ (by omega)]; omega⟩ rfl (by simp [hl]) ?_)
    rintro k ⟨h1, h2⟩
    (repeat refine AW.seq ?_); refine AW.rg ?_; simp; (repeat refine AW.seq ?_)
    refine AW.cs (fun h3 => ?_) (fun h3 => ?_) rfl <;> simp at h3
    · obtain ⟨i, hi⟩ : ∃ i, a.length - k = i + 1 := ⟨a.length - k - 1, by omega⟩
      rw [hi] at h2
      have hw : IntKind.i64.wrap ((a.length : Int) - 1) = ((a.length - 1 : Nat) : Int) := by rw [wi' (by omega)]; omega
      have hw2 : IntKind.i64.wrap (((a.length - 1 : Nat) : Int) - (k : Int)) = (i : Int) := by rw [wi' (by omega)]; omega
      have hw3 : IntKind.i64.wrap ((k + 1 : Nat) : Int) = ((k + 1 : Nat) : Int) := wi (by omega)
      have i1 : i < a.length := by omega
      have i2 : i < b.length := by omega
      refine AW.skip ?_; try simp
      (repeat refine AW.seq ?_); refine AW.block ?_; (repeat refine AW.seq ?_); refine AW.rg ?_; simp; (repeat refine AW.seq ?_); refine AW.rg ?_; simp [hw, hw2]; (repeat refine AW.seq ?_)
      refine AW.rd [0, 1, 2, 3, 4, 5, 6, 7, 8] mix ?_
      simp [i1, i2]; (repeat refine AW.seq ?_)
      refine AW.cs (fun h4 => ?_) (fun h4 => ?_) rfl <;> simp at h4
      · (repeat refine AW.seq ?_)
        refine AW.rd [0, 1, 2, 3, 4, 5, 6, 7, 8] mix ?_
        simp [i1, i2]; (repeat refine AW.seq ?_)
        refine AW.cs (fun h5 => ?_) (fun h5 => ?_) rfl <;> simp at h5
        · (repeat refine AW.seq ?_); refine AW.rg ?_; simp
          have := order_step la h2 h5
          exact AW.ret (ret_emp rfl _ (.same _) ⟨by simp [ordI_lt (show x < y by omega)], rfl⟩)
        · refine AW.skip ?_; try simp
          (repeat refine AW.seq ?_); refine AW.rg ?_; simp
          have := order_step lb h2.symm (show nth b i < nth a i by omega)
          exact AW.ret (ret_emp rfl _ (.same _) ⟨by simp [ordI_gt (show y < x by omega)], rfl⟩)
      · refine AW.skip ?_; try simp
        (repeat refine AW.seq ?_); refine AW.rg ?_; simp [-Int.natCast_add, hw3]
        refine ⟨⟨by omega, ?_⟩, by omega⟩
        rw [val_take_getD, val_take_getD, h4] at h2
        rw [show a.length - (k + 1) = i by omega]; omega
    · refine AW.exit ?_
      try simp
      (repeat refine AW.seq ?_); refine AW.rg ?_; simp
      have : a.length - k = 0 := by omega
      rw [this] at h2
      simp [val] at h2
      exact AW.ret (ret_emp rfl _ (.same _) ⟨by simp [ordI_eq (show x = y by omega)], rfl⟩)
theorem trimmed_call (l : List Nat) (hl : l.length < 2^42) : ACall Tryz.prog 138 [lim l] Mem.emp fun v m => v = lim (trimL l) ∧ m = Mem.emp := by
  refine acall_S Tryz.func138 rfl rfl 21 rfl (Nat.le_of_ble_eq_true rfl) ?_
  (repeat refine AW.seq ?_); refine AW.rg ?_; simp [argsL]; (repeat refine AW.seq ?_); refine AW.rg ?_; simp
  refine AW.seq_has [(0, lim l), (3, .int .i64 (trimL l).length)] Mem.emp ?_ ?_
  · refine AW.block (AW.loopS (ι := Nat) (fun k => [(0, lim l), (3, .int .i64 k)]) (fun _ => Mem.emp) (fun k => k ≤ l.length ∧ trimL (l.take k) = trimL l) (fun k => k) l.length ⟨Nat.le_refl _, by simp⟩ rfl (by simp) ?_)
    rintro k ⟨h1, h2⟩
    rcases Nat.eq_zero_or_pos k with rfl | hk
    · (repeat refine AW.seq ?_); refine AW.rg ?_; simp; refine AW.no ?_ rfl
      refine AW.exit ?_
      try simp
      simp at h2
      rw [← h2]
      rfl
    · obtain ⟨i, rfl⟩ : ∃ i, k = i + 1 := ⟨k - 1, by omega⟩
      have hw : IntKind.i64.wrap (((i + 1 : Nat) : Int) - 1) = (i : Int) := by rw [wi' (by omega)]; omega
      have e : l.take (i + 1) = l.take i ++ [nth l i] := by
        rw [List.take_add_one, List.getElem?_eq_getElem (by omega), nth_eq (by omega)]; rfl
      have i1 : i < l.length := by omega
      (repeat refine AW.seq ?_); refine AW.rg ?_; simp [-Int.natCast_add, hw, i1]; (repeat refine AW.seq ?_)
      refine AW.cs (fun h3 => ?_) (fun h3 => ?_) rfl <;> simp at h3
      · refine AW.skip ?_
        try simp [-Int.natCast_add]
        (repeat refine AW.seq ?_); refine AW.block ?_; (repeat refine AW.seq ?_); refine AW.rg ?_; simp [-Int.natCast_add, hw]
        refine ⟨by omega, ?_⟩
        rw [e, h3, trimL_snoc0] at h2
        exact h2
      · refine AW.exit ?_
        try simp [-Int.natCast_add]
        rw [e, trimL_last _ h3, ← e] at h2
        rw [← h2]; simp; omega
  · have h1 : (trimL l).length ≤ l.length := by
      unfold trimL
      have := (List.dropWhile_sublist (l := l.reverse) (· == 0)).length_le
      simpa using this
    have h2 : l.take (trimL l).length = trimL l := by
      have : trimL l <+: l := by
        unfold trimL
        rw [← List.reverse_suffix, List.reverse_reverse]
        exact List.dropWhile_suffix _
      exact List.prefix_iff_eq_take.1 this |>.symm
    (repeat refine AW.seq ?_); refine AW.rg ?_; simp
    refine ⟨h1, ?_⟩
    exact AW.ret (ret_emp rfl _ (.same _) ⟨by simp [h2], rfl⟩)
end Go.Av
end
section
namespace Go.Av
open Go.Proofs
@[simp] theorem u32s_take_len (l : List Nat) : (u32s l).take l.length = u32s l := by rw [u32s_take, List.take_length]
theorem result_call (neg : Bool) (l : List Nat) (hb : Lb l) (hl : l.length < 2^40) : ACall Tryz.prog 115 [.bool neg, lim l] Mem.emp fun v m => v = fitAV (if neg = true then -(val l : Int) else val l) ∧ m = Mem.emp := by
  refine acall_S Tryz.func115 rfl rfl 27 rfl (Nat.le_of_ble_eq_true rfl) ?_
  (repeat refine AW.seq ?_); refine AW.rg ?_; simp [argsL]
  refine Fresh.intro fun b4 _ => ?_
  (repeat refine AW.seq ?_); refine AW.rg ?_; simp
  refine CallK.val (trimmed_call l (by omega)) ?_
  simp [trimL_eq hb]
  have hlen := dig_length_le (n := val l) (k := 128)
  generalize hn : val l = n at *
  (repeat refine AW.seq ?_); refine AW.rg ?_; simp; (repeat refine AW.seq ?_)
  refine AW.cs (fun h => ?_) (fun h => ?_) rfl <;> simp at h
  · (repeat refine AW.seq ?_); refine AW.rg ?_; simp
    have : ¬ n < B128 := fun h' => by have := hlen.2 h'; omega
    refine AW.ret (ret_int (b := b4) (.bool false) (lim []) rfl rfl (by simp; exact ⟨rfl, rfl⟩) rfl ?_ ⟨?_, rfl⟩)
    · simp
    · cases neg <;> simp [fitAV, fz, fe, this, intAV, dig_zero]
  · refine AW.skip ?_; try simp
    have hn' : n < B128 := hlen.1 h
    (repeat refine AW.seq ?_); refine AW.rg ?_; simp [-Int.natCast_mul]
    refine ⟨by omega, Fresh.intro fun b6 h6 => ?_⟩
    have e1 : b4 ≠ b6 := by rintro rfl; simp at h6
    (repeat refine AW.seq ?_); refine AW.rg ?_; simp [u32s_rep]; (repeat refine AW.seq ?_); refine AW.rg ?_
    have h2 : (decide (-(n : Int) < 0)) = decide (0 < n) := by congr 1; simp
    have h3 : 0 < (dig n).length ↔ 0 < n := by
      rw [List.length_pos_iff, ne_eq, dig_nil]; omega
    cases neg
    · simp [e1]
      refine AW.ret (ret_int (b := b4) (.bool false) (lim (dig n)) rfl rfl (by simp; exact ⟨rfl, rfl⟩) rfl ?_ ⟨?_, rfl⟩)
      · simp
        exact view_osl (e := 87) (by simp [Ne.symm e1])
      · simp [fitAV, fz, fe, hn', intAV]
    · simp [e1, h3]
      refine AW.ret (ret_int (b := b4) (.bool (decide (0 < n))) (lim (dig n)) rfl rfl (by simp; exact ⟨rfl, rfl⟩) rfl ?_ ⟨?_, rfl⟩)
      · simp
        exact view_osl (e := 87) (by simp [Ne.symm e1])
      · simp [fitAV, fz, fe, hn', intAV, h2]
theorem sum_call (a b : List Nat) (ha : Lb a) (hb : Lb b) (la : a.length < 2^40) (lb : b.length < 2^40) : ACall Tryz.prog 161 [lim a, lim b] Mem.emp fun v m => v = lim (dig (val a + val b)) ∧ m = Mem.emp := by
  refine acall_S Tryz.func161 rfl rfl 62 rfl (Nat.le_of_ble_eq_true rfl) ?_
  (repeat refine AW.seq ?_); refine AW.rg ?_; simp [argsL]
  refine AW.seq_ex (ι := List Nat × List Nat) (fun p => [(0, lim p.1), (1, lim p.2)]) (fun _ => Mem.emp) (fun p => Lb p.1 ∧ Lb p.2 ∧ p.2.length ≤ p.1.length ∧ p.1.length < 2^40 ∧ val p.1 + val p.2 = val a + val b) ?_ ?_
  · (repeat refine AW.seq ?_); refine AW.rg ?_; simp; (repeat refine AW.seq ?_)
    refine AW.cs (fun h => ?_) (fun h => ?_) rfl <;> simp at h
    · (repeat refine AW.seq ?_); refine AW.rg ?_; simp
      exact ⟨b, a, ⟨hb, ha, by omega, by omega, by omega⟩, rfl, rfl⟩
    · refine AW.skip ?_; try simp
      exact ⟨a, b, ⟨ha, hb, by omega, by omega, rfl⟩, rfl, rfl⟩
  rintro ⟨p, q⟩ ⟨hp, hq, hl, hl2, hv⟩
  simp only at hp hq hl hl2 hv; rw [← hv]; simp only
  have hw : IntKind.i64.wrap ((p.length + 1 : Nat) : Int) = ((p.length + 1 : Nat) : Int) := wi (by omega)
  (repeat refine AW.seq ?_); refine AW.rg ?_; simp [-Int.natCast_mul, -Int.natCast_add, hw]
  refine ⟨by omega, Fresh.intro fun bl _ => ?_⟩
  (repeat refine AW.seq ?_); refine AW.rg ?_; simp [-Int.natCast_add, u32s_rep, u32s_take, u32s_drop, u32s_append]; (repeat refine AW.seq ?_); refine AW.rg ?_; simp [-Int.natCast_add]
  refine AW.seq_ex (ι := List Nat × Nat) (fun x => [(0, lim p), (5, .osl bl 1 0 (p.length + 1)), (6, .int .u64 (x.2 : Nat))]) (fun x => Mem.emp.set bl ⟨87, 1, u32s x.1⟩) (fun x => Lb x.1 ∧ x.1.length = p.length + 1 ∧ x.2 < 2 ∧ val (x.1.take p.length) + 4294967296 ^ p.length * x.2 = val p + val q) ?_ ?_
  · (repeat refine AW.seq ?_); refine AW.rg ?_; simp [-Int.natCast_add]
    refine AW.block (AW.loopS (ι := Nat × Nat × List Nat) (fun x => [(0, lim p), (1, lim q), (5, .osl bl 1 0 (p.length + 1)), (6, .int .u64 (x.2.1 : Nat)), (24, .int .i64 p.length), (25, .int .i64 (x.1 : Nat))]) (fun x => Mem.emp.set bl ⟨87, 1, u32s x.2.2⟩)
      (fun x => x.1 ≤ p.length ∧ x.2.1 < 2 ∧ Lb x.2.2 ∧ x.2.2.length = p.length + 1 ∧ val (x.2.2.take x.1) + 4294967296 ^ x.1 * x.2.1 = val (p.take x.1) + val (q.take x.1)) (fun x => p.length - x.1) (0, 0, p ++ [0]) ⟨by simp, by simp, ?_, by simp, by simp [val]⟩ ?_ (by simp [-Int.natCast_add]) ?_)
    · intro x hx
      rcases List.mem_append.1 hx with h | h
      · exact hp x h
      · simp at h; omega
    · simp only []
      rw [List.take_of_length_le (by omega)]
    · rintro ⟨i, c, o⟩ ⟨h1, h2, h3, h4, h5⟩
      simp only at h1 h2 h3 h4 h5; simp only; (repeat refine AW.seq ?_); refine AW.rg ?_; simp; (repeat refine AW.seq ?_)
      refine AW.cs (fun hi => ?_) (fun hi => ?_) rfl <;> simp at hi
      · refine AW.skip ?_; try simp
        have qa := hp.nth i
        have qb := hq.nth i
        have hw2 : IntKind.i64.wrap ((i + 1 : Nat) : Int) = ((i + 1 : Nat) : Int) := wi (by omega)
        have m1 : nth p i % 18446744073709551616 = nth p i := by omega
        have m2 : nth q i % 18446744073709551616 = nth q i := by omega
        have m3 : (nth p i + c) % 18446744073709551616 = nth p i + c := by omega
        have m4 : (nth p i + c + nth q i) % 18446744073709551616 = nth p i + c + nth q i := by omega
        (repeat refine AW.seq ?_); refine AW.block ?_; (repeat refine AW.seq ?_); refine AW.rg ?_; simp; (repeat refine AW.seq ?_); refine AW.rg ?_; simp [-Int.natCast_add, hi, m1, m3]
        refine AW.seq_has [(0, lim p), (1, lim q), (5, .osl bl 1 0 (p.length + 1)), (7, .int .i64 (i : Nat)), (8, .int .u64 (nth p i + c + nth q i : Nat)), (24, .int .i64 p.length), (25, .int .i64 (i : Nat))] (Mem.emp.set bl ⟨87, 1, u32s o⟩) ?_ ?_
        · (repeat refine AW.seq ?_); refine AW.rg ?_; simp [-Int.natCast_add]; (repeat refine AW.seq ?_)
          refine AW.cs (fun hl => ?_) (fun hl => ?_) rfl <;> simp at hl
          · (repeat refine AW.seq ?_); refine AW.rg ?_; simp [-Int.natCast_add, hl, m2, m4]
          · refine AW.skip ?_
            try simp [-Int.natCast_add]
            simp [nth_ge hl]
        generalize hs : nth p i + c + nth q i = s at *
        have hi2 : i < p.length + 1 := by omega
        (repeat refine AW.seq ?_); refine AW.rg ?_; simp [-Int.natCast_add, -Int.natCast_emod, hi2, h4]; (repeat refine AW.seq ?_); refine AW.rg ?_; simp [-Int.natCast_ediv, -Int.natCast_emod]; (repeat refine AW.seq ?_); refine AW.rg ?_; simp [-Int.natCast_add, -Int.natCast_emod, -Int.natCast_ediv, hw2]
        refine ⟨i + 1, _, _, ⟨by omega, by omega, h3.set i _ (by omega), by simpa using h4, ?_⟩, by omega, rfl, rfl, rfl⟩
        rw [take_set_succ _ _ _ (by omega), val_take_getD, val_take_getD, Nat.pow_succ]
        have q := carry_step (4294967296 ^ i) s
        rw [← hs, Nat.mul_add, Nat.mul_add, hs] at q
        omega
      · refine AW.exit ?_
        try simp
        have : i = p.length := by omega
        subst this
        rw [val_take_of_le p _ (by omega), val_take_of_le q _ (by omega)] at h5
        exact ⟨o, ⟨h3, h4, h2, h5⟩, rfl⟩
  · rintro ⟨o, c⟩ ⟨h3, h4, h2, h5⟩
    simp only at h2 h3 h4 h5; simp only
    have m1 : c % 4294967296 = c := by omega
    have hi2 : p.length < p.length + 1 := by omega
    (repeat refine AW.seq ?_); refine AW.rg ?_; simp [-Int.natCast_add, h4, m1]
    have hv2 : val (o.set p.length c) = val p + val q := by
      rw [← val_take_of_le (o.set p.length c) (p.length + 1) (by simp [h4]), take_set_succ _ _ _ (by omega), h5]
    refine AW.toEmp [(5, lim (o.set p.length c))] ?_ ?_
    · simp
      have := view_osl (m := Mem.emp.set bl ⟨87, 1, u32s (o.set p.length c)⟩) (b := bl) (e := 87) (l := o.set p.length c) (by simp)
      rw [List.length_set, h4] at this
      exact this
    (repeat refine AW.seq ?_); refine AW.rg ?_; simp
    refine CallK.val (trimmed_call _ (by simp [h4]; omega)) ?_
    rw [trimL_eq (h3.set _ _ (by omega)), hv2]; try simp
    exact AW.ret (ret_emp rfl _ (.same _) ⟨by simp, rfl⟩)
theorem difference_call (x y : Nat) (hxy : y ≤ x) (lx : (dig x).length < 2^40) : ACall Tryz.prog 162 [lim (dig x), lim (dig y)] Mem.emp fun v m => v = lim (dig (x - y)) ∧ m = Mem.emp := by
  refine acall_S Tryz.func162 rfl rfl 48 rfl (Nat.le_of_ble_eq_true rfl) ?_
  have hlen := dig_len_le hxy
  generalize ha : dig x = a at *
  generalize hb : dig y = b at *
  have va : val a = x := by rw [← ha, val_dig]
  have vb : val b = y := by rw [← hb, val_dig]
  have la : Lb a := by rw [← ha]; exact dig_lb x
  have lb : Lb b := by rw [← hb]; exact dig_lb y
  (repeat refine AW.seq ?_); refine AW.rg ?_; simp [argsL]; (repeat refine AW.seq ?_); refine AW.rg ?_; simp [-Int.natCast_mul]
  refine ⟨by omega, Fresh.intro fun bl _ => ?_⟩
  (repeat refine AW.seq ?_); refine AW.rg ?_; simp [u32s_rep]; (repeat refine AW.seq ?_); refine AW.rg ?_; simp
  refine AW.seq_ex (ι := List Nat) (fun o => [(5, .osl bl 1 0 o.length)]) (fun o => Mem.emp.set bl ⟨87, 1, u32s o⟩) (fun o => Lb o ∧ val o = x - y ∧ o.length < 2^41) ?_ ?_
  · (repeat refine AW.seq ?_); refine AW.rg ?_; simp
    refine AW.block (AW.loopS (ι := Nat × Nat × List Nat) (fun x => [(0, lim a), (1, lim b), (5, .osl bl 1 0 a.length), (6, .int .u64 (x.2.1 : Nat)), (16, .int .i64 a.length), (17, .int .i64 (x.1 : Nat))]) (fun x => Mem.emp.set bl ⟨87, 1, u32s x.2.2⟩)
      (fun x => x.1 ≤ a.length ∧ x.2.1 < 2 ∧ Lb x.2.2 ∧ x.2.2.length = a.length ∧ val (x.2.2.take x.1) + val (b.take x.1) = val (a.take x.1) + 4294967296 ^ x.1 * x.2.1) (fun x => a.length - x.1) (0, 0, a) ⟨by simp, by simp, la, rfl, by simp [val]⟩ (by simp) (by simp) ?_)
    rintro ⟨i, c, o⟩ ⟨h1, h2, h3, h4, h5⟩
    simp only at h1 h2 h3 h4 h5; simp only; (repeat refine AW.seq ?_); refine AW.rg ?_; simp; (repeat refine AW.seq ?_)
    refine AW.cs (fun hi => ?_) (fun hi => ?_) rfl <;> simp at hi
    · refine AW.skip ?_; try simp
      have qa := la.nth i
      have qb := lb.nth i
      have hw2 : IntKind.i64.wrap ((i + 1 : Nat) : Int) = ((i + 1 : Nat) : Int) := wi (by omega)
      have m1 : nth a i % 18446744073709551616 = nth a i := by omega
      have m2 : nth b i % 18446744073709551616 = nth b i := by omega
      (repeat refine AW.seq ?_); refine AW.block ?_; (repeat refine AW.seq ?_); refine AW.rg ?_; simp; (repeat refine AW.seq ?_); refine AW.rg ?_; simp [hi, m1]
      refine AW.seq_has [(0, lim a), (1, lim b), (5, .osl bl 1 0 a.length), (7, .int .i64 (i : Nat)), (8, .int .u64 ((18446744073709551616 + nth a i - c - nth b i) % 18446744073709551616 : Nat)), (16, .int .i64 a.length), (17, .int .i64 (i : Nat))] (Mem.emp.set bl ⟨87, 1, u32s o⟩) ?_ ?_
      · (repeat refine AW.seq ?_); refine AW.rg ?_; simp [-Int.natCast_emod]; (repeat refine AW.seq ?_)
        refine AW.cs (fun hl => ?_) (fun hl => ?_) rfl <;> simp at hl
        · (repeat refine AW.seq ?_); refine AW.rg ?_; simp [-Int.natCast_emod, hl, m2]; omega
        · refine AW.skip ?_
          try simp [-Int.natCast_emod]
          simp [-Int.natCast_emod, nth_ge hl]; omega
      generalize hs : (18446744073709551616 + nth a i - c - nth b i) % 18446744073709551616 = s at *
      (repeat refine AW.seq ?_); refine AW.rg ?_; simp [-Int.natCast_emod, hi, h4]; (repeat refine AW.seq ?_); refine AW.rg ?_; simp [-Int.natCast_ediv, -Int.natCast_emod]; (repeat refine AW.seq ?_); refine AW.rg ?_; simp [-Int.natCast_add, -Int.natCast_ediv, -Int.natCast_emod, hw2]
      refine ⟨i + 1, _, _, ⟨by omega, by omega, h3.set i _ (by omega), by simpa using h4, ?_⟩, by omega, rfl, rfl, rfl⟩
      rw [take_set_succ _ _ _ (by omega), val_take_getD, val_take_getD, Nat.pow_succ]
      by_cases hc : nth a i < c + nth b i
      · have s1 : s / 9223372036854775808 = 1 := by omega
        have s2 : s % 4294967296 = nth a i + 4294967296 - (c + nth b i) := by omega
        rw [s1, s2]
        have q : 4294967296 ^ i * (nth a i + 4294967296 - (c + nth b i)) + 4294967296 ^ i * (c + nth b i) = 4294967296 ^ i * (nth a i) + 4294967296 ^ i * 4294967296 := by
          rw [← Nat.mul_add, ← Nat.mul_add]; congr 1; omega
        rw [Nat.mul_add _ c] at q
        omega
      · have s1 : s / 9223372036854775808 = 0 := by omega
        have s2 : s % 4294967296 = nth a i - (c + nth b i) := by omega
        rw [s1, s2]
        have q : 4294967296 ^ i * (nth a i - (c + nth b i)) + 4294967296 ^ i * (c + nth b i) = 4294967296 ^ i * (nth a i) := by
          rw [← Nat.mul_add]; congr 1; omega
        rw [Nat.mul_add _ c] at q
        omega
    · refine AW.exit ?_
      try simp
      refine ⟨o, ⟨h3, ?_, by omega⟩, rfl, h4.symm⟩
      have : i = a.length := by omega
      subst this
      rw [val_take_of_le o _ (by omega), val_take_of_le a _ (by omega), val_take_of_le b _ (by omega)] at h5
      have q1 := val_lt' h3 (k := a.length) (by omega)
      have q4 : c = 0 := by
        rcases Nat.eq_zero_or_pos c with h | h
        · exact h
        · have := Nat.le_mul_of_pos_right (4294967296 ^ a.length) h
          omega
      subst q4; omega
  · rintro o ⟨h1, h2, h3⟩
    refine AW.toEmp [(5, lim o)] (by simp; exact view_osl (e := 87) (by simp)) ?_
    (repeat refine AW.seq ?_); refine AW.rg ?_; simp
    refine CallK.val (trimmed_call o (by omega)) ?_
    rw [trimL_eq h1, h2]; try simp
    exact AW.ret (ret_emp rfl _ (.same _) ⟨by simp, rfl⟩)
end Go.Av
end
section
namespace Go.Av
open Go.Proofs
theorem product_call (a b : List Nat) (ha : Lb a) (hb : Lb b) (la : a.length < 2^39) (lb : b.length < 2^39) : ACall Tryz.prog 158 [lim a, lim b] Mem.emp fun v m => v = lim (dig (val a * val b)) ∧ m = Mem.emp := by
  refine acall_S Tryz.func158 rfl rfl 68 rfl (Nat.le_of_ble_eq_true rfl) ?_
  (repeat refine AW.seq ?_); refine AW.rg ?_; simp [argsL]
  generalize hN : a.length + b.length = N
  have hw : IntKind.i64.wrap (N : Int) = N := wi (by omega)
  (repeat refine AW.seq ?_); refine AW.rg ?_; simp [-Int.natCast_mul, hN, hw]
  refine ⟨by omega, Fresh.intro fun bl _ => ?_⟩
  simp only [u32s_rep]
  refine AW.seq_ex (ι := List Nat) (fun o => [(5, .osl bl 1 0 o.length)]) (fun o => Mem.emp.set bl ⟨87, 1, u32s o⟩) (fun o => Lb o ∧ val o = val a * val b ∧ o.length < 2^41) ?_ ?_
  · (repeat refine AW.seq ?_); refine AW.rg ?_; simp
    refine AW.block (AW.loopS (ι := Nat × List Nat) (fun x => [(0, lim a), (1, lim b), (5, .osl bl 1 0 N), (18, .int .i64 (x.1 : Nat)), (17, .int .i64 a.length)]) (fun x => Mem.emp.set bl ⟨87, 1, u32s x.2⟩)
      (fun x => x.1 ≤ a.length ∧ Lb x.2 ∧ x.2.length = N ∧ val (x.2.take (x.1 + b.length)) = val (a.take x.1) * val b) (fun x => a.length - x.1) (0, List.replicate N 0) ⟨by simp, Lb.rep _, by simp, by simp [val, val_rep]⟩ (by simp) (by simp) ?_)
    rintro ⟨i, o0⟩ ⟨h1, h3, h4, h5⟩
    simp only at h1 h3 h4 h5; simp only
    have hw2 : IntKind.i64.wrap ((i + 1 : Nat) : Int) = ((i + 1 : Nat) : Int) := wi (by omega)
    (repeat refine AW.seq ?_); refine AW.rg ?_; simp; (repeat refine AW.seq ?_)
    refine AW.cs (fun hi => ?_) (fun hi => ?_) rfl <;> simp at hi
    · refine AW.skip ?_; try simp
      (repeat refine AW.seq ?_); refine AW.block ?_; (repeat refine AW.seq ?_); refine AW.rg ?_; simp; (repeat refine AW.seq ?_); refine AW.rg ?_; simp
      refine AW.seq_ex (ι := Nat × List Nat) (fun x => [(0, lim a), (1, lim b), (5, .osl bl 1 0 N), (6, .int .i64 (i : Nat)), (7, .int .u64 (x.1 : Nat)), (17, .int .i64 a.length), (18, .int .i64 (i : Nat))]) (fun x => Mem.emp.set bl ⟨87, 1, u32s x.2⟩)
        (fun x => x.1 < 4294967296 ∧ Lb x.2 ∧ x.2.length = N ∧ val (x.2.take (i + b.length)) + 4294967296 ^ (i + b.length) * x.1 = val (o0.take (i + b.length)) + 4294967296 ^ i * nth a i * val b) ?_ ?_
      · (repeat refine AW.seq ?_); refine AW.rg ?_; simp
        refine AW.block (AW.loopS (ι := Nat × Nat × List Nat) (fun x => [(0, lim a), (1, lim b), (5, .osl bl 1 0 N), (6, .int .i64 (i : Nat)), (7, .int .u64 (x.2.1 : Nat)), (23, .int .i64 (x.1 : Nat)), (22, .int .i64 b.length), (17, .int .i64 a.length), (18, .int .i64 (i : Nat))]) (fun x => Mem.emp.set bl ⟨87, 1, u32s x.2.2⟩)
          (fun x => x.1 ≤ b.length ∧ x.2.1 < 4294967296 ∧ Lb x.2.2 ∧ x.2.2.length = N ∧ (∀ j, i + x.1 ≤ j → nth x.2.2 j = nth o0 j) ∧ val (x.2.2.take (i + x.1)) + 4294967296 ^ (i + x.1) * x.2.1 = val (o0.take (i + x.1)) + 4294967296 ^ i * nth a i * val (b.take x.1)) (fun x => b.length - x.1) (0, 0, o0) ⟨by simp, by simp, h3, h4, fun _ _ => rfl, by simp [val]⟩ rfl (by simp) ?_)
        rintro ⟨k, c, o⟩ ⟨g1, g2, g3, g4, g5, g6⟩
        simp only at g1 g2 g3 g4 g5 g6; simp only; (repeat refine AW.seq ?_); refine AW.rg ?_; simp; (repeat refine AW.seq ?_)
        refine AW.cs (fun hk => ?_) (fun hk => ?_) rfl <;> simp at hk
        · refine AW.skip ?_; try simp
          (repeat refine AW.seq ?_); refine AW.block ?_; (repeat refine AW.seq ?_); refine AW.rg ?_; simp
          have qa := ha.nth i
          have qb := hb.nth k
          have qo := g3.nth (i + k)
          have hik : IntKind.i64.wrap ((i + k : Nat) : Int) = ((i + k : Nat) : Int) := wi (by omega)
          have hk2 : IntKind.i64.wrap ((k + 1 : Nat) : Int) = ((k + 1 : Nat) : Int) := wi (by omega)
          have ik : i + k < N := by omega
          have m0 : nth a i * nth b k ≤ 4294967295 * 4294967295 := Nat.mul_le_mul (by omega) (by omega)
          have m1 : nth a i % 18446744073709551616 = nth a i := by omega
          have m2 : nth b k % 18446744073709551616 = nth b k := by omega
          have m3 : nth o (i + k) % 18446744073709551616 = nth o (i + k) := by omega
          have m4 : nth a i * nth b k % 18446744073709551616 = nth a i * nth b k := by omega
          have m5 : (nth a i * nth b k + nth o (i + k)) % 18446744073709551616 = nth a i * nth b k + nth o (i + k) := by omega
          have m6 : (nth a i * nth b k + nth o (i + k) + c) % 18446744073709551616 = nth a i * nth b k + nth o (i + k) + c := by omega
          (repeat refine AW.seq ?_)
          refine AW.rdA bl [0, 1, 2, 3, 4, 5, 6, 7, 8, 9, 10, 11, 12, 13, 14, 15, 16, 17, 18, 19, 20, 21] mix (by simp) ?_
          simp [-Int.natCast_add, -Int.natCast_mul, hi, hk, hik, g4, ik, m1, m2, m3, m4, m5, m6]
          generalize hs : nth a i * nth b k + nth o (i + k) + c = s at *
          (repeat refine AW.seq ?_); refine AW.rg ?_; simp [-Int.natCast_emod, -Int.natCast_add, -Int.natCast_mul, hik, g4, ik]
          have m7 : s / 4294967296 % 18446744073709551616 = s / 4294967296 := by omega
          (repeat refine AW.seq ?_); refine AW.rg ?_; simp [-Int.natCast_ediv, -Int.natCast_mul, -Int.natCast_add, -Int.natCast_emod, m7]; (repeat refine AW.seq ?_); refine AW.rg ?_; simp [-Int.natCast_mul, -Int.natCast_add, -Int.natCast_emod, -Int.natCast_ediv, hk2]
          refine ⟨k + 1, _, _, ⟨by omega, ?_, g3.set (i + k) _ (Nat.mod_lt s (by omega)), by simpa using g4, ?_, ?_⟩, by omega, rfl, rfl, rfl⟩
          · omega
          · intro j hj
            rw [nth_set_ne _ (by omega)]
            exact g5 j (by omega)
          · rw [show i + (k + 1) = i + k + 1 by omega, take_set_succ _ _ _ (by omega), val_take_getD, val_take_getD, Nat.pow_succ]
            have q := carry_step (4294967296 ^ (i + k)) s
            rw [← hs, Nat.mul_add, Nat.mul_add, hs, g5 _ (Nat.le_refl _)] at q
            have e : 4294967296 ^ i * nth a i * (val (b.take k) + 4294967296 ^ k * nth b k) = 4294967296 ^ i * nth a i * val (b.take k) + 4294967296 ^ (i + k) * (nth a i * nth b k) := by
              rw [Nat.mul_add, Nat.pow_add]
              congr 1
              ac_rfl
            rw [e]; omega
        · refine AW.exit ?_
          try simp
          have : k = b.length := by omega
          subst this
          rw [val_take_of_le b _ (Nat.le_refl _)] at g6
          exact ⟨c, o, ⟨g2, g3, g4, g6⟩, rfl, rfl⟩
      · rintro ⟨c, o⟩ ⟨g2, g3, g4, g6⟩
        simp only at g2 g3 g4 g6; simp only
        have hil : IntKind.i64.wrap ((i + b.length : Nat) : Int) = ((i + b.length : Nat) : Int) := wi (by omega)
        have il : i + b.length < N := by omega
        have m1 : c % 4294967296 = c := by omega
        (repeat refine AW.seq ?_); refine AW.rg ?_; simp [-Int.natCast_add, hil, il, g4, m1]; (repeat refine AW.seq ?_); refine AW.rg ?_; simp [-Int.natCast_add, hw2]
        refine ⟨i + 1, _, ⟨by omega, g3.set (i + b.length) c g2, by simpa using g4, ?_⟩, by omega, rfl, rfl⟩
        rw [show i + 1 + b.length = i + b.length + 1 by omega, take_set_succ _ _ _ (by omega), g6, h5, val_take_getD, Nat.add_mul]
    · refine AW.exit ?_
      try simp
      have : i = a.length := by omega
      subst this
      refine ⟨o0, ⟨h3, ?_, by omega⟩, rfl, h4.symm⟩
      rw [val_take_of_le _ _ (by omega), val_take_of_le a _ (by omega)] at h5
      exact h5
  · rintro o ⟨h1, h2, h3⟩
    refine AW.toEmp [(5, lim o)] (by simp; exact view_osl (e := 87) (by simp)) ?_
    (repeat refine AW.seq ?_); refine AW.rg ?_; simp
    refine CallK.val (trimmed_call o (by omega)) ?_
    rw [trimL_eq h1, h2]; try simp
    exact AW.ret (ret_emp rfl _ (.same _) ⟨by simp, rfl⟩)
theorem times_call (a b : List Nat) (ha : Lb a) (hb : Lb b) (la : a.length < 2^39) (lb : b.length < 2^39) : ACall Tryz.prog 108 [lim a, lim b] Mem.emp fun v m => v = lim (dig (val a * val b)) ∧ m = Mem.emp := by
  refine acall_S Tryz.func108 rfl rfl 68 rfl (Nat.le_of_ble_eq_true rfl) ?_
  (repeat refine AW.seq ?_); refine AW.rg ?_; simp [argsL]
  generalize hN : a.length + b.length = N
  have hw : IntKind.i64.wrap (N : Int) = N := wi (by omega)
  (repeat refine AW.seq ?_); refine AW.rg ?_; simp [-Int.natCast_mul, hN, hw]
  refine ⟨by omega, Fresh.intro fun bl _ => ?_⟩
  simp only [u32s_rep]
  refine AW.seq_ex (ι := List Nat) (fun o => [(5, .osl bl 1 0 o.length)]) (fun o => Mem.emp.set bl ⟨87, 1, u32s o⟩) (fun o => Lb o ∧ val o = val a * val b ∧ o.length < 2^41) ?_ ?_
  · (repeat refine AW.seq ?_); refine AW.rg ?_; simp
    refine AW.block (AW.loopS (ι := Nat × List Nat) (fun x => [(0, lim a), (1, lim b), (5, .osl bl 1 0 N), (6, .int .i64 (x.1 : Nat))]) (fun x => Mem.emp.set bl ⟨87, 1, u32s x.2⟩)
      (fun x => x.1 ≤ a.length ∧ Lb x.2 ∧ x.2.length = N ∧ val (x.2.take (x.1 + b.length)) = val (a.take x.1) * val b) (fun x => a.length - x.1) (0, List.replicate N 0) ⟨by simp, Lb.rep _, by simp, by simp [val, val_rep]⟩ (by simp) (by simp) ?_)
    rintro ⟨i, o0⟩ ⟨h1, h3, h4, h5⟩
    simp only at h1 h3 h4 h5; simp only
    have hw2 : IntKind.i64.wrap ((i + 1 : Nat) : Int) = ((i + 1 : Nat) : Int) := wi (by omega)
    (repeat refine AW.seq ?_); refine AW.rg ?_; simp; (repeat refine AW.seq ?_)
    refine AW.cs (fun hi => ?_) (fun hi => ?_) rfl <;> simp at hi
    · refine AW.skip ?_; try simp
      (repeat refine AW.seq ?_); refine AW.block ?_; (repeat refine AW.seq ?_); refine AW.rg ?_; simp
      refine AW.seq_ex (ι := Nat × List Nat) (fun x => [(0, lim a), (1, lim b), (5, .osl bl 1 0 N), (6, .int .i64 (i : Nat)), (7, .int .u64 (x.1 : Nat))]) (fun x => Mem.emp.set bl ⟨87, 1, u32s x.2⟩)
        (fun x => x.1 < 4294967296 ∧ Lb x.2 ∧ x.2.length = N ∧ val (x.2.take (i + b.length)) + 4294967296 ^ (i + b.length) * x.1 = val (o0.take (i + b.length)) + 4294967296 ^ i * nth a i * val b) ?_ ?_
      · (repeat refine AW.seq ?_); refine AW.rg ?_; simp
        refine AW.block (AW.loopS (ι := Nat × Nat × List Nat) (fun x => [(0, lim a), (1, lim b), (5, .osl bl 1 0 N), (6, .int .i64 (i : Nat)), (7, .int .u64 (x.2.1 : Nat)), (8, .int .i64 (x.1 : Nat))]) (fun x => Mem.emp.set bl ⟨87, 1, u32s x.2.2⟩)
          (fun x => x.1 ≤ b.length ∧ x.2.1 < 4294967296 ∧ Lb x.2.2 ∧ x.2.2.length = N ∧ (∀ j, i + x.1 ≤ j → nth x.2.2 j = nth o0 j) ∧ val (x.2.2.take (i + x.1)) + 4294967296 ^ (i + x.1) * x.2.1 = val (o0.take (i + x.1)) + 4294967296 ^ i * nth a i * val (b.take x.1)) (fun x => b.length - x.1) (0, 0, o0) ⟨by simp, by simp, h3, h4, fun _ _ => rfl, by simp [val]⟩ rfl (by simp) ?_)
        rintro ⟨k, c, o⟩ ⟨g1, g2, g3, g4, g5, g6⟩
        simp only at g1 g2 g3 g4 g5 g6; simp only; (repeat refine AW.seq ?_); refine AW.rg ?_; simp; (repeat refine AW.seq ?_)
        refine AW.cs (fun hk => ?_) (fun hk => ?_) rfl <;> simp at hk
        · refine AW.skip ?_; try simp
          (repeat refine AW.seq ?_); refine AW.block ?_
          have qa := ha.nth i
          have qb := hb.nth k
          have qo := g3.nth (i + k)
          have hik : IntKind.i64.wrap ((i + k : Nat) : Int) = ((i + k : Nat) : Int) := wi (by omega)
          have hk2 : IntKind.i64.wrap ((k + 1 : Nat) : Int) = ((k + 1 : Nat) : Int) := wi (by omega)
          have ik : i + k < N := by omega
          have m0 : nth a i * nth b k ≤ 4294967295 * 4294967295 := Nat.mul_le_mul (by omega) (by omega)
          have m1 : nth a i % 18446744073709551616 = nth a i := by omega
          have m2 : nth b k % 18446744073709551616 = nth b k := by omega
          have m3 : nth o (i + k) % 18446744073709551616 = nth o (i + k) := by omega
          have m4 : nth a i * nth b k % 18446744073709551616 = nth a i * nth b k := by omega
          have m5 : (nth a i * nth b k + nth o (i + k)) % 18446744073709551616 = nth a i * nth b k + nth o (i + k) := by omega
          have m6 : (nth a i * nth b k + nth o (i + k) + c) % 18446744073709551616 = nth a i * nth b k + nth o (i + k) + c := by omega
          (repeat refine AW.seq ?_)
          refine AW.rdA bl [0, 1, 2, 3, 4, 5, 6, 7, 8, 9, 10, 11, 12, 13, 14, 15, 16, 17, 18, 19, 20, 21] mix (by simp) ?_
          simp [-Int.natCast_add, -Int.natCast_mul, hi, hk, hik, g4, ik, m1, m2, m3, m4, m5, m6]
          generalize hs : nth a i * nth b k + nth o (i + k) + c = s at *
          (repeat refine AW.seq ?_); refine AW.rg ?_; simp [-Int.natCast_emod, -Int.natCast_add, -Int.natCast_mul, hik, g4, ik]
          have m7 : s / 4294967296 % 18446744073709551616 = s / 4294967296 := by omega
          (repeat refine AW.seq ?_); refine AW.rg ?_; simp [-Int.natCast_ediv, -Int.natCast_mul, -Int.natCast_add, -Int.natCast_emod, m7]; (repeat refine AW.seq ?_); refine AW.rg ?_; simp [-Int.natCast_mul, -Int.natCast_add, -Int.natCast_emod, -Int.natCast_ediv, hk2]
          refine ⟨k + 1, _, _, ⟨by omega, ?_, g3.set (i + k) _ (Nat.mod_lt s (by omega)), by simpa using g4, ?_, ?_⟩, by omega, rfl, rfl, rfl⟩
          · omega
          · intro j hj
            rw [nth_set_ne _ (by omega)]
            exact g5 j (by omega)
          · rw [show i + (k + 1) = i + k + 1 by omega, take_set_succ _ _ _ (by omega), val_take_getD, val_take_getD, Nat.pow_succ]
            have q := carry_step (4294967296 ^ (i + k)) s
            rw [← hs, Nat.mul_add, Nat.mul_add, hs, g5 _ (Nat.le_refl _)] at q
            have e : 4294967296 ^ i * nth a i * (val (b.take k) + 4294967296 ^ k * nth b k) = 4294967296 ^ i * nth a i * val (b.take k) + 4294967296 ^ (i + k) * (nth a i * nth b k) := by
              rw [Nat.mul_add, Nat.pow_add]
              congr 1
              ac_rfl
            rw [e]; omega
        · refine AW.exit ?_
          try simp
          have : k = b.length := by omega
          subst this
          rw [val_take_of_le b _ (Nat.le_refl _)] at g6
          exact ⟨c, o, ⟨g2, g3, g4, g6⟩, rfl, rfl⟩
      · rintro ⟨c, o⟩ ⟨g2, g3, g4, g6⟩
        simp only at g2 g3 g4 g6; simp only
        have hil : IntKind.i64.wrap ((i + b.length : Nat) : Int) = ((i + b.length : Nat) : Int) := wi (by omega)
        have il : i + b.length < N := by omega
        have m1 : c % 4294967296 = c := by omega
        (repeat refine AW.seq ?_); refine AW.rg ?_; simp [-Int.natCast_add, hil, il, g4, m1]; (repeat refine AW.seq ?_); refine AW.rg ?_; simp [-Int.natCast_add, hw2]
        refine ⟨i + 1, _, ⟨by omega, g3.set (i + b.length) c g2, by simpa using g4, ?_⟩, by omega, rfl, rfl⟩
        rw [show i + 1 + b.length = i + b.length + 1 by omega, take_set_succ _ _ _ (by omega), g6, h5, val_take_getD, Nat.add_mul]
    · refine AW.exit ?_
      try simp
      have : i = a.length := by omega
      subst this
      refine ⟨o0, ⟨h3, ?_, by omega⟩, rfl, h4.symm⟩
      rw [val_take_of_le _ _ (by omega), val_take_of_le a _ (by omega)] at h5
      exact h5
  · rintro o ⟨h1, h2, h3⟩
    refine AW.toEmp [(5, lim o)] (by simp; exact view_osl (e := 87) (by simp)) ?_
    (repeat refine AW.seq ?_); refine AW.rg ?_; simp
    refine CallK.val (trim_call o (by omega)) ?_
    rw [trimL_eq h1, h2]; try simp
    exact AW.ret (ret_emp rfl _ (.same _) ⟨by simp, rfl⟩)
end Go.Av
end
section
namespace Go.Av
open Go.Proofs
theorem dig_129 {x y : Int} (hx : x.natAbs < B128) (hy : y.natAbs < B128) : (dig (x.natAbs + y.natAbs)).length ≤ 129 := by
  rw [dig_length_le, Nat.pow_succ]
  have : B128 = 4294967296 ^ 128 := rfl
  omega
theorem dig_sub {a b : Nat} (h : a < B128) : (dig (a - b)).length ≤ 128 := dig_128 (by omega)
theorem signed_call (x y : Int) (hx : x.natAbs < B128) (hy : y.natAbs < B128) : ACall Tryz.prog 159 [.bool (decide (x < 0)), lim (dig x.natAbs), .bool (decide (y < 0)), lim (dig y.natAbs)] Mem.emp fun v m => v = fitAV (x + y) ∧ m = Mem.emp := by
  have lx := dig_128 hx
  have ly := dig_128 hy
  have s1 := dig_129 hx hy
  have s2 := dig_sub (b := y.natAbs) hx
  have s3 := dig_sub (b := x.natAbs) hy
  by_cases cx : x < 0
  · by_cases cy : y < 0
    · simp only [cx, cy, decide_true, decide_false]
      refine acall_S Tryz.func159 rfl rfl 38 rfl (Nat.le_of_ble_eq_true rfl) ?_
      (repeat refine AW.seq ?_); refine AW.rg ?_; simp [argsL]
      refine Fresh.intro fun b8 _ => ?_
      (repeat refine AW.seq ?_); refine AW.rg ?_; simp; refine AW.yes ?_ rfl; (repeat refine AW.seq ?_); refine AW.rg ?_; simp
      refine CallK.val (sum_call _ _ (dig_lb _) (dig_lb _) (by omega) (by omega)) ?_
      try simp
      rw [val_dig, val_dig]; try simp
      refine CallK.val (result_call true _ (dig_lb _) (by omega)) ?_
      have e : fitAV (if true = true then -(val (dig (x.natAbs + y.natAbs)) : Int) else val (dig (x.natAbs + y.natAbs))) = fitAV (x + y) := by
        rw [val_dig, if_pos rfl]; congr 1; omega
      rw [e, fitAV_eq]; simp
      refine AW.ret (ret_int (b := b8) (.bool (decide (fz (x + y) < 0))) (lim (dig (fz (x + y)).natAbs)) rfl rfl (by simp; exact ⟨rfl, rfl⟩) rfl ?_ ⟨?_, rfl⟩)
      · simp
      · rfl
    · simp only [cx, cy, decide_true, decide_false]
      refine acall_S Tryz.func159 rfl rfl 38 rfl (Nat.le_of_ble_eq_true rfl) ?_
      (repeat refine AW.seq ?_); refine AW.rg ?_; simp [argsL]
      refine Fresh.intro fun b8 _ => ?_
      (repeat refine AW.seq ?_); refine AW.rg ?_; simp; refine AW.no ?_ rfl; refine AW.skip ?_; try simp
      (repeat refine AW.seq ?_); refine AW.rg ?_; simp
      refine CallK.val (compare_call _ _ (by omega) (by omega)) ?_
      simp [order_neg]; (repeat refine AW.seq ?_)
      refine AW.cs (fun h => ?_) (fun h => ?_) rfl <;> simp at h
      · (repeat refine AW.seq ?_); refine AW.rg ?_; simp
        refine CallK.val (difference_call _ _ (by omega) (by omega)) ?_
        try simp
        try simp
        refine CallK.val (result_call false _ (dig_lb _) (by omega)) ?_
        have e : fitAV (if false = true then -(val (dig (y.natAbs - x.natAbs)) : Int) else val (dig (y.natAbs - x.natAbs))) = fitAV (x + y) := by
          rw [val_dig, if_neg (by simp)]; congr 1; omega
        rw [e, fitAV_eq]; simp
        refine AW.ret (ret_int (b := b8) (.bool (decide (fz (x + y) < 0))) (lim (dig (fz (x + y)).natAbs)) rfl rfl (by simp; exact ⟨rfl, rfl⟩) rfl ?_ ⟨?_, rfl⟩)
        · simp
        · rfl
      · refine AW.skip ?_; try simp
        (repeat refine AW.seq ?_); refine AW.rg ?_; simp
        refine CallK.val (difference_call _ _ (by omega) (by omega)) ?_
        try simp
        try simp
        refine CallK.val (result_call true _ (dig_lb _) (by omega)) ?_
        have e : fitAV (if true = true then -(val (dig (x.natAbs - y.natAbs)) : Int) else val (dig (x.natAbs - y.natAbs))) = fitAV (x + y) := by
          rw [val_dig, if_pos rfl]; congr 1; omega
        rw [e, fitAV_eq]; simp
        refine AW.ret (ret_int (b := b8) (.bool (decide (fz (x + y) < 0))) (lim (dig (fz (x + y)).natAbs)) rfl rfl (by simp; exact ⟨rfl, rfl⟩) rfl ?_ ⟨?_, rfl⟩)
        · simp
        · rfl
  · by_cases cy : y < 0
    · simp only [cx, cy, decide_true, decide_false]
      refine acall_S Tryz.func159 rfl rfl 38 rfl (Nat.le_of_ble_eq_true rfl) ?_
      (repeat refine AW.seq ?_); refine AW.rg ?_; simp [argsL]
      refine Fresh.intro fun b8 _ => ?_
      (repeat refine AW.seq ?_); refine AW.rg ?_; simp; refine AW.no ?_ rfl; refine AW.skip ?_; try simp
      (repeat refine AW.seq ?_); refine AW.rg ?_; simp
      refine CallK.val (compare_call _ _ (by omega) (by omega)) ?_
      simp [order_neg]; (repeat refine AW.seq ?_)
      refine AW.cs (fun h => ?_) (fun h => ?_) rfl <;> simp at h
      · (repeat refine AW.seq ?_); refine AW.rg ?_; simp
        refine CallK.val (difference_call _ _ (by omega) (by omega)) ?_
        try simp
        try simp
        refine CallK.val (result_call true _ (dig_lb _) (by omega)) ?_
        have e : fitAV (if true = true then -(val (dig (y.natAbs - x.natAbs)) : Int) else val (dig (y.natAbs - x.natAbs))) = fitAV (x + y) := by
          rw [val_dig, if_pos rfl]; congr 1; omega
        rw [e, fitAV_eq]; simp
        refine AW.ret (ret_int (b := b8) (.bool (decide (fz (x + y) < 0))) (lim (dig (fz (x + y)).natAbs)) rfl rfl (by simp; exact ⟨rfl, rfl⟩) rfl ?_ ⟨?_, rfl⟩)
        · simp
        · rfl
      · refine AW.skip ?_; try simp
        (repeat refine AW.seq ?_); refine AW.rg ?_; simp
        refine CallK.val (difference_call _ _ (by omega) (by omega)) ?_
        try simp
        try simp
        refine CallK.val (result_call false _ (dig_lb _) (by omega)) ?_
        have e : fitAV (if false = true then -(val (dig (x.natAbs - y.natAbs)) : Int) else val (dig (x.natAbs - y.natAbs))) = fitAV (x + y) := by
          rw [val_dig, if_neg (by simp)]; congr 1; omega
        rw [e, fitAV_eq]; simp
        refine AW.ret (ret_int (b := b8) (.bool (decide (fz (x + y) < 0))) (lim (dig (fz (x + y)).natAbs)) rfl rfl (by simp; exact ⟨rfl, rfl⟩) rfl ?_ ⟨?_, rfl⟩)
        · simp
        · rfl
    · simp only [cx, cy, decide_true, decide_false]
      refine acall_S Tryz.func159 rfl rfl 38 rfl (Nat.le_of_ble_eq_true rfl) ?_
      (repeat refine AW.seq ?_); refine AW.rg ?_; simp [argsL]
      refine Fresh.intro fun b8 _ => ?_
      (repeat refine AW.seq ?_); refine AW.rg ?_; simp; refine AW.yes ?_ rfl; (repeat refine AW.seq ?_); refine AW.rg ?_; simp
      refine CallK.val (sum_call _ _ (dig_lb _) (dig_lb _) (by omega) (by omega)) ?_
      try simp
      rw [val_dig, val_dig]; try simp
      refine CallK.val (result_call false _ (dig_lb _) (by omega)) ?_
      have e : fitAV (if false = true then -(val (dig (x.natAbs + y.natAbs)) : Int) else val (dig (x.natAbs + y.natAbs))) = fitAV (x + y) := by
        rw [val_dig, if_neg (by simp)]; congr 1; omega
      rw [e, fitAV_eq]; simp
      refine AW.ret (ret_int (b := b8) (.bool (decide (fz (x + y) < 0))) (lim (dig (fz (x + y)).natAbs)) rfl rfl (by simp; exact ⟨rfl, rfl⟩) rfl ?_ ⟨?_, rfl⟩)
      · simp
      · rfl
theorem iadd_call (x y : Int) (hx : x.natAbs < B128) (hy : y.natAbs < B128) : ACall Tryz.prog 150 [intAV x, intAV y] Mem.emp fun v m => v = fitAV (x + y) ∧ m = Mem.emp := by
  have hb := both_ok x y hx hy
  have hs := signed_call x y hx hy
  unfold intAV at *
  refine acall_S Tryz.func150 rfl rfl 22 rfl (Nat.le_of_ble_eq_true rfl) ?_
  (repeat refine AW.seq ?_)
  refine AW.rgR [2,3] ?_
  simp [argsL]
  refine Fresh.intro fun b4 _ => ?_
  (repeat refine AW.seq ?_); refine AW.rg ?_; simp; refine CallK.val hb ?_; try simp
  refine AW.no ?_ rfl; refine AW.skip ?_; try simp
  (repeat refine AW.seq ?_); refine AW.rg ?_; simp; refine CallK.val hs ?_; rw [fitAV_eq]; simp
  refine AW.ret (ret_int (b := b4) (.bool (decide (fz (x + y) < 0))) (lim (dig (fz (x + y)).natAbs)) rfl rfl (by simp; exact ⟨rfl, rfl⟩) rfl ?_ ⟨?_, rfl⟩)
  · simp
  · rfl
theorem val_mul_dig (x y : Int) : val (dig x.natAbs) * val (dig y.natAbs) = (x * y).natAbs := by rw [val_dig, val_dig, Int.natAbs_mul]
theorem dig_mul {x y : Int} (hx : x.natAbs < B128) (hy : y.natAbs < B128) : (dig (x * y).natAbs).length ≤ 256 := by
  rw [dig_length_le, Int.natAbs_mul, show 256 = 128 + 128 by rfl, Nat.pow_add]
  exact Nat.mul_lt_mul'' hx hy
theorem mul_sign (x y : Int) : fitAV (if (decide (x < 0) != decide (y < 0)) = true then -((x * y).natAbs : Int) else (x * y).natAbs) = fitAV (x * y) := by
  congr 1
  by_cases cx : x < 0 <;> by_cases cy : y < 0 <;> simp [cx, cy]
  · have := Int.mul_nonneg_of_nonpos_of_nonpos (Int.le_of_lt cx) (Int.le_of_lt cy); omega
  · have := Int.mul_nonpos_of_nonpos_of_nonneg (Int.le_of_lt cx) (Int.not_lt.1 cy); omega
  · have := Int.mul_nonpos_of_nonneg_of_nonpos (Int.not_lt.1 cx) (Int.le_of_lt cy); omega
  · have := Int.mul_nonneg (Int.not_lt.1 cx) (Int.not_lt.1 cy); omega
theorem imul_call (x y : Int) (hx : x.natAbs < B128) (hy : y.natAbs < B128) : ACall Tryz.prog 149 [intAV x, intAV y] Mem.emp fun v m => v = fitAV (x * y) ∧ m = Mem.emp := by
  have hb := both_ok x y hx hy
  have lx := dig_128 hx
  have ly := dig_128 hy
  have lm := dig_mul hx hy
  have hp := product_call (dig x.natAbs) (dig y.natAbs) (dig_lb _) (dig_lb _) (by omega) (by omega)
  rw [val_mul_dig] at hp
  have hr := result_call (decide (x < 0) != decide (y < 0)) (dig (x * y).natAbs) (dig_lb _) (by omega)
  rw [val_dig, mul_sign, bne] at hr
  unfold intAV at *
  refine acall_S Tryz.func149 rfl rfl 24 rfl (Nat.le_of_ble_eq_true rfl) ?_
  (repeat refine AW.seq ?_)
  refine AW.rgR [2,3] ?_
  simp [argsL]
  refine Fresh.intro fun b4 _ => ?_
  (repeat refine AW.seq ?_); refine AW.rg ?_; simp; refine CallK.val hb ?_; try simp
  refine AW.no ?_ rfl; refine AW.skip ?_; try simp
  (repeat refine AW.seq ?_)
  refine AW.rd [0, 1, 2, 3, 4, 5, 6, 7, 8, 9, 10, 11, 12, 13, 14] mix ?_
  simp; refine CallK.val hp ?_; try simp
  refine CallK.val hr ?_; rw [fitAV_eq]; simp
  refine AW.ret (ret_int (b := b4) (.bool (decide (fz (x * y) < 0))) (lim (dig (fz (x * y)).natAbs)) rfl rfl (by simp; exact ⟨rfl, rfl⟩) rfl ?_ ⟨?_, rfl⟩)
  · simp
  · rfl
end Go.Av
end
section
namespace Go.Av
open Go.Proofs
theorem valid1_ok {x : Int} (hx : x.natAbs < B128) : ACall Tryz.prog 88 [intAV x] Mem.emp fun v m => v = .bool true ∧ m = Mem.emp := by
  have := valid1_call (decide (x < 0)) (dig x.natAbs)
  rw [okInt_dig hx] at this
  exact this
theorem mul1_call (x y : Int) (hx : x.natAbs < B128) (hy : y.natAbs < B128) : ACall Tryz.prog 78 [intAV x, intAV y] Mem.emp fun v m => v = fitAV (x * y) ∧ m = Mem.emp := by
  have v1 := valid1_ok hx
  have v2 := valid1_ok hy
  have lx := dig_128 hx
  have ly := dig_128 hy
  have lm := dig_mul hx hy
  have hp := times_call (dig x.natAbs) (dig y.natAbs) (dig_lb _) (dig_lb _) (by omega) (by omega)
  rw [val_mul_dig] at hp
  have hr := fit_call (decide (x < 0) != decide (y < 0)) (dig (x * y).natAbs) (dig_lb _) (by omega)
  rw [val_dig, mul_sign, bne] at hr
  unfold intAV at *
  refine acall_S Tryz.func78 rfl rfl 28 rfl (Nat.le_of_ble_eq_true rfl) ?_
  (repeat refine AW.seq ?_)
  refine AW.rgR [2,3] ?_
  simp [argsL]
  refine Fresh.intro fun b4 _ => ?_
  (repeat refine AW.seq ?_); refine AW.rg ?_; simp; refine CallK.val v1 ?_; simp; refine CallK.val v2 ?_; simp; refine AW.no ?_ rfl; refine AW.skip ?_; try simp
  (repeat refine AW.seq ?_)
  refine AW.rd [0, 1, 2, 3, 4, 5, 6, 7, 8, 9, 10, 11, 12, 13, 14] mix ?_
  simp; refine CallK.val hp ?_; try simp
  refine CallK.val hr ?_; rw [fitAV_eq]; simp
  refine AW.ret (ret_int (b := b4) (.bool (decide (fz (x * y) < 0))) (lim (dig (fz (x * y)).natAbs)) rfl rfl (by simp; exact ⟨rfl, rfl⟩) rfl ?_ ⟨?_, rfl⟩)
  · simp
  · rfl
theorem order_ge {x y : Nat} : 0 ≤ ordI x y ↔ y ≤ x := by unfold ordI; split <;> (try split) <;> omega
theorem add1_call (x y : Int) (hx : x.natAbs < B128) (hy : y.natAbs < B128) : ACall Tryz.prog 111 [intAV x, intAV y] Mem.emp fun v m => v = fitAV (x + y) ∧ m = Mem.emp := by
  have v1 := valid1_ok hx
  have v2 := valid1_ok hy
  have lx := dig_128 hx
  have ly := dig_128 hy
  have s1 := dig_129 hx hy
  have s2 := dig_sub (b := y.natAbs) hx
  have s3 := dig_sub (b := x.natAbs) hy
  unfold intAV at *
  by_cases cx : x < 0
  · by_cases cy : y < 0
    · simp only [cx, cy, decide_true, decide_false] at v1 v2 ⊢
      refine acall_S Tryz.func111 rfl rfl 56 rfl (Nat.le_of_ble_eq_true rfl) ?_
      (repeat refine AW.seq ?_)
      refine AW.rgR [2,3] ?_
      simp [argsL]
      refine Fresh.intro fun b4 _ => ?_
      (repeat refine AW.seq ?_); refine AW.rg ?_; simp; refine CallK.val v1 ?_; simp; refine CallK.val v2 ?_; simp; refine AW.no ?_ rfl; refine AW.skip ?_; try simp
      (repeat refine AW.seq ?_); refine AW.rg ?_; simp; refine AW.yes ?_ rfl; (repeat refine AW.seq ?_)
      refine AW.rd [0, 1, 2, 3, 4, 5, 6, 7, 8, 9, 10, 11] mix ?_
      simp
      refine CallK.val (plus_call _ _ (dig_lb _) (dig_lb _) (by omega) (by omega)) ?_
      try simp
      rw [val_dig, val_dig]; try simp
      refine CallK.val (fit_call true _ (dig_lb _) (by omega)) ?_
      have e : fitAV (if true = true then -(val (dig (x.natAbs + y.natAbs)) : Int) else val (dig (x.natAbs + y.natAbs))) = fitAV (x + y) := by
        rw [val_dig, if_pos rfl]; congr 1; omega
      rw [e, fitAV_eq]; simp
      refine AW.ret (ret_int (b := b4) (.bool (decide (fz (x + y) < 0))) (lim (dig (fz (x + y)).natAbs)) rfl rfl (by simp; exact ⟨rfl, rfl⟩) rfl ?_ ⟨?_, rfl⟩)
      · simp
      · rfl
    · simp only [cx, cy, decide_true, decide_false] at v1 v2 ⊢
      refine acall_S Tryz.func111 rfl rfl 56 rfl (Nat.le_of_ble_eq_true rfl) ?_
      (repeat refine AW.seq ?_)
      refine AW.rgR [2,3] ?_
      simp [argsL]
      refine Fresh.intro fun b4 _ => ?_
      (repeat refine AW.seq ?_); refine AW.rg ?_; simp; refine CallK.val v1 ?_; simp; refine CallK.val v2 ?_; simp; refine AW.no ?_ rfl; refine AW.skip ?_; try simp
      (repeat refine AW.seq ?_); refine AW.rg ?_; simp; refine AW.no ?_ rfl; refine AW.skip ?_; try simp
      (repeat refine AW.seq ?_); refine AW.rg ?_; simp
      refine CallK.val (order_call _ _ (by omega) (by omega)) ?_
      simp [order_ge]; (repeat refine AW.seq ?_)
      refine AW.cs (fun h => ?_) (fun h => ?_) rfl <;> simp at h
      · (repeat refine AW.seq ?_)
        refine AW.rd [0, 1, 2, 3, 4, 5, 6, 7, 8, 9, 10, 11] mix ?_
        simp
        refine CallK.val (minus_call _ _ (by omega) (by omega)) ?_
        try simp
        try simp
        refine CallK.val (fit_call true _ (dig_lb _) (by omega)) ?_
        have e : fitAV (if true = true then -(val (dig (x.natAbs - y.natAbs)) : Int) else val (dig (x.natAbs - y.natAbs))) = fitAV (x + y) := by
          rw [val_dig, if_pos rfl]; congr 1; omega
        rw [e, fitAV_eq]; simp
        refine AW.ret (ret_int (b := b4) (.bool (decide (fz (x + y) < 0))) (lim (dig (fz (x + y)).natAbs)) rfl rfl (by simp; exact ⟨rfl, rfl⟩) rfl ?_ ⟨?_, rfl⟩)
        · simp
        · rfl
      · refine AW.skip ?_; try simp
        (repeat refine AW.seq ?_)
        refine AW.rd [0, 1, 2, 3, 4, 5, 6, 7, 8, 9, 10, 11] mix ?_
        simp
        refine CallK.val (minus_call _ _ (by omega) (by omega)) ?_
        try simp
        try simp
        refine CallK.val (fit_call false _ (dig_lb _) (by omega)) ?_
        have e : fitAV (if false = true then -(val (dig (y.natAbs - x.natAbs)) : Int) else val (dig (y.natAbs - x.natAbs))) = fitAV (x + y) := by
          rw [val_dig, if_neg (by simp)]; congr 1; omega
        rw [e, fitAV_eq]; simp
        refine AW.ret (ret_int (b := b4) (.bool (decide (fz (x + y) < 0))) (lim (dig (fz (x + y)).natAbs)) rfl rfl (by simp; exact ⟨rfl, rfl⟩) rfl ?_ ⟨?_, rfl⟩)
        · simp
        · rfl
  · by_cases cy : y < 0
    · simp only [cx, cy, decide_true, decide_false] at v1 v2 ⊢
      refine acall_S Tryz.func111 rfl rfl 56 rfl (Nat.le_of_ble_eq_true rfl) ?_
      (repeat refine AW.seq ?_)
      refine AW.rgR [2,3] ?_
      simp [argsL]
      refine Fresh.intro fun b4 _ => ?_
      (repeat refine AW.seq ?_); refine AW.rg ?_; simp; refine CallK.val v1 ?_; simp; refine CallK.val v2 ?_; simp; refine AW.no ?_ rfl; refine AW.skip ?_; try simp
      (repeat refine AW.seq ?_); refine AW.rg ?_; simp; refine AW.no ?_ rfl; refine AW.skip ?_; try simp
      (repeat refine AW.seq ?_); refine AW.rg ?_; simp
      refine CallK.val (order_call _ _ (by omega) (by omega)) ?_
      simp [order_ge]; (repeat refine AW.seq ?_)
      refine AW.cs (fun h => ?_) (fun h => ?_) rfl <;> simp at h
      · (repeat refine AW.seq ?_)
        refine AW.rd [0, 1, 2, 3, 4, 5, 6, 7, 8, 9, 10, 11] mix ?_
        simp
        refine CallK.val (minus_call _ _ (by omega) (by omega)) ?_
        try simp
        try simp
        refine CallK.val (fit_call false _ (dig_lb _) (by omega)) ?_
        have e : fitAV (if false = true then -(val (dig (x.natAbs - y.natAbs)) : Int) else val (dig (x.natAbs - y.natAbs))) = fitAV (x + y) := by
          rw [val_dig, if_neg (by simp)]; congr 1; omega
        rw [e, fitAV_eq]; simp
        refine AW.ret (ret_int (b := b4) (.bool (decide (fz (x + y) < 0))) (lim (dig (fz (x + y)).natAbs)) rfl rfl (by simp; exact ⟨rfl, rfl⟩) rfl ?_ ⟨?_, rfl⟩)
        · simp
        · rfl
      · refine AW.skip ?_; try simp
        (repeat refine AW.seq ?_)
        refine AW.rd [0, 1, 2, 3, 4, 5, 6, 7, 8, 9, 10, 11] mix ?_
        simp
        refine CallK.val (minus_call _ _ (by omega) (by omega)) ?_
        try simp
        try simp
        refine CallK.val (fit_call true _ (dig_lb _) (by omega)) ?_
        have e : fitAV (if true = true then -(val (dig (y.natAbs - x.natAbs)) : Int) else val (dig (y.natAbs - x.natAbs))) = fitAV (x + y) := by
          rw [val_dig, if_pos rfl]; congr 1; omega
        rw [e, fitAV_eq]; simp
        refine AW.ret (ret_int (b := b4) (.bool (decide (fz (x + y) < 0))) (lim (dig (fz (x + y)).natAbs)) rfl rfl (by simp; exact ⟨rfl, rfl⟩) rfl ?_ ⟨?_, rfl⟩)
        · simp
        · rfl
    · simp only [cx, cy, decide_true, decide_false] at v1 v2 ⊢
      refine acall_S Tryz.func111 rfl rfl 56 rfl (Nat.le_of_ble_eq_true rfl) ?_
      (repeat refine AW.seq ?_)
      refine AW.rgR [2,3] ?_
      simp [argsL]
      refine Fresh.intro fun b4 _ => ?_
      (repeat refine AW.seq ?_); refine AW.rg ?_; simp; refine CallK.val v1 ?_; simp; refine CallK.val v2 ?_; simp; refine AW.no ?_ rfl; refine AW.skip ?_; try simp
      (repeat refine AW.seq ?_); refine AW.rg ?_; simp; refine AW.yes ?_ rfl; (repeat refine AW.seq ?_)
      refine AW.rd [0, 1, 2, 3, 4, 5, 6, 7, 8, 9, 10, 11] mix ?_
      simp
      refine CallK.val (plus_call _ _ (dig_lb _) (dig_lb _) (by omega) (by omega)) ?_
      try simp
      rw [val_dig, val_dig]; try simp
      refine CallK.val (fit_call false _ (dig_lb _) (by omega)) ?_
      have e : fitAV (if false = true then -(val (dig (x.natAbs + y.natAbs)) : Int) else val (dig (x.natAbs + y.natAbs))) = fitAV (x + y) := by
        rw [val_dig, if_neg (by simp)]; congr 1; omega
      rw [e, fitAV_eq]; simp
      refine AW.ret (ret_int (b := b4) (.bool (decide (fz (x + y) < 0))) (lim (dig (fz (x + y)).natAbs)) rfl rfl (by simp; exact ⟨rfl, rfl⟩) rfl ?_ ⟨?_, rfl⟩)
      · simp
      · rfl
end Go.Av
end
section
namespace Go.Av
open Go.Proofs
theorem drop_set_val {l : List Nat} {i : Nat} (x : Nat) (h : i < l.length) : val ((l.set i x).drop i) = x + 4294967296 * val (l.drop (i + 1)) := by
  have e : (l.set i x).drop i = x :: l.drop (i + 1) := by
    rw [List.drop_eq_getElem_cons (by simpa using h), List.getElem_set_self, List.drop_set_of_lt (by omega)]
  rw [e, val]
/-- One step of a division by one limb. -/
theorem short_step (x d j : Nat) (hd : d ≠ 0) : x / 4294967296 ^ j / d = (x / 4294967296 ^ (j + 1) % d * 4294967296 + x / 4294967296 ^ j % 4294967296) / d + 4294967296 * (x / 4294967296 ^ (j + 1) / d) ∧
    x / 4294967296 ^ j % d = (x / 4294967296 ^ (j + 1) % d * 4294967296 + x / 4294967296 ^ j % 4294967296) % d := by
  rw [Nat.pow_succ, ← Nat.div_div_eq_div_mul]
  generalize x / 4294967296 ^ j = y
  have h1 : y = y / 4294967296 * 4294967296 + y % 4294967296 := by omega
  have h2 : y / 4294967296 = d * (y / 4294967296 / d) + y / 4294967296 % d := (Nat.div_add_mod _ _).symm
  generalize y / 4294967296 / d = q at *
  generalize y / 4294967296 % d = r at *
  generalize y % 4294967296 = l at *
  have h3 : y = r * 4294967296 + l + d * (q * 4294967296) := by
    rw [h1, h2, Nat.add_mul, Nat.mul_assoc]; omega
  rw [h3]; constructor
  · rw [Nat.add_mul_div_left _ _ (by omega)]; omega
  · rw [Nat.add_mul_mod_self_left]
theorem or_limb {r l : Nat} (hl : l < 4294967296) : r * 4294967296 ||| l = r * 4294967296 + l := by
  have := Nat.two_pow_add_eq_or_of_lt (i := 32) (b := l) hl r
  rw [show 2 ^ 32 = 4294967296 by rfl, Nat.mul_comm] at this
  exact this.symm
theorem small_call (x d : Nat) (hd : d ≠ 0) (hd2 : d < 4294967296) (lx : (dig x).length < 2^39) : ACall Tryz.prog 137 [lim (dig x), .int .u32 (d : Nat)] Mem.emp fun v m => v = .tup [lim (dig (x / d)), .int .u32 ((x % d : Nat) : Int)] ∧ m = Mem.emp := by
  refine acall_S Tryz.func137 rfl rfl 49 rfl (Nat.le_of_ble_eq_true rfl) ?_
  have hx := val_dig x
  have hb := dig_lb x
  have hnth := nth_dig x
  have hx2 : x < 4294967296 ^ (dig x).length := dig_length_le.1 (Nat.le_refl _)
  generalize ha : dig x = a at *
  have dm : d % 18446744073709551616 = d := by omega
  (repeat refine AW.seq ?_); refine AW.rg ?_; simp [-Int.natCast_emod, argsL]; (repeat refine AW.seq ?_); refine AW.rg ?_; simp [-Int.natCast_mul, -Int.natCast_emod]
  refine ⟨by omega, Fresh.intro fun bl _ => ?_⟩
  simp only [u32s_rep]
  (repeat refine AW.seq ?_); refine AW.rg ?_; simp [-Int.natCast_emod]
  refine AW.seq_ex (ι := List Nat) (fun o => [(6, .osl bl 1 0 o.length), (7, .int .u64 ((x % d : Nat) : Int))]) (fun o => Mem.emp.set bl ⟨87, 1, u32s o⟩) (fun o => Lb o ∧ val o = x / d ∧ o.length < 2^41) ?_ ?_
  · (repeat refine AW.seq ?_); refine AW.rg ?_; simp [-Int.natCast_emod]
    refine AW.block (AW.loopS (ι := Nat × List Nat) (fun z => [(0, lim a), (1, .int .u32 (d : Nat)), (6, .osl bl 1 0 a.length), (7, .int .u64 ((x / 4294967296 ^ (a.length - z.1) % d : Nat) : Int)), (15, .int .i64 a.length), (16, .int .i64 (z.1 : Nat))]) (fun z => Mem.emp.set bl ⟨87, 1, u32s z.2⟩)
      (fun z => z.1 ≤ a.length ∧ Lb z.2 ∧ z.2.length = a.length ∧ val (z.2.drop (a.length - z.1)) = x / 4294967296 ^ (a.length - z.1) / d) (fun z => a.length - z.1) (0, List.replicate a.length 0) ⟨by simp, Lb.rep _, by simp, ?_⟩ rfl ?_ ?_)
    · simp only [Nat.sub_zero]
      rw [List.drop_eq_nil_of_le (by simp), Nat.div_eq_of_lt hx2]; simp [val]
    · simp [Nat.div_eq_of_lt hx2]
    rintro ⟨k, o⟩ ⟨h1, h3, h4, h5⟩
    simp only at h1 h3 h4 h5; simp only; (repeat refine AW.seq ?_); refine AW.rg ?_; simp [-Int.natCast_ediv, -Int.natCast_emod, -Int.natCast_pow]; (repeat refine AW.seq ?_)
    refine AW.cs (fun hk => ?_) (fun hk => ?_) rfl <;> simp at hk
    · obtain ⟨i, hi⟩ : ∃ i, a.length - k = i + 1 := ⟨a.length - k - 1, by omega⟩
      have hi2 : a.length - (k + 1) = i := by omega
      have hw : IntKind.i64.wrap ((a.length : Int) - 1) = ((a.length - 1 : Nat) : Int) := by rw [wi' (by omega)]; omega
      have hw2 : IntKind.i64.wrap (((a.length - 1 : Nat) : Int) - (k : Int)) = (i : Int) := by rw [wi' (by omega)]; omega
      have hw3 : IntKind.i64.wrap ((k + 1 : Nat) : Int) = ((k + 1 : Nat) : Int) := wi (by omega)
      have i1 : i < a.length := by omega
      rw [hi] at h5 ⊢
      obtain ⟨st1, st2⟩ := short_step x d i hd
      have qn := hnth i
      have ql := hb.nth i
      rw [← qn] at st1 st2
      have qr : x / 4294967296 ^ (i + 1) % d < d := Nat.mod_lt _ (by omega)
      generalize x / 4294967296 ^ (i + 1) % d = r at *
      have m1 : r * 4294967296 % 18446744073709551616 = r * 4294967296 := by omega
      have m2 : nth a i % 18446744073709551616 = nth a i := by omega
      have m3 : bitw .or .u64 ((r * 4294967296 : Nat) : Int) (nth a i : Int) = ((r * 4294967296 + nth a i : Nat) : Int) := by
        rw [or_u64 (by omega) (by omega), or_limb ql]
      have m4 : (r * 4294967296 + nth a i) / d < 4294967296 := by
        refine Nat.div_lt_of_lt_mul ?_
        have : (r + 1) * 4294967296 ≤ d * 4294967296 := Nat.mul_le_mul_right _ qr
        omega
      have m5 : (r * 4294967296 + nth a i) / d % 18446744073709551616 = (r * 4294967296 + nth a i) / d := Nat.mod_eq_of_lt (Nat.lt_of_lt_of_le m4 (by omega))
      have m6 : (r * 4294967296 + nth a i) / d % 4294967296 = (r * 4294967296 + nth a i) / d := Nat.mod_eq_of_lt m4
      refine AW.skip ?_
      try simp [-Int.natCast_ediv, -Int.natCast_emod, -Int.natCast_pow]
      (repeat refine AW.seq ?_); refine AW.block ?_; (repeat refine AW.seq ?_); refine AW.rg ?_; simp [-Int.natCast_ediv, -Int.natCast_emod, -Int.natCast_pow]; (repeat refine AW.seq ?_); refine AW.rg ?_; simp [-Int.natCast_ediv, -Int.natCast_emod, -Int.natCast_pow, hw, hw2]; (repeat refine AW.seq ?_); refine AW.rg ?_; simp [-Int.natCast_add, -Int.natCast_mul, -Int.natCast_ediv, -Int.natCast_emod, -Int.natCast_pow, i1, m1, m2, m3]
      (repeat refine AW.seq ?_); refine AW.rg ?_; simp [-Int.natCast_ediv, -Int.natCast_emod, -Int.natCast_pow, -Int.natCast_add, -Int.natCast_mul, i1, h4, dm, hd, m5, m6]; (repeat refine AW.seq ?_); refine AW.rg ?_; simp [-Int.natCast_emod, -Int.natCast_add, -Int.natCast_ediv, -Int.natCast_mul, dm, hd]; (repeat refine AW.seq ?_); refine AW.rg ?_; simp [-Int.natCast_ediv, -Int.natCast_add, -Int.natCast_emod, -Int.natCast_mul, hw3]
      refine ⟨k + 1, _, ⟨by omega, h3.set i _ m4, by simpa using h4, ?_⟩, by omega, rfl, ?_, rfl⟩
      · rw [hi2, drop_set_val _ (by omega), h5, st1]
      · rw [hi2, st2]
    · refine AW.exit ?_
      try simp [-Int.natCast_ediv, -Int.natCast_emod, -Int.natCast_pow]
      have : a.length - k = 0 := by omega
      rw [this] at h5 ⊢
      simp at h5 ⊢
      exact ⟨o, ⟨h3, h5, by omega⟩, rfl, h4.symm⟩
  · rintro o ⟨h1, h2, h3⟩
    refine AW.toEmp [(6, lim o), (7, .int .u64 ((x % d : Nat) : Int))] (by simp [-Int.natCast_emod]; exact view_osl (e := 87) (by simp)) ?_
    (repeat refine AW.seq ?_); refine AW.rg ?_; simp [-Int.natCast_emod]
    refine CallK.val (trimmed_call o (by omega)) ?_
    rw [trimL_eq h1, h2]
    have : x % d < d := Nat.mod_lt _ (by omega)
    have m : x % d % 4294967296 = x % d := by omega
    simp [-Int.natCast_emod, m]
    exact AW.ret (ret_views [lim (dig (x / d)), .int .u32 ((x % d : Nat) : Int)] rfl (by simp [-Int.natCast_emod]) ⟨rfl, rfl⟩)
end Go.Av
end
section
namespace Go.Av
open Go.Proofs
theorem top_lt {r d l : Nat} (h1 : r < d) (h2 : d < 4294967296) (h3 : l < 4294967296) : r * 4294967296 + l < 18446744073709551616 := by omega
theorem mod64 {q : Nat} (h : q < 4294967296) : q % 18446744073709551616 = q := by omega
theorem short_call (x d : Nat) (hd : d ≠ 0) (hd2 : d < 4294967296) (lx : (dig x).length < 2^39) : ACall Tryz.prog 154 [lim (dig x), .int .u32 (d : Nat)] Mem.emp fun v m => v = .tup [lim (dig (x / d)), .int .u32 ((x % d : Nat) : Int)] ∧ m = Mem.emp := by
  refine acall_S Tryz.func154 rfl rfl 43 rfl (Nat.le_of_ble_eq_true rfl) ?_
  have hx := val_dig x
  have hb := dig_lb x
  have hnth := nth_dig x
  have hx2 : x < 4294967296 ^ (dig x).length := dig_length_le.1 (Nat.le_refl _)
  generalize ha : dig x = a at *
  have dm : d % 18446744073709551616 = d := by omega
  have hw0 : IntKind.i64.wrap ((a.length : Int) - 1) = (a.length : Int) - 1 := by rw [wi' (by omega)]
  (repeat refine AW.seq ?_); refine AW.rg ?_; simp [-Int.natCast_emod, argsL]; (repeat refine AW.seq ?_); refine AW.rg ?_; simp [-Int.natCast_mul, -Int.natCast_emod]
  refine ⟨by omega, Fresh.intro fun bl _ => ?_⟩
  simp only [u32s_rep]
  (repeat refine AW.seq ?_); refine AW.rg ?_; simp [-Int.natCast_emod]
  refine AW.seq_ex (ι := List Nat) (fun o => [(6, .osl bl 1 0 o.length), (7, .int .u64 ((x % d : Nat) : Int))]) (fun o => Mem.emp.set bl ⟨87, 1, u32s o⟩) (fun o => Lb o ∧ val o = x / d ∧ o.length < 2^41) ?_ ?_
  · (repeat refine AW.seq ?_); refine AW.rg ?_; simp [-Int.natCast_emod, hw0]
    refine AW.block (AW.loopS (ι := Nat × List Nat) (fun z => [(0, lim a), (1, .int .u32 (d : Nat)), (6, .osl bl 1 0 a.length), (7, .int .u64 ((x / 4294967296 ^ z.1 % d : Nat) : Int)), (8, .int .i64 ((z.1 : Int) - 1))]) (fun z => Mem.emp.set bl ⟨87, 1, u32s z.2⟩)
      (fun z => z.1 ≤ a.length ∧ Lb z.2 ∧ z.2.length = a.length ∧ val (z.2.drop z.1) = x / 4294967296 ^ z.1 / d) (fun z => z.1) (a.length, List.replicate a.length 0) ⟨by simp, Lb.rep _, by simp, ?_⟩ rfl ?_ ?_)
    · simp only []
      rw [List.drop_eq_nil_of_le (by simp), Nat.div_eq_of_lt hx2]; simp [val]
    · simp [Nat.div_eq_of_lt hx2]
    rintro ⟨k, o⟩ ⟨h1, h3, h4, h5⟩
    simp only at h1 h3 h4 h5; simp only
    rcases Nat.eq_zero_or_pos k with rfl | hk
    · (repeat refine AW.seq ?_); refine AW.rg ?_; simp [-Int.natCast_emod]; refine AW.no ?_ rfl
      refine AW.exit ?_
      try simp [-Int.natCast_emod]
      simp at h5
      exact ⟨o, ⟨h3, h5, by omega⟩, rfl, h4.symm⟩
    · obtain ⟨i, rfl⟩ : ∃ i, k = i + 1 := ⟨k - 1, by omega⟩
      have ei : ((i + 1 : Nat) : Int) - 1 = (i : Int) := by omega
      rw [ei]
      have hw2 : IntKind.i64.wrap ((i : Int) - 1) = (i : Int) - 1 := by rw [wi' (by omega)]
      have i1 : i < a.length := by omega
      obtain ⟨st1, st2⟩ := short_step x d i hd
      have qn := hnth i
      have ql := hb.nth i
      rw [← qn] at st1 st2
      have qr : x / 4294967296 ^ (i + 1) % d < d := Nat.mod_lt _ (by omega)
      generalize x / 4294967296 ^ (i + 1) % d = r at *
      have m1 : r * 4294967296 % 18446744073709551616 = r * 4294967296 := by omega
      have m2 : nth a i % 18446744073709551616 = nth a i := by omega
      have m3 : (r * 4294967296 + nth a i) % 18446744073709551616 = r * 4294967296 + nth a i := Nat.mod_eq_of_lt (top_lt qr hd2 ql)
      have m4 : (r * 4294967296 + nth a i) / d < 4294967296 := by
        refine Nat.div_lt_of_lt_mul ?_
        have : (r + 1) * 4294967296 ≤ d * 4294967296 := Nat.mul_le_mul_right _ qr
        omega
      have m5 : (r * 4294967296 + nth a i) / d % 18446744073709551616 = (r * 4294967296 + nth a i) / d := mod64 m4
      have m6 : (r * 4294967296 + nth a i) / d % 4294967296 = (r * 4294967296 + nth a i) / d := Nat.mod_eq_of_lt m4
      (repeat refine AW.seq ?_); refine AW.rg ?_; simp [-Int.natCast_ediv, -Int.natCast_emod, -Int.natCast_pow]; refine AW.yes ?_ rfl; refine AW.skip ?_
      try simp [-Int.natCast_ediv, -Int.natCast_emod, -Int.natCast_pow]
      (repeat refine AW.seq ?_); refine AW.block ?_; (repeat refine AW.seq ?_); refine AW.rg ?_; simp [-Int.natCast_add, -Int.natCast_mul, -Int.natCast_ediv, -Int.natCast_emod, -Int.natCast_pow, i1, m1, m2, m3]; (repeat refine AW.seq ?_); refine AW.rg ?_; simp [-Int.natCast_ediv, -Int.natCast_emod, -Int.natCast_pow, -Int.natCast_add, -Int.natCast_mul, i1, h4, dm, hd, m5, m6]; (repeat refine AW.seq ?_)
      refine AW.rg ?_; simp [-Int.natCast_emod, -Int.natCast_add, -Int.natCast_ediv, -Int.natCast_mul, dm, hd]; (repeat refine AW.seq ?_); refine AW.rg ?_; simp [-Int.natCast_ediv, -Int.natCast_add, -Int.natCast_emod, -Int.natCast_mul, hw2]
      refine ⟨i, _, ⟨by omega, h3.set i _ m4, by simpa using h4, ?_⟩, by omega, rfl, ?_, rfl⟩
      · rw [drop_set_val _ (by omega), h5, st1]
      · rw [st2]
  · rintro o ⟨h1, h2, h3⟩
    refine AW.toEmp [(6, lim o), (7, .int .u64 ((x % d : Nat) : Int))] (by simp [-Int.natCast_emod]; exact view_osl (e := 87) (by simp)) ?_
    (repeat refine AW.seq ?_); refine AW.rg ?_; simp [-Int.natCast_emod]
    refine CallK.val (trim_call o (by omega)) ?_
    rw [trimL_eq h1, h2]
    have : x % d < d := Nat.mod_lt _ (by omega)
    have m : x % d % 4294967296 = x % d := by omega
    simp [-Int.natCast_emod, m]
    exact AW.ret (ret_views [lim (dig (x / d)), .int .u32 ((x % d : Nat) : Int)] rfl (by simp [-Int.natCast_emod]) ⟨rfl, rfl⟩)
/-- A number of at most two limbs. -/
theorem word_call (x : Nat) (hx : x < 18446744073709551616) : ACall Tryz.prog 116 [lim (dig x)] Mem.emp fun v m => v = .int .u64 (x : Nat) ∧ m = Mem.emp := by
  refine acall_S Tryz.func116 rfl rfl 22 rfl (Nat.le_of_ble_eq_true rfl) ?_
  have lx : (dig x).length ≤ 2 := dig_length_le.2 (by omega)
  have hnth := nth_dig x
  have hb := dig_lb x
  have h2 := val_dig x
  generalize ha : dig x = a at *
  (repeat refine AW.seq ?_); refine AW.rg ?_; simp [argsL]; (repeat refine AW.seq ?_); refine AW.rg ?_; simp
  refine AW.seq_has [(3, .int .u64 (x : Nat))] Mem.emp ?_ ?_
  · (repeat refine AW.seq ?_); refine AW.rg ?_; simp
    refine AW.block (AW.loopS (ι := Nat) (fun k => [(0, lim a), (3, .int .u64 ((val (a.take k) : Nat) : Int)), (6, .int .i64 a.length), (7, .int .i64 (k : Nat))]) (fun _ => Mem.emp) (fun k => k ≤ a.length) (fun k => a.length - k) 0 (by simp) rfl (by simp [val]) ?_)
    rintro k h1
    (repeat refine AW.seq ?_); refine AW.rg ?_; simp; (repeat refine AW.seq ?_)
    refine AW.cs (fun hk => ?_) (fun hk => ?_) rfl <;> simp at hk
    · have hw1 : IntKind.i64.wrap ((32 * k : Nat) : Int) = ((32 * k : Nat) : Int) := wi (by omega)
      have hw2 : IntKind.i64.wrap ((k + 1 : Nat) : Int) = ((k + 1 : Nat) : Int) := wi (by omega)
      have q := hb.nth k
      have m1 : nth a k % 18446744073709551616 = nth a k := by omega
      have m0 : min (32 * k) 64 = 32 * k := by omega
      have v1 := val_take_lt hb k
      have v2 := val_take_getD a k
      have hp : 2 ^ (32 * k) = 4294967296 ^ k := (B_pow k).symm
      have m2 : nth a k * 2 ^ (32 * k) % 18446744073709551616 = nth a k * 2 ^ (32 * k) := by
        rcases (show k = 0 ∨ k = 1 by omega) with rfl | rfl
        · simp; omega
        · simp; omega
      have m3 : bitw .or .u64 ((val (a.take k) : Nat) : Int) ((nth a k * 2 ^ (32 * k) : Nat) : Int) = ((val (a.take (k + 1)) : Nat) : Int) := by
        have l1 : val (a.take k) < 18446744073709551616 := by
          rcases (show k = 0 ∨ k = 1 by omega) with rfl | rfl
          · simp [val]
          · simp at v1; omega
        have l2 : nth a k * 2 ^ (32 * k) < 18446744073709551616 := by
          rw [← m2]; exact Nat.mod_lt _ (by omega)
        rw [or_u64 l1 l2, v2, ← hp]
        have := Nat.two_pow_add_eq_or_of_lt (i := 32 * k) (b := val (a.take k)) (by rw [hp]; exact v1) (nth a k)
        rw [Nat.mul_comm (nth a k), Nat.or_comm, ← this, Nat.add_comm]
      refine AW.skip ?_; try simp
      (repeat refine AW.seq ?_); refine AW.block ?_; (repeat refine AW.seq ?_); refine AW.rg ?_; simp; (repeat refine AW.seq ?_); refine AW.rg ?_; simp [-Int.natCast_mul, hk, m1, hw1, m0, m2, m3]; (repeat refine AW.seq ?_); refine AW.rg ?_; simp [-Int.natCast_add, -Int.natCast_mul, -Int.natCast_pow, hw2]
      exact ⟨k + 1, by omega, by omega, rfl, rfl⟩
    · refine AW.exit ?_
      try simp
      rw [val_take_of_le a k (by omega), h2]
  · (repeat refine AW.seq ?_); refine AW.rg ?_; simp
    exact AW.ret (ret_emp rfl _ (.same _) ⟨by simp, rfl⟩)
end Go.Av
end
section
namespace Go.Av
open Go.Proofs
theorem top_val {a : List Nat} (h : 0 < a.length) : val a = val (a.take (a.length - 1)) + 4294967296 ^ (a.length - 1) * nth a (a.length - 1) := by
  rw [← val_take_getD, show a.length - 1 + 1 = a.length by omega, List.take_length]
theorem digits_call (x : Nat) (lx : (dig x).length < 2^39) : ACall Tryz.prog 155 [lim (dig x)] Mem.emp fun v m => (∃ n : Nat, n ≤ 32 * (dig x).length ∧ x < 2 ^ n ∧ v = .int .i64 (n : Nat)) ∧ m = Mem.emp := by
  refine acall_S Tryz.func155 rfl rfl 25 rfl (Nat.le_of_ble_eq_true rfl) ?_
  have hx := val_dig x
  have hb := dig_lb x
  generalize ha : dig x = a at *
  (repeat refine AW.seq ?_); refine AW.rg ?_; simp [argsL]; (repeat refine AW.seq ?_); refine AW.rg ?_; simp; (repeat refine AW.seq ?_)
  refine AW.cs (fun h => ?_) (fun h => ?_) rfl <;> simp at h
  · (repeat refine AW.seq ?_); refine AW.rg ?_; simp
    have : x = 0 := by rw [← hx, h]; rfl
    exact AW.ret (ret_views [.int .i64 0] rfl (by simp) ⟨⟨0, by omega, by omega, rfl⟩, rfl⟩)
  · have hl : 0 < a.length := by
      rcases a with _ | _
      · simp at h
      · simp
    have hw : IntKind.i64.wrap ((a.length : Int) - 1) = ((a.length - 1 : Nat) : Int) := by rw [wi' (by omega)]; omega
    have hw1 : IntKind.i64.wrap ((32 * (a.length - 1) : Nat) : Int) = ((32 * (a.length - 1) : Nat) : Int) := wi (by omega)
    have hl1 : a.length - 1 < a.length := by omega
    have ht := top_val hl
    have q := hb.nth (a.length - 1)
    have hlow := val_take_lt hb (a.length - 1)
    refine AW.skip ?_; try simp
    (repeat refine AW.seq ?_); refine AW.rg ?_; simp [-Int.natCast_mul, hw, hw1]
    refine AW.seq_ex (ι := Nat) (fun n => [(3, .int .i64 (n : Nat))]) (fun _ => Mem.emp) (fun n => n ≤ 32 * a.length ∧ x < 2 ^ n) ?_ ?_
    · (repeat refine AW.seq ?_); refine AW.rg ?_; simp [-Int.natCast_mul, hw, hl1]
      generalize hT : nth a (a.length - 1) = T at *
      refine AW.block (AW.loopS (ι := Nat) (fun j => [(3, .int .i64 (32 * (a.length - 1) + j : Nat)), (4, .int .u32 (T / 2 ^ j : Nat))]) (fun _ => Mem.emp) (fun j => j ≤ 32) (fun j => 32 - j) 0 (by simp) rfl (by simp [-Int.natCast_mul]) ?_)
      rintro j hj
      (repeat refine AW.seq ?_); refine AW.rg ?_; simp [-Int.natCast_ediv, -Int.natCast_pow, -Int.natCast_add, -Int.natCast_mul]; (repeat refine AW.seq ?_)
      refine AW.cs (fun h1 => ?_) (fun h1 => ?_) rfl <;> simp at h1
      · have hj2 : j < 32 := by
          rcases Nat.lt_or_ge j 32 with h2 | h2
          · exact h2
          · have : j = 32 := by omega
            subst this
            have := h1.2
            omega
        have hw2 : IntKind.i64.wrap ((32 * (a.length - 1) + j + 1 : Nat) : Int) = ((32 * (a.length - 1) + j + 1 : Nat) : Int) := wi (by omega)
        have hT2 : T / 2 ^ j ≤ T := Nat.div_le_self _ _
        have m1 : T / 2 ^ j / 2 % 4294967296 = T / 2 ^ (j + 1) := by
          rw [Nat.pow_succ, ← Nat.div_div_eq_div_mul]
          exact Nat.mod_eq_of_lt (Nat.lt_of_le_of_lt (Nat.div_le_self _ _) (by omega))
        refine AW.skip ?_
        try simp [-Int.natCast_ediv, -Int.natCast_pow, -Int.natCast_add, -Int.natCast_mul]
        (repeat refine AW.seq ?_); refine AW.block ?_; (repeat refine AW.seq ?_); refine AW.rg ?_; simp [-Int.natCast_ediv, -Int.natCast_pow, -Int.natCast_add, -Int.natCast_mul, hw2]; (repeat refine AW.seq ?_); refine AW.rg ?_; simp [-Int.natCast_ediv, -Int.natCast_pow, -Int.natCast_add, -Int.natCast_mul, m1]
        exact ⟨j + 1, by omega, by omega, by omega, rfl⟩
      · refine AW.exit ?_
        try simp [-Int.natCast_ediv, -Int.natCast_pow, -Int.natCast_add, -Int.natCast_mul]
        refine ⟨by omega, ?_⟩
        have h2 : T < 2 ^ j := by
          rcases Nat.lt_or_ge T (2 ^ j) with h3 | h3
          · exact h3
          · exact absurd h3 (by have := h1 (Nat.pow_pos (by omega)); omega)
        rw [Nat.pow_add, ← B_pow, ← hx, ht]
        have h3 : 4294967296 ^ (a.length - 1) * (T + 1) ≤ 4294967296 ^ (a.length - 1) * 2 ^ j := Nat.mul_le_mul_left _ h2
        rw [Nat.mul_add] at h3
        omega
    · rintro n ⟨h1, h2⟩
      (repeat refine AW.seq ?_); refine AW.rg ?_; simp
      exact AW.ret (ret_views' [.int .i64 (n : Nat)] rfl (by simp) ⟨⟨n, h1, h2, rfl⟩, rfl⟩)
end Go.Av
end
section
namespace Go.Av
open Go.Proofs
theorem double_call (x c0 : Nat) (hc0 : c0 < 2) (lx : (dig x).length < 2^39) : ACall Tryz.prog 156 [lim (dig x), .int .u32 (c0 : Nat)] Mem.emp fun v m => v = lim (dig (2 * x + c0)) ∧ m = Mem.emp := by
  refine acall_S Tryz.func156 rfl rfl 39 rfl (Nat.le_of_ble_eq_true rfl) ?_
  have hx := val_dig x
  have hb := dig_lb x
  generalize ha : dig x = a at *
  have hw : IntKind.i64.wrap ((a.length + 1 : Nat) : Int) = ((a.length + 1 : Nat) : Int) := wi (by omega)
  (repeat refine AW.seq ?_); refine AW.rg ?_; simp [argsL]; (repeat refine AW.seq ?_); refine AW.rg ?_; simp [-Int.natCast_mul, -Int.natCast_add, hw]
  refine ⟨by omega, Fresh.intro fun bl _ => ?_⟩
  simp only [u32s_rep]
  refine AW.seq_ex (ι := Nat × List Nat) (fun z => [(0, lim a), (1, .int .u32 (z.1 : Nat)), (5, .osl bl 1 0 (a.length + 1))]) (fun z => Mem.emp.set bl ⟨87, 1, u32s z.2⟩) (fun z => z.1 < 2 ∧ Lb z.2 ∧ z.2.length = a.length + 1 ∧ val (z.2.take a.length) + 4294967296 ^ a.length * z.1 = 2 * x + c0) ?_ ?_
  · (repeat refine AW.seq ?_); refine AW.rg ?_; simp [-Int.natCast_add]
    refine AW.block (AW.loopS (ι := Nat × Nat × List Nat) (fun z => [(0, lim a), (1, .int .u32 (z.2.1 : Nat)), (5, .osl bl 1 0 (a.length + 1)), (6, .int .i64 (z.1 : Nat))]) (fun z => Mem.emp.set bl ⟨87, 1, u32s z.2.2⟩)
      (fun z => z.1 ≤ a.length ∧ z.2.1 < 2 ∧ Lb z.2.2 ∧ z.2.2.length = a.length + 1 ∧ val (z.2.2.take z.1) + 4294967296 ^ z.1 * z.2.1 = 2 * val (a.take z.1) + c0) (fun z => a.length - z.1) (0, c0, List.replicate (a.length + 1) 0) ⟨by simp, hc0, Lb.rep _, by simp, by simp [val]⟩ rfl (by simp [-Int.natCast_add]) ?_)
    rintro ⟨i, c, o⟩ ⟨h1, h2, h3, h4, h5⟩
    simp only at h1 h2 h3 h4 h5; simp only; (repeat refine AW.seq ?_); refine AW.rg ?_; simp; (repeat refine AW.seq ?_)
    refine AW.cs (fun hi => ?_) (fun hi => ?_) rfl <;> simp at hi
    · have q := hb.nth i
      have hw2 : IntKind.i64.wrap ((i + 1 : Nat) : Int) = ((i + 1 : Nat) : Int) := wi (by omega)
      have hi2 : i < a.length + 1 := by omega
      have m1 : (nth a i * 2 % 4294967296 + c) % 4294967296 = (nth a i * 2 + c) % 4294967296 := by omega
      have m2 : nth a i / 2147483648 < 2 := by omega
      refine AW.skip ?_; try simp
      (repeat refine AW.seq ?_); refine AW.block ?_; (repeat refine AW.seq ?_); refine AW.rg ?_; simp [-Int.natCast_add, -Int.natCast_emod, -Int.natCast_mul, hi, hi2, h4, m1]; (repeat refine AW.seq ?_); refine AW.rg ?_; simp [-Int.natCast_add, -Int.natCast_emod, -Int.natCast_mul, hi]
      have e : Int.fdiv (nth a i : Int) 2147483648 = ((nth a i / 2147483648 : Nat) : Int) := by
        rw [Int.fdiv_eq_ediv_of_nonneg _ (by omega)]; rfl
      (repeat refine AW.seq ?_); refine AW.rg ?_; simp [-Int.natCast_add, -Int.natCast_ediv, -Int.natCast_emod, -Int.natCast_mul, hw2, e]
      refine ⟨i + 1, _, _, ⟨by omega, m2, h3.set i _ (Nat.mod_lt (nth a i * 2 + c) (by omega)), by simpa using h4, ?_⟩, by omega, rfl, rfl, rfl⟩
      rw [take_set_succ _ _ _ (by omega), val_take_getD, Nat.pow_succ]
      have s1 : nth a i / 2147483648 = (nth a i * 2 + c) / 4294967296 := by omega
      rw [s1]
      have cs := carry_step (4294967296 ^ i) (nth a i * 2 + c)
      have e2 : 4294967296 ^ i * (nth a i * 2 + c) = 2 * (4294967296 ^ i * nth a i) + 4294967296 ^ i * c := by
        rw [Nat.mul_add, ← Nat.mul_assoc, Nat.mul_comm (4294967296 ^ i * nth a i) 2]
      rw [e2] at cs
      omega
    · refine AW.exit ?_
      try simp
      have : i = a.length := by omega
      subst this
      rw [val_take_of_le a _ (by omega), hx] at h5
      exact ⟨c, o, ⟨h2, h3, h4, h5⟩, rfl, rfl⟩
  · rintro ⟨c, o⟩ ⟨h2, h3, h4, h5⟩
    simp only at h2 h3 h4 h5; simp only; (repeat refine AW.seq ?_); refine AW.rg ?_; simp [-Int.natCast_add, h4]
    have hv2 : val (o.set a.length c) = 2 * x + c0 := by
      rw [← val_take_of_le (o.set a.length c) (a.length + 1) (by simp [h4]), take_set_succ _ _ _ (by omega), h5]
    refine AW.toEmp [(5, lim (o.set a.length c))] ?_ ?_
    · simp
      have := view_osl (m := Mem.emp.set bl ⟨87, 1, u32s (o.set a.length c)⟩) (b := bl) (e := 87) (l := o.set a.length c) (by simp)
      rw [List.length_set, h4] at this
      exact this
    (repeat refine AW.seq ?_); refine AW.rg ?_; simp
    refine CallK.val (trim_call _ (by simp [h4]; omega)) ?_
    rw [trimL_eq (h3.set _ _ (by omega)), hv2]; try simp
    exact AW.ret (ret_emp rfl _ (.same _) ⟨by simp, rfl⟩)
end Go.Av
end
section
namespace Go.Av
theorem val_split (l : List Nat) (i : Nat) (h : i < l.length) : val l = val (l.take i) + 4294967296 ^ i * (nth l i + 4294967296 * val (l.drop (i + 1))) := by
  have e : l = l.take i ++ (nth l i :: l.drop (i + 1)) := by
    rw [nth_eq h, ← List.drop_eq_getElem_cons h, List.take_append_drop]
  have h2 : (l.take i).length = i := by rw [List.length_take]; omega
  calc val l = val (l.take i ++ (nth l i :: l.drop (i + 1))) := by rw [← e]
    _ = _ := by rw [val_append, h2, val]
theorem val_set_add (l : List Nat) (i z : Nat) (h : i < l.length) : val (l.set i (nth l i + z)) = val l + 4294967296 ^ i * z := by
  have h1 := val_split l i h
  have h2 := val_split (l.set i (nth l i + z)) i (by simpa using h)
  rw [nth_set_eq _ h, List.take_set_of_le (by omega), List.drop_set_of_lt (by omega)] at h2
  rw [h2, h1]; rw [Nat.mul_add, Nat.mul_add, Nat.mul_add]; omega
/-- A limb of a multiple of a power of 2. -/
theorem limb_room {v i : Nat} (h : 2 ^ (i + 1) ∣ v) : v / 4294967296 ^ (i / 32) % 4294967296 + 2 ^ (i % 32) < 4294967296 := by
  obtain ⟨c, rfl⟩ := h
  have hr : i % 32 < 32 := Nat.mod_lt _ (by omega)
  have e : 2 ^ (i + 1) = 4294967296 ^ (i / 32) * 2 ^ (i % 32 + 1) := by
    rw [B_pow, ← Nat.pow_add]; congr 1; omega
  rw [e, Nat.mul_assoc, Nat.mul_div_cancel_left _ (Nat.pow_pos (by omega))]
  generalize i % 32 = r at *
  have e2 : (4294967296 : Nat) = 2 ^ (r + 1) * 2 ^ (31 - r) := by
    rw [← Nat.pow_add, show r + 1 + (31 - r) = 32 by omega]
  have e3 : 2 ^ (r + 1) * c % 4294967296 = 2 ^ (r + 1) * (c % 2 ^ (31 - r)) := by
    conv => lhs; rw [e2]
    rw [Nat.mul_mod_mul_left]
  rw [e3]
  have h1 : c % 2 ^ (31 - r) + 1 ≤ 2 ^ (31 - r) := Nat.mod_lt _ (Nat.pow_pos (by omega))
  have h2 : 2 ^ (r + 1) * (c % 2 ^ (31 - r) + 1) ≤ 2 ^ (r + 1) * 2 ^ (31 - r) := Nat.mul_le_mul_left _ h1
  rw [← e2, Nat.mul_add] at h2
  have h3 : 2 ^ r < 2 ^ (r + 1) := by rw [Nat.pow_succ]; have := Nat.pow_pos (n := r) (show 0 < 2 by omega); omega
  omega
/-- One step of the division: a further bit. -/
theorem bit_step (x y j : Nat) (hy : 0 < y) : x / 2 ^ j = 2 * (x / 2 ^ (j + 1)) + x / 2 ^ j % 2 := by
  rw [Nat.pow_succ, ← Nat.div_div_eq_div_mul]; omega
theorem div_step {h y b : Nat} (hy : 0 < y) : (2 * h + b) / y = 2 * (h / y) + (2 * (h % y) + b) / y ∧ (2 * h + b) % y = (2 * (h % y) + b) % y := by
  have e : 2 * h + b = (2 * (h % y) + b) + y * (2 * (h / y)) := by
    have := Nat.div_add_mod h y
    have e2 : y * (2 * (h / y)) = 2 * (y * (h / y)) := by ac_rfl
    omega
  rw [e, Nat.add_mul_div_left _ _ hy, Nat.add_mul_mod_self_left]; omega
end Go.Av
end
section
namespace Go.Av
open Go.Proofs
theorem divide1_call (x y : Nat) (hy : y ≠ 0) (lx : (dig x).length < 2^30) (ly : (dig y).length < 2^30) : ACall Tryz.prog 135 [lim (dig x), lim (dig y)] Mem.emp fun v m => v = .tup [lim (dig (x / y)), lim (dig (x % y))] ∧ m = Mem.emp := by
  refine acall_S Tryz.func135 rfl rfl 64 rfl (Nat.le_of_ble_eq_true rfl) ?_
  have hdy := nth_dig y
  have hby := dig_lb y
  have hvy := val_dig y
  (repeat refine AW.seq ?_); refine AW.rg ?_; simp [argsL]; (repeat refine AW.seq ?_); refine AW.rg ?_; simp; (repeat refine AW.seq ?_)
  refine AW.cs (fun h => ?_) (fun h => ?_) rfl <;> simp at h
  · have h0 : nth (dig y) 0 = y := by
      rcases hd : dig y with _ | ⟨p, _ | ⟨q, l⟩⟩
      · rw [hd] at h; cases h
      · rw [hd] at hvy; simp [val] at hvy; simp [nth, hvy]
      · rw [hd] at h; simp at h
    have y1 : y < 4294967296 := by rw [← h0]; exact hby.nth 0
    have hr : x % y < y := Nat.mod_lt _ (by omega)
    (repeat refine AW.seq ?_); refine AW.rg ?_; simp [h, h0]
    refine CallK.val (short_call x y hy y1 (by omega)) ?_
    try simp [-Int.natCast_emod]
    (repeat refine AW.seq ?_)
    refine AW.rgR [24] ?_
    simp [-Int.natCast_emod]
    refine CallK.val (trim_call [x % y] (by simp)) ?_
    have e : trimL [x % y] = dig (x % y) := by
      rw [trimL_eq (fun z hz => by simp at hz; omega)]; simp [val]
    rw [e]
    try simp [-Int.natCast_emod]
    exact AW.ret (ret_views [lim (dig (x / y)), lim (dig (x % y))] rfl (by simp [-Int.natCast_emod]) ⟨rfl, rfl⟩)
  · refine AW.skip ?_; try simp
    (repeat refine AW.seq ?_); refine AW.rg ?_; simp
    refine AW.toEmp [(0, lim (dig x)), (1, lim (dig y)), (8, lim [])] (by simp) ?_
    (repeat refine AW.seq ?_); refine AW.rg ?_; simp [-Int.natCast_mul]
    refine ⟨by omega, Fresh.intro fun bl _ => ?_⟩
    simp only [u32s_rep]
    generalize hL : (dig x).length = L at *
    refine AW.seq_ex (ι := List Nat) (fun o => [(8, lim (dig (x % y))), (9, .osl bl 1 0 o.length)]) (fun o => Mem.emp.set bl ⟨87, 1, u32s o⟩) (fun o => Lb o ∧ val o = x / y ∧ o.length < 2^41) ?_ ?_
    · (repeat refine AW.seq ?_); refine AW.rg ?_; simp
      refine CallK.pure (digits_call x (by omega)) ?_
      rintro _ ⟨n, n1, n2, rfl⟩
      rw [hL] at n1
      have hw : IntKind.i64.wrap ((n : Int) - 1) = (n : Int) - 1 := by rw [wi' (by omega)]
      simp [hw]
      have hz : x / 2 ^ n = 0 := Nat.div_eq_of_lt n2
      refine AW.block (AW.loopS (ι := Nat × List Nat) (fun z => [(0, lim (dig x)), (1, lim (dig y)), (8, lim (dig (x / 2 ^ z.1 % y))), (9, .osl bl 1 0 L), (10, .int .i64 ((z.1 : Int) - 1))]) (fun z => Mem.emp.set bl ⟨87, 1, u32s z.2⟩)
        (fun z => z.1 ≤ 32 * L ∧ Lb z.2 ∧ z.2.length = L ∧ val z.2 = x / 2 ^ z.1 / y * 2 ^ z.1) (fun z => z.1) (n, List.replicate L 0) ⟨n1, Lb.rep _, by simp, by simp [hz, val_rep]⟩ rfl (by simp [hz, dig_zero]) ?_)
      rintro ⟨j, o⟩ ⟨h1, h3, h4, h5⟩
      simp only at h1 h3 h4 h5; simp only
      rcases Nat.eq_zero_or_pos j with rfl | hj
      · (repeat refine AW.seq ?_); refine AW.rg ?_; simp; refine AW.no ?_ rfl
        refine AW.exit ?_
        try simp
        simp at h5
        exact ⟨o, ⟨h3, h5, by omega⟩, rfl, h4.symm⟩
      · obtain ⟨i, rfl⟩ : ∃ i, j = i + 1 := ⟨j - 1, by omega⟩
        have ei : ((i + 1 : Nat) : Int) - 1 = (i : Int) := by omega
        rw [ei]
        have hyp : 0 < y := by omega
        have hH := bit_step x y i hyp
        obtain ⟨d1, d2⟩ := div_step (h := x / 2 ^ (i + 1)) (b := x / 2 ^ i % 2) hyp
        rw [← hH] at d1 d2
        have hb2 : x / 2 ^ i % 2 < 2 := Nat.mod_lt _ (by omega)
        have hr1 : x / 2 ^ (i + 1) % y < y := Nat.mod_lt _ hyp
        have ldig : ∀ z, z < 2 * y → (dig z).length < 2 ^ 31 := by
          intro z hz2
          have q1 : y < 4294967296 ^ (dig y).length := dig_length_le.1 (Nat.le_refl _)
          have q2 : (dig z).length ≤ (dig y).length + 1 := by
            rw [dig_length_le, Nat.pow_succ]; omega
          omega
        have hw2 : IntKind.i64.wrap ((i : Int) - 1) = (i : Int) - 1 := by rw [wi' (by omega)]
        generalize hb : x / 2 ^ i % 2 = b at *
        generalize hr : x / 2 ^ (i + 1) % y = r at *
        have l1 := ldig r (by omega)
        have l2 := ldig (2 * r + b) (by omega)
        (repeat refine AW.seq ?_); refine AW.rg ?_; simp; refine AW.yes ?_ rfl; refine AW.skip ?_; try simp
        (repeat refine AW.seq ?_); refine AW.block ?_
        have hbit := bit_call x i (by omega) (by omega)
        rw [hb] at hbit
        (repeat refine AW.seq ?_); refine AW.rg ?_; simp; refine CallK.val hbit ?_; try simp
        refine CallK.val (double_call r b hb2 (by omega)) ?_
        try simp
        (repeat refine AW.seq ?_); refine AW.rg ?_; simp
        refine CallK.val (order_call (2 * r + b) y (by omega) (by omega)) ?_
        simp [order_ge]; (repeat refine AW.seq ?_)
        refine AW.cs (fun hge => ?_) (fun hge => ?_) rfl <;> simp at hge
        · have e1 : (2 * r + b) / y = 1 := Nat.div_eq_of_lt_le (by omega) (by omega)
          have e2 : (2 * r + b) % y = 2 * r + b - y := by
            rw [Nat.mod_eq_sub_mod hge, Nat.mod_eq_of_lt (by omega)]
          rw [e1] at d1
          rw [e2] at d2
          have hq : i / 32 < L := by omega
          have hwq : IntKind.i64.wrap ((i / 32 : Nat) : Int) = ((i / 32 : Nat) : Int) := wi (by omega)
          have hm : min (i % 32) 32 = i % 32 := by omega
          have hp2 : (2 : Int) ^ (i % 32) = ((2 ^ (i % 32) : Nat) : Int) := by simp [Int.natCast_pow]
          have hroom : nth o (i / 32) + 2 ^ (i % 32) < 4294967296 := by
            rw [nth_val h3]
            exact limb_room ⟨_, by rw [h5, Nat.mul_comm]⟩
          have m1 : 2 ^ (i % 32) % 4294967296 = 2 ^ (i % 32) := Nat.mod_eq_of_lt (by omega)
          have m2 : (nth o (i / 32) + 2 ^ (i % 32)) % 4294967296 = nth o (i / 32) + 2 ^ (i % 32) := Nat.mod_eq_of_lt hroom
          (repeat refine AW.seq ?_); refine AW.rg ?_; simp
          refine CallK.val (minus_call (2 * r + b) y hge (by omega)) ?_
          try simp
          (repeat refine AW.seq ?_)
          refine AW.rdA bl [0, 1, 2, 3, 4, 5, 6, 7, 8, 9, 10, 11, 12, 13] mix (by simp) ?_
          simp [-Int.natCast_add, -Int.natCast_pow, -Int.natCast_emod, -Int.natCast_ediv, hq, hwq, hm, hp2, m1, m2, h4]; (repeat refine AW.seq ?_); refine AW.rg ?_; simp [-Int.natCast_ediv, -Int.natCast_add, -Int.natCast_emod, -Int.natCast_pow, hw2]
          refine ⟨i, _, ⟨by omega, h3.set _ _ hroom, by simpa using h4, ?_⟩, by omega, rfl, by rw [d2], rfl⟩
          generalize x / 2 ^ (i + 1) / y = Q at *
          rw [val_set_add _ _ _ (by omega), h5, d1, Nat.add_mul, B_pow, ← Nat.pow_add, Nat.div_add_mod, Nat.pow_succ]
          have : 2 * Q * 2 ^ i = Q * (2 ^ i * 2) := by ac_rfl
          omega
        · have e1 : (2 * r + b) / y = 0 := Nat.div_eq_of_lt (by omega)
          have e2 : (2 * r + b) % y = 2 * r + b := Nat.mod_eq_of_lt (by omega)
          rw [e1] at d1
          rw [e2] at d2
          refine AW.skip ?_; try simp
          (repeat refine AW.seq ?_); refine AW.rg ?_; simp [hw2]
          refine ⟨i, _, ⟨by omega, h3, h4, ?_⟩, by omega, rfl, by rw [d2], rfl⟩
          generalize x / 2 ^ (i + 1) / y = Q at *
          rw [h5, d1, Nat.pow_succ, Nat.add_zero]
          ac_rfl
    · rintro o ⟨h1, h2, h3⟩
      refine AW.toEmp [(8, lim (dig (x % y))), (9, lim o)] (by simp; exact view_osl (e := 87) (by simp)) ?_
      (repeat refine AW.seq ?_); refine AW.rg ?_; simp
      refine CallK.val (trim_call o (by omega)) ?_
      rw [trimL_eq h1, h2]; try simp
      exact AW.ret (ret_views [lim (dig (x / y)), lim (dig (x % y))] rfl (by simp) ⟨rfl, rfl⟩)
end Go.Av
end
section
namespace Go.Av
/-- Two limbs and the rest. -/
theorem est_down {B q v1 v2 r top u2 P vl ul V U : Nat} (hV : V = (v1 * B + v2) * P + vl) (hU : U = (top * B + u2) * P + ul) (hul : ul < P)
    (hq : q * v1 + r = top) (hc : r * B + u2 < q * v2) : U < q * V := by
  have h1 : top * B + u2 < q * (v1 * B + v2) := by
    rw [← hq, Nat.mul_add, ← Nat.mul_assoc, Nat.add_mul]; omega
  have h2 : (top * B + u2 + 1) * P ≤ q * (v1 * B + v2) * P := Nat.mul_le_mul_right _ (Nat.succ_le_of_lt h1)
  have h3 : q * V = q * (v1 * B + v2) * P + q * vl := by rw [hV, Nat.mul_add, Nat.mul_assoc]
  rw [Nat.add_mul, Nat.one_mul] at h2
  omega
theorem est_end {B q v1 v2 r top u2 P vl ul V U : Nat} (hV : V = (v1 * B + v2) * P + vl) (hU : U = (top * B + u2) * P + ul) (hvl : vl < P) (h1 : 1 ≤ v1)
    (hq : q * v1 + r = top) (hb : q < B) (hc : q * v2 ≤ r * B + u2) : q * V < U + V := by
  have g1 : q * (v1 * B + v2) ≤ top * B + u2 := by
    rw [← hq, Nat.mul_add, ← Nat.mul_assoc, Nat.add_mul]; omega
  have g2 : q * (v1 * B + v2) * P ≤ (top * B + u2) * P := Nat.mul_le_mul_right _ g1
  have g3 : q * V = q * (v1 * B + v2) * P + q * vl := by rw [hV, Nat.mul_add, Nat.mul_assoc]
  have g4 : 1 * B * P ≤ (v1 * B + v2) * P := Nat.mul_le_mul_right _ (Nat.le_trans (Nat.mul_le_mul_right B h1) (Nat.le_add_right _ _))
  rw [Nat.one_mul] at g4
  have g5 : q * vl ≤ q * P := Nat.mul_le_mul_left _ (by omega)
  have g6 : (q + 1) * P ≤ B * P := Nat.mul_le_mul_right _ (Nat.succ_le_of_lt hb)
  rw [Nat.add_mul, Nat.one_mul] at g6
  have g7 : 0 < P := by omega
  omega
theorem est_break {B q v1 v2 r top u2 : Nat} (hq : q * v1 + r = top) (ht : top < v1 * B + B) (hr : B ≤ r) (h2 : v2 < B) : q < B ∧ q * v2 ≤ r * B + u2 := by
  have h3 : q * v1 < B * v1 := by
    rw [Nat.mul_comm B]; omega
  have h4 : q < B := Nat.lt_of_mul_lt_mul_right h3
  refine ⟨h4, ?_⟩
  have h5 : q * v2 ≤ B * B := Nat.mul_le_mul (by omega) (by omega)
  have h6 : B * B ≤ r * B := Nat.mul_le_mul_right _ hr
  omega
/-- The parts of a number. -/
theorem two_limbs (V k : Nat) : V / 4294967296 ^ k = V / 4294967296 ^ (k + 1) * 4294967296 + V / 4294967296 ^ k % 4294967296 := by
  rw [Nat.pow_succ, ← Nat.div_div_eq_div_mul]; omega
theorem split_pow (V k : Nat) : V = V / 4294967296 ^ k * 4294967296 ^ k + V % 4294967296 ^ k := by
  rw [Nat.mul_comm]; exact (Nat.div_add_mod V _).symm
theorem limb_top {X k : Nat} (h : X < 4294967296 ^ (k + 1)) : X / 4294967296 ^ k % 4294967296 = X / 4294967296 ^ k := by
  refine Nat.mod_eq_of_lt (Nat.div_lt_of_lt_mul ?_)
  rw [← Nat.pow_succ]; exact h
/-- Writing a limb. -/
theorem val_set_eq (l : List Nat) (i x : Nat) (h : i < l.length) : val (l.set i x) + 4294967296 ^ i * nth l i = val l + 4294967296 ^ i * x := by
  induction l generalizing i with
  | nil => simp at h
  | cons a l ih =>
    cases i with
    | zero => simp [val, nth]; omega
    | succ i =>
      have h' : i < l.length := by simpa using h
      have h2 := ih i h'
      have e1 : nth (a :: l) (i + 1) = nth l i := rfl
      rw [List.set_cons_succ, val, val, e1, Nat.pow_succ, Nat.mul_comm (4294967296 ^ i) 4294967296, Nat.mul_assoc, Nat.mul_assoc]
      generalize 4294967296 ^ i * nth l i = p at *
      generalize 4294967296 ^ i * x = r at *
      omega
theorem quot_eq {U V q : Nat} (h1 : q * V ≤ U) (h2 : U < (q + 1) * V) : U / V = q := Nat.div_eq_of_lt_le h1 h2
end Go.Av
end
section
namespace Go.Av
open Go.Proofs
@[simp] theorem ti9 : tinfo Tryz.prog 9 = some { size := 1, bytes := 16, cls := .str, zero := .str ⟨#[]⟩, fields := [] } := by kernel_rfl
/-- A byte of a constant string. -/
def lookK (P : Program) (t : TypeId) (b : ByteArray) (v : AV) (k : AV → Prop) : Prop := optK ((tinfo P t).bind fun ti => indexAV ti (.str b) v) k
@[congr] theorem lookK_congr {P : Program} {t : TypeId} {b : ByteArray} {v v' : AV} {k : AV → Prop} (h : v = v') : lookK P t b v k = lookK P t b v' k := by rw [h]
@[simp high] theorem aop_indexC (P : Program) (cf : Cfg) (K : St → Prop) (s : St) (d : Option Tmp) (ty : TypeId) (p : String) (a : Array Edge) (g : Option (Nat × Bool)) (t : TypeId) (b : ByteArray) (i : Operand) :
    aop P cf ⟨d, .index t (.const (.string b)) i, ty, p, a, g⟩ K s ↔ lookK P t b (s.ev i) (contV K s d) := Iff.rfl
def okTab (b : ByteArray) : Bool := b.size == 256 && (List.range 256).all fun i => Nat.ble (b.get! i).toNat 8 && Nat.blt i (2 ^ (b.get! i).toNat)
theorem lookK_tab {b : ByteArray} (hb : okTab b = true) {n : Nat} (hn : n < 256) {k : AV → Prop} (hk : ∀ y : Nat, y ≤ 8 → n < 2 ^ y → k (.int .u8 (y : Nat))) : lookK Tryz.prog 9 b (.int .u8 (n : Nat)) k := by
  unfold okTab at hb
  simp only [Bool.and_eq_true, List.all_eq_true, List.mem_range, beq_iff_eq] at hb
  obtain ⟨h1, h2⟩ := hb
  have h3 := h2 n hn
  rw [Nat.ble_eq, Nat.blt_eq] at h3
  have hs : n < b.size := by omega
  have e : b.get! n = b[n] := by
    cases b with | mk d =>
    have hs' : n < d.size := hs
    simp [ByteArray.get!, ByteArray.getElem_eq_getElem_data, hs']
  rw [e] at h3
  unfold lookK
  simp only [ti9, Option.bind_some, indexAV]
  rw [dif_pos ⟨by omega, by simpa using hs⟩]
  exact ⟨_, rfl, hk _ h3.1 h3.2⟩
theorem fdiv_nat (a n : Nat) (h : 0 < n) : Int.fdiv (a : Int) (n : Int) = ((a / n : Nat) : Int) := by
  rw [Int.fdiv_eq_ediv_of_nonneg _ (by omega)]; rfl
@[simp] theorem lift_fdiv16 (a : Nat) : Int.fdiv (a : Int) 65536 = ((a / 65536 : Nat) : Int) := fdiv_nat a 65536 (by omega)
@[simp] theorem lift_fdiv8 (a : Nat) : Int.fdiv (a : Int) 256 = ((a / 256 : Nat) : Int) := fdiv_nat a 256 (by omega)
@[simp] theorem lift_add_8 (a : Nat) : (a : Int) + 8 = ((a + 8 : Nat) : Int) := by omega
@[simp] theorem wrap_u8 (x : Int) : IntKind.u8.wrap x = x % 256 := by simp [IntKind.wrap, IntKind.bits, IntKind.signed]
@[simp] theorem lift_mod_256 (a : Nat) : (a : Int) % 256 = ((a % 256 : Nat) : Int) := rfl
set_option maxRecDepth 100000 in
theorem len32_call (x : Nat) (hx : x < 4294967296) : ACall Tryz.prog 157 [.int .u32 x] Mem.emp fun v m => (∃ y : Nat, y ≤ 32 ∧ x < 2 ^ y ∧ v = .int .i64 y) ∧ m = Mem.emp := by
  refine acall_S Tryz.func157 rfl rfl 19 rfl (Nat.le_of_ble_eq_true rfl) ?_
  (repeat refine AW.seq_k fun K hK => ?_); refine AW.rg ?_; simp [argsL]; try (refine hK _ rfl ?_; clear hK; clear K)
  refine AW.seq_ex (ι := Nat) (fun y => [(0, .int .u32 (x / 2 ^ y : Nat)), (2, .int .i64 (y : Nat))]) (fun _ => Mem.emp) (fun y => y ≤ 16 ∧ x / 2 ^ y < 65536) ?_ ?_
  · (repeat refine AW.seq_k fun K hK => ?_); refine AW.rg ?_; simp [-Int.natCast_ediv, -Int.natCast_pow]; try (refine hK _ rfl ?_; clear hK; clear K)
    (repeat refine AW.seq ?_)
    refine AW.cs (fun h => ?_) (fun h => ?_) rfl <;> simp at h
    · (repeat refine AW.seq_k fun K hK => ?_); refine AW.rg ?_; simp [-Int.natCast_ediv, -Int.natCast_pow]; try (refine hK _ rfl ?_; clear hK; clear K)
      (repeat refine AW.seq_k fun K hK => ?_); refine AW.rg ?_; simp [-Int.natCast_ediv, -Int.natCast_pow]; try (refine hK _ rfl ?_; clear hK; clear K)
      exact ⟨16, ⟨by omega, by omega⟩, rfl, rfl⟩
    · refine AW.skip ?_
      try simp [-Int.natCast_ediv, -Int.natCast_pow]
      exact ⟨0, ⟨by omega, by omega⟩, by simp, by simp⟩
  rintro y ⟨h1, h2⟩
  generalize hz : x / 2 ^ y = z at *
  refine AW.seq_ex (ι := Nat) (fun y => [(0, .int .u32 (x / 2 ^ y : Nat)), (2, .int .i64 (y : Nat))]) (fun _ => Mem.emp) (fun y => y ≤ 24 ∧ x / 2 ^ y < 256) ?_ ?_
  · (repeat refine AW.seq_k fun K hK => ?_); refine AW.rg ?_; simp [-Int.natCast_ediv, -Int.natCast_pow]; try (refine hK _ rfl ?_; clear hK; clear K)
    (repeat refine AW.seq ?_)
    refine AW.cs (fun h => ?_) (fun h => ?_) rfl <;> simp at h
    · (repeat refine AW.seq_k fun K hK => ?_); refine AW.rg ?_; simp [-Int.natCast_ediv, -Int.natCast_pow]; try (refine hK _ rfl ?_; clear hK; clear K)
      have e : x / 2 ^ (y + 8) = z / 256 := by rw [← hz, Nat.pow_add, Nat.div_div_eq_div_mul]
      have hw : IntKind.i64.wrap ((y + 8 : Nat) : Int) = ((y + 8 : Nat) : Int) := wi (by omega)
      (repeat refine AW.seq_k fun K hK => ?_); refine AW.rg ?_; simp [-Int.natCast_add, -Int.natCast_ediv, -Int.natCast_pow, hw]; try (refine hK _ rfl ?_; clear hK; clear K)
      exact ⟨⟨by omega, by omega⟩, e.symm⟩
    · refine AW.skip ⟨y, ⟨by omega, by omega⟩, rfl, rfl, by simp [hz]⟩
  clear hz h2 h1
  clear z y
  rintro y ⟨h1, h2⟩
  generalize hz : x / 2 ^ y = z at *
  have hm : z % 256 = z := Nat.mod_eq_of_lt h2
  (repeat refine AW.seq_k fun K hK => ?_); refine AW.rg ?_; simp [hm]; try (refine hK _ rfl ?_; clear hK; clear K)
  refine lookK_tab (by kernel_rfl) h2 fun t t1 t2 => ?_
  have hw : IntKind.i64.wrap ((y + t : Nat) : Int) = ((y + t : Nat) : Int) := wi (by omega)
  have hw2 : IntKind.i64.wrap ((t : Nat) : Int) = ((t : Nat) : Int) := wi (by omega)
  simp [-Int.natCast_add, hw, hw2]; refine hK _ rfl ?_
  refine AW.ret (ret_emp rfl _ (.same _) ⟨⟨y + t, by omega, ?_, rfl⟩, rfl⟩)
  rw [Nat.pow_add]
  rw [← hz] at t2
  rw [Nat.mul_comm]
  exact (Nat.div_lt_iff_lt_mul (Nat.pow_pos (by omega))).1 t2
theorem lz_call (x : Nat) (hx : x < 4294967296) : ACall Tryz.prog 139 [.int .u32 x] Mem.emp fun v m => (∃ s : Nat, s ≤ 32 ∧ x * 2 ^ s < 4294967296 ∧ (0 < x → s < 32) ∧ v = .int .i64 s) ∧ m = Mem.emp := by
  refine acall_S Tryz.func139 rfl rfl 6 rfl (Nat.le_of_ble_eq_true rfl) ?_
  (repeat refine AW.seq_k fun K hK => ?_); refine AW.rg ?_; simp [argsL]; try (refine hK _ rfl ?_; clear hK; clear K)
  (repeat refine AW.seq_k fun K hK => ?_); refine AW.rg ?_; simp; try (refine hK _ rfl ?_; clear hK; clear K)
  refine CallK.pure (len32_call x hx) ?_
  rintro _ ⟨y, y1, y2, rfl⟩
  have hw : IntKind.i64.wrap (32 - (y : Int)) = ((32 - y : Nat) : Int) := by rw [wi' (by omega)]; omega
  simp [hw]; refine hK _ rfl ?_; clear hK; clear K
  refine AW.ret (ret_emp rfl _ (.same _) ⟨⟨32 - y, by omega, ?_, ?_, rfl⟩, rfl⟩)
  · calc x * 2 ^ (32 - y) < 2 ^ y * 2 ^ (32 - y) := Nat.mul_lt_mul_of_pos_right y2 (Nat.pow_pos (by omega))
      _ = 4294967296 := by rw [← Nat.pow_add, show y + (32 - y) = 32 by omega]
  · intro h
    have : y ≠ 0 := by rintro rfl; omega
    omega
end Go.Av
end
section
namespace Go.Av
open Go.Proofs
theorem or_two {a b : Nat} (ha : a < 4294967296) (hb : b < 4294967296) : bitw .or .u64 ((a * 4294967296 : Nat) : Int) (b : Int) = ((a * 4294967296 + b : Nat) : Int) := by
  rw [or_u64 (by omega) (by omega), or_limb hb]
theorem mod_two {a : Nat} (ha : a < 4294967296) : a * 4294967296 % 18446744073709551616 = a * 4294967296 := by omega
theorem lt_two {a b : Nat} (ha : a < 4294967296) (hb : b < 4294967296) : a * 4294967296 + b < 18446744073709551616 := by omega
theorem md64 {a : Nat} (ha : a < 4294967296) : a % 18446744073709551616 = a := by omega
theorem add64 {a b : Nat} (ha : a < 4294967296) (hb : b < 4294967296) : (a + b) % 18446744073709551616 = a + b := by omega
theorem mul64 {a b : Nat} (ha : a < 4294967296) (hb : b < 4294967296) : a * b % 18446744073709551616 = a * b := by
  refine Nat.mod_eq_of_lt ?_
  calc a * b ≤ 4294967296 * b := Nat.mul_le_mul_right _ (by omega)
    _ < 18446744073709551616 := by omega
theorem digit_nums {u v : List Nat} {j n : Nat} (hbu : Lb u) (hbv : Lb v) (hn : v.length = n + 2) (hv1 : nth v (n + 1) ≠ 0) (hlt : val u < val v * 4294967296 ^ (j + 1)) :
    ∃ P vl ul : Nat, val v = (nth v (n + 1) * 4294967296 + nth v n) * P + vl ∧ val u / 4294967296 ^ j = ((nth u (j + (n + 2)) * 4294967296 + nth u (j + (n + 1))) * 4294967296 + nth u (j + n)) * P + ul ∧ vl < P ∧ ul < P ∧
      nth u (j + (n + 2)) * 4294967296 + nth u (j + (n + 1)) < nth v (n + 1) * 4294967296 + 4294967296 ∧ val u / 4294967296 ^ j < val v * 4294967296 ∧
      val u / 4294967296 ^ j < ((nth u (j + (n + 2)) * 4294967296 + nth u (j + (n + 1))) / nth v (n + 1) + 1) * val v := by
  have hV : val v < 4294967296 ^ (n + 2) := by rw [← hn]; exact val_lt hbv
  have e1 : nth v (n + 1) = val v / 4294967296 ^ (n + 1) := by rw [nth_val hbv, limb_top hV]
  have e2 : val v = (nth v (n + 1) * 4294967296 + nth v n) * 4294967296 ^ n + val v % 4294967296 ^ n := by
    rw [e1, nth_val hbv n, ← two_limbs]; exact split_pow _ _
  have l1 := hbv.nth (n + 1)
  have l2 := hbv.nth n
  have hU : val u < 4294967296 ^ (j + (n + 2) + 1) := by
    calc val u < val v * 4294967296 ^ (j + 1) := hlt
      _ ≤ 4294967296 ^ (n + 2) * 4294967296 ^ (j + 1) := Nat.mul_le_mul_right _ (Nat.le_of_lt hV)
      _ = 4294967296 ^ (j + (n + 2) + 1) := by rw [← Nat.pow_add]; congr 1; omega
  have f0 : nth u (j + (n + 2)) = val u / 4294967296 ^ (j + (n + 2)) := by rw [nth_val hbu, limb_top hU]
  have f1 : nth u (j + (n + 2)) * 4294967296 + nth u (j + (n + 1)) = val u / 4294967296 ^ (j + (n + 1)) := by
    rw [f0, nth_val hbu (j + (n + 1)), ← Nat.add_assoc j n 2, ← Nat.add_assoc j n 1]; exact (two_limbs _ _).symm
  have f2 : val u / 4294967296 ^ (j + (n + 1)) * 4294967296 + nth u (j + n) = val u / 4294967296 ^ (j + n) := by
    rw [nth_val hbu (j + n), ← Nat.add_assoc j n 1]; exact (two_limbs _ _).symm
  have dd : ∀ k, val u / 4294967296 ^ (j + k) = val u / 4294967296 ^ j / 4294967296 ^ k := fun k => by rw [Nat.pow_add, Nat.div_div_eq_div_mul]
  have k0 := hbu.nth (j + (n + 2))
  have k1 := hbu.nth (j + (n + 1))
  have k2 := hbu.nth (j + n)
  have hUV : val u / 4294967296 ^ j < val v * 4294967296 := by
    refine Nat.div_lt_of_lt_mul ?_
    rw [Nat.pow_succ] at hlt
    calc val u < _ := hlt
      _ = _ := by ac_rfl
  generalize hx1 : nth v (n + 1) = v1 at *
  generalize hx2 : nth v n = v2 at *
  generalize hy0 : nth u (j + (n + 2)) = u0 at *
  generalize hy1 : nth u (j + (n + 1)) = u1 at *
  generalize hy2 : nth u (j + n) = u2 at *
  rw [dd] at f1 f2
  rw [dd] at f2
  generalize hUU : val u / 4294967296 ^ j = U at *
  generalize hVV : val v = V at *
  have f3 : U = ((u0 * 4294967296 + u1) * 4294967296 + u2) * 4294967296 ^ n + U % 4294967296 ^ n := by
    rw [f1, f2]; exact split_pow _ _
  have f4 : U = (u0 * 4294967296 + u1) * 4294967296 ^ (n + 1) + U % 4294967296 ^ (n + 1) := by
    rw [f1]; exact split_pow _ _
  have f5 : V = v1 * 4294967296 ^ (n + 1) + V % 4294967296 ^ (n + 1) := by
    rw [e1]; exact split_pow _ _
  have p1 : 0 < 4294967296 ^ n := Nat.pow_pos (by omega)
  have p2 : 0 < 4294967296 ^ (n + 1) := Nat.pow_pos (by omega)
  have r1 : U % 4294967296 ^ n < 4294967296 ^ n := Nat.mod_lt _ p1
  have r2 : V % 4294967296 ^ n < 4294967296 ^ n := Nat.mod_lt _ p1
  have r3 : U % 4294967296 ^ (n + 1) < 4294967296 ^ (n + 1) := Nat.mod_lt _ p2
  have r4 : V % 4294967296 ^ (n + 1) < 4294967296 ^ (n + 1) := Nat.mod_lt _ p2
  generalize U % 4294967296 ^ n = ul at *
  generalize V % 4294967296 ^ n = vl at *
  generalize U % 4294967296 ^ (n + 1) = ul1 at *
  generalize V % 4294967296 ^ (n + 1) = vl1 at *
  generalize 4294967296 ^ (n + 1) = P1 at *
  generalize 4294967296 ^ n = P at *
  have ht : u0 * 4294967296 + u1 < v1 * 4294967296 + 4294967296 := by
    have h1 : (u0 * 4294967296 + u1) * P1 < (v1 * 4294967296 + 4294967296) * P1 := by
      have h2 : (v1 * 4294967296 + 4294967296) * P1 = (v1 * P1 + P1) * 4294967296 := by
        rw [Nat.add_mul, Nat.add_mul]; ac_rfl
      rw [h2]; omega
    exact Nat.lt_of_mul_lt_mul_right h1
  refine ⟨P, vl, ul, e2, f3, r2, r1, ht, hUV, ?_⟩
  have hdm : (u0 * 4294967296 + u1) / v1 * v1 + (u0 * 4294967296 + u1) % v1 = u0 * 4294967296 + u1 := by rw [Nat.mul_comm]; exact Nat.div_add_mod _ _
  have hmod : (u0 * 4294967296 + u1) % v1 < v1 := Nat.mod_lt _ (by omega)
  revert f4 hdm hmod
  generalize u0 * 4294967296 + u1 = top
  intro f4 hdm hmod
  have g1 : top + 1 ≤ (top / v1 + 1) * v1 := by rw [Nat.add_mul, Nat.one_mul]; omega
  have g2 : (top + 1) * P1 ≤ (top / v1 + 1) * v1 * P1 := Nat.mul_le_mul_right _ g1
  have g3 : (top / v1 + 1) * v1 * P1 ≤ (top / v1 + 1) * V := by rw [Nat.mul_assoc]; exact Nat.mul_le_mul_left _ (by omega)
  rw [Nat.add_mul, Nat.one_mul] at g2
  omega
theorem digit_call (u v : List Nat) (j n : Nat) (hbu : Lb u) (hbv : Lb v) (hn : v.length = n + 2) (hj : j + (n + 2) < u.length) (hl : u.length < 2^40) (hv1 : nth v (n + 1) ≠ 0) (hlt : val u < val v * 4294967296 ^ (j + 1)) :
    ACall Tryz.prog 142 [lim u, .int .i64 j, lim v] Mem.emp fun r m => (∃ q : Nat, q < 4294967296 ∧ val u / 4294967296 ^ j < (q + 1) * val v ∧ q * val v < val u / 4294967296 ^ j + val v ∧ r = .int .u64 q) ∧ m = Mem.emp := by
  refine acall_S Tryz.func142 rfl rfl 83 rfl (Nat.le_of_ble_eq_true rfl) ?_
  obtain ⟨P, vl, ul, e2, f3, r2, r1, ht, hUV, hq0⟩ := digit_nums hbu hbv hn hv1 hlt
  have l1 := hbv.nth (n + 1)
  have l2 := hbv.nth n
  have k0 := hbu.nth (j + (n + 2))
  have k1 := hbu.nth (j + (n + 1))
  have k2 := hbu.nth (j + n)
  clear hlt
  generalize hx1 : nth v (n + 1) = v1 at *
  generalize hx2 : nth v n = v2 at *
  generalize hy0 : nth u (j + (n + 2)) = u0 at *
  generalize hy1 : nth u (j + (n + 1)) = u1 at *
  generalize hy2 : nth u (j + n) = u2 at *
  have o1 := or_two k0 k1
  have ht2 := lt_two k0 k1
  have m5 := mod_two k0
  obtain ⟨top, hT⟩ : ∃ top, u0 * 4294967296 + u1 = top := ⟨_, rfl⟩
  rw [hT] at f3 ht hq0 ht2 o1
  obtain ⟨U, hUU⟩ : ∃ U, val u / 4294967296 ^ j = U := ⟨_, rfl⟩
  obtain ⟨V, hVV⟩ : ∃ V, val v = V := ⟨_, rfl⟩
  rw [hVV] at e2 hUV hq0 ⊢
  rw [hUU] at f3 hUV hq0 ⊢
  have w1 : IntKind.i64.wrap ((j + (n + 2) : Nat) : Int) = ((j + (n + 2) : Nat) : Int) := wi (by omega)
  have w2 : IntKind.i64.wrap (((j + (n + 2) : Nat) : Int) - 1) = ((j + (n + 1) : Nat) : Int) := by rw [wi' (by omega)]; omega
  have w3 : IntKind.i64.wrap (((j + (n + 2) : Nat) : Int) - 2) = ((j + n : Nat) : Int) := by rw [wi' (by omega)]; omega
  have w4 : IntKind.i64.wrap (((n + 2 : Nat) : Int) - 1) = ((n + 1 : Nat) : Int) := by rw [wi' (by omega)]; omega
  have w5 : IntKind.i64.wrap (((n + 2 : Nat) : Int) - 2) = ((n : Nat) : Int) := by rw [wi' (by omega)]; omega
  have m0 := md64 k0
  have m1 := md64 k1
  have m2 := md64 k2
  have m3 := md64 l1
  have m4 := md64 l2
  have i1 : j + (n + 1) < u.length := by omega
  have i2 : j + n < u.length := by omega
  have i3 : n + 1 < n + 2 := by omega
  have i4 : n < n + 2 := by omega
  have hdm : top / v1 * v1 + top % v1 = top := by rw [Nat.mul_comm]; exact Nat.div_add_mod _ _
  have hmod : top % v1 < v1 := Nat.mod_lt _ (by omega)
  have m6 : top / v1 % 18446744073709551616 = top / v1 := Nat.mod_eq_of_lt (Nat.lt_of_le_of_lt (Nat.div_le_self _ _) ht2)
  (repeat refine AW.seq_k fun K hK => ?_); refine AW.rg ?_; simp [argsL]; try (refine hK _ rfl ?_; clear hK; clear K)
  (repeat refine AW.seq_k fun K hK => ?_); refine AW.rg ?_; simp [-Int.natCast_add, hn]; try (refine hK _ rfl ?_; clear hK; clear K)
  (repeat refine AW.seq_k fun K hK => ?_)
  refine AW.rd [0, 1, 2, 3, 4, 5, 6, 7, 8, 9, 10, 11, 12, 13, 14, 15, 16, 17] mix ?_
  simp [-Int.natCast_mul, -Int.natCast_add, w1, w2, hy0, hy1, m0, m1, m5, o1, hj, i1]; try (refine hK _ rfl ?_; clear hK; clear K)
  (repeat refine AW.seq_k fun K hK => ?_); refine AW.rg ?_; simp [-Int.natCast_ediv, -Int.natCast_mul, -Int.natCast_add, w4, hn, i3, hx1, m3, hv1, m6]; try (refine hK _ rfl ?_; clear hK; clear K)
  (repeat refine AW.seq_k fun K hK => ?_); refine AW.rg ?_; simp [-Int.natCast_emod, -Int.natCast_mul, -Int.natCast_add, -Int.natCast_ediv, w4, hn, i3, hx1, m3, hv1]; try (refine hK _ rfl ?_; clear hK; clear K)
  refine AW.seq_ex (ι := Nat) (fun q => [(9, .int .u64 (q : Nat))]) (fun _ => Mem.emp) (fun q => q < 4294967296 ∧ U < (q + 1) * V ∧ q * V < U + V) ?_ ?_
  · refine AW.block (AW.loopS (ι := Nat × Nat) (fun z => [(0, lim u), (1, .int .i64 j), (2, lim v), (7, .int .i64 (n + 2 : Nat)), (9, .int .u64 (z.1 : Nat)), (10, .int .u64 (z.2 : Nat))]) (fun _ => Mem.emp)
      (fun z => z.1 * v1 + z.2 = top ∧ z.2 < 4294967296 ∧ U < (z.1 + 1) * V) (fun z => z.1) (top / v1, top % v1) ⟨hdm, by omega, hq0⟩ rfl (by simp [-Int.natCast_mul, -Int.natCast_emod, -Int.natCast_ediv, -Int.natCast_add]) ?_)
    rintro ⟨q, r⟩ ⟨h1, h2, h3⟩
    simp only at h1 h2 h3; simp only
    have m8 := mod_two h2
    have o2 := or_two h2 k2
    -- the round that makes q less
    have less : U < q * V → 1 ≤ q := by
      intro h; rcases Nat.eq_zero_or_pos q with rfl | h'
      · simp at h
      · exact h'
    refine AW.seq_ex (ι := Unit) (fun _ => [(0, lim u), (1, .int .i64 j), (2, lim v), (7, .int .i64 (n + 2 : Nat)), (9, .int .u64 (q : Nat)), (10, .int .u64 (r : Nat))]) (fun _ => Mem.emp) (fun _ => U < q * V) ?_ ?_
    · by_cases hq : 4294967296 ≤ q
      · have hd : U < q * V := by
          calc U < V * 4294967296 := hUV
            _ ≤ V * q := Nat.mul_le_mul_left _ hq
            _ = q * V := Nat.mul_comm _ _
        (repeat refine AW.seq_k fun K hK => ?_)
        refine AW.rd [0, 1, 2, 3, 4, 5, 6, 7, 8, 9, 10, 11, 12, 13, 14, 15, 16, 17, 18, 19, 20, 21, 22, 23] mix ?_
        simp [-Int.natCast_add, hq]; try (refine hK _ rfl ?_; clear hK; clear K)
        refine AW.yes ?_ rfl; refine AW.skip ?_
        try simp [-Int.natCast_add]
        exact hd
      · have hq' : q < 4294967296 := Nat.lt_of_not_le hq
        have m7 := mul64 (a := q) (b := v2) hq' l2
        (repeat refine AW.seq_k fun K hK => ?_)
        refine AW.rd [0, 1, 2, 3, 4, 5, 6, 7, 8, 9, 10, 11, 12, 13, 14, 15, 16, 17, 18, 19, 20, 21, 22, 23] mix ?_
        simp [-Int.natCast_mul, -Int.natCast_add, hq, w1, w3, w5, hn, hx2, hy2, m4, m2, m7, m8, o2, i2, i4]; try (refine hK _ rfl ?_; clear hK; clear K)
        (repeat refine AW.seq ?_)
        refine AW.cs (fun h => ?_) (fun h => ?_) rfl <;> simp at h
        · refine AW.skip ?_
          try simp [-Int.natCast_mul, -Int.natCast_add]
          exact est_down e2 f3 r1 h1 h
        · refine AW.exit ?_
          try simp [-Int.natCast_mul, -Int.natCast_add]
          exact ⟨hq', h3, est_end e2 f3 r2 (Nat.one_le_iff_ne_zero.2 hv1) h1 hq' h⟩
    · rintro _ hd
      have q1 := less hd
      obtain ⟨q, rfl⟩ : ∃ p, q = p + 1 := ⟨q - 1, (Nat.sub_add_cancel q1).symm⟩
      have w6 : ((q + 1 : Nat) : Int) - 1 = (q : Int) := by rw [Int.natCast_add]; exact Int.add_sub_cancel _ _
      have hqt : q ≤ top := by
        rw [← h1, Nat.add_mul]
        exact Nat.le_trans (Nat.le_mul_of_pos_right q (Nat.pos_of_ne_zero hv1)) (Nat.le_trans (Nat.le_add_right _ _) (Nat.le_add_right _ _))
      have m9 : q % 18446744073709551616 = q := Nat.mod_eq_of_lt (Nat.lt_of_le_of_lt hqt ht2)
      have m10 : (r + v1) % 18446744073709551616 = r + v1 := add64 h2 l1
      have hs : q * v1 + (r + v1) = top := by rw [← h1, Nat.add_mul, Nat.one_mul]; ac_rfl
      (repeat refine AW.seq ?_); refine AW.block ?_; (repeat refine AW.seq_k fun K hK => ?_); refine AW.rg ?_; simp [-Int.natCast_add, w6, m9]; try (refine hK _ rfl ?_; clear hK; clear K)
      (repeat refine AW.seq_k fun K hK => ?_); refine AW.rg ?_; simp [-Int.natCast_add, w4, hn, i3, hx1, m3, m10]; try (refine hK _ rfl ?_; clear hK; clear K)
      (repeat refine AW.seq_k fun K hK => ?_); refine AW.rg ?_; simp [-Int.natCast_add]; try (refine hK _ rfl ?_; clear hK; clear K)
      (repeat refine AW.seq ?_)
      refine AW.cs (fun hr => ?_) (fun hr => ?_) rfl <;> simp at hr
      · refine AW.exit ?_
        try simp [-Int.natCast_add]
        obtain ⟨b1, b2⟩ := est_break (u2 := u2) hs ht hr l2
        exact ⟨b1, hd, est_end e2 f3 r2 (Nat.one_le_iff_ne_zero.2 hv1) hs b1 b2⟩
      · refine AW.skip ?_
        try simp [-Int.natCast_add]
        exact ⟨q, r + v1, ⟨hs, hr, hd⟩, Nat.lt_succ_self _, rfl, rfl⟩
  · rintro q ⟨h1, h2, h3⟩
    (repeat refine AW.seq_k fun K hK => ?_); refine AW.rg ?_; simp; try (refine hK _ rfl ?_; clear hK; clear K)
    exact AW.ret (ret_emp rfl _ (.same _) ⟨⟨q, h1, h2, h3, rfl⟩, rfl⟩)
end Go.Av
end
section
namespace Go.Av
open Go.Proofs
theorem take_step {B W Q Uv X c bo W' x d r bo' p c' qv : Nat} (h1 : W + Q = Uv + X * (c + bo)) (h2 : W' + X * x = W + X * d) (h3 : d + r + bo = x + B * bo') (h4 : p = B * c' + r) (h5 : p = qv + c) :
    W' + (Q + qv * X) = Uv + X * B * (c' + bo') := by
  have g1 : X * d + X * r + X * bo = X * x + X * B * bo' := by rw [← Nat.mul_add, ← Nat.mul_add, h3, Nat.mul_add, Nat.mul_assoc]
  have g2 : X * qv + X * c = X * B * c' + X * r := by rw [← Nat.mul_add, ← h5, h4, Nat.mul_add, Nat.mul_assoc]
  rw [Nat.mul_add] at h1
  rw [Nat.mul_add, Nat.mul_comm qv X]; omega
theorem back_step {B W Q X c W' x s c' vi : Nat} (h1 : W + X * c = Q) (h2 : W' + X * x = W + X * (s % B)) (h3 : s = x + vi + c) (h4 : c' = s / B) :
    W' + X * B * c' = Q + vi * X := by
  have g1 : X * (s % B) + X * B * c' = X * x + X * vi + X * c := by
    rw [h4, Nat.mul_assoc, ← Nat.mul_add, Nat.mod_add_div, h3, Nat.mul_add, Nat.mul_add]
  rw [Nat.mul_comm vi X]; omega
theorem val_lt_of_drop {w u : List Nat} {K : Nat} (hw : Lb w) (hd : w.drop K = u.drop K) (hu : val u < 4294967296 ^ K) (hK : K ≤ w.length) (hl : w.length = u.length) : val w < 4294967296 ^ K := by
  have h1 : val w = val (w.take K) + 4294967296 ^ (w.take K).length * val (w.drop K) := by rw [← val_append, List.take_append_drop]
  have h2 : val u = val (u.take K) + 4294967296 ^ (u.take K).length * val (u.drop K) := by rw [← val_append, List.take_append_drop]
  rw [List.length_take, Nat.min_eq_left (by omega)] at h1 h2
  have h3 : val (u.drop K) = 0 := by
    rcases Nat.eq_zero_or_pos (val (u.drop K)) with h | h
    · exact h
    · have : 4294967296 ^ K * 1 ≤ 4294967296 ^ K * val (u.drop K) := Nat.mul_le_mul_left _ h
      omega
  rw [h1, hd, h3]
  have := val_take_lt hw K
  omega
/-- The end where nothing was borrowed. -/
theorem take_end0 {B u W V q : Nat} (hB : 0 < B) (h1 : W + q * V * B = u) (h2 : u / B < (q + 1) * V) : u / B / V = q ∧ W = u % (V * B) := by
  have h3 : q * V ≤ u / B := by rw [Nat.le_div_iff_mul_le hB]; omega
  have e1 : u / B / V = q := quot_eq h3 h2
  refine ⟨e1, ?_⟩
  rw [Nat.div_div_eq_div_mul] at e1
  have h4 := Nat.div_add_mod u (V * B)
  rw [Nat.mul_comm V B, e1] at h4
  rw [Nat.mul_comm V B]
  have : B * V * q = q * V * B := by ac_rfl
  omega
/-- The end where it was too much. -/
theorem take_end1 {B XB u W1 W2 V q e : Nat} (hB : 0 < B) (h1 : W1 + q * V * B = u + XB) (h2 : W1 < XB) (h3 : q * V < u / B + V) (h4 : W2 + XB * e = W1 + V * B) (h5 : W2 < XB) (he : e ≤ 1) (hV : V * B ≤ XB) :
    1 ≤ q ∧ u / B / V = q - 1 ∧ W2 = u % (V * B) := by
  have h6 : u < q * V * B := by omega
  have h7 : u / B < q * V := (Nat.div_lt_iff_lt_mul hB).2 h6
  have h8 : 1 ≤ q := by
    rcases Nat.eq_zero_or_pos q with rfl | h
    · simp at h7
    · exact h
  obtain ⟨q, rfl⟩ : ∃ p, q = p + 1 := ⟨q - 1, (Nat.sub_add_cancel h8).symm⟩
  have e1 : u / B / V = q := by
    refine quot_eq ?_ h7
    rw [Nat.add_mul] at h3; omega
  refine ⟨h8, e1, ?_⟩
  rw [Nat.div_div_eq_div_mul] at e1
  have h9 := Nat.div_add_mod u (V * B)
  rw [Nat.mul_comm V B, e1] at h9
  rw [Nat.mul_comm V B]
  have a1 : B * V * q = q * V * B := by ac_rfl
  have a2 : (q + 1) * V * B = q * V * B + V * B := by rw [Nat.add_mul, Nat.add_mul, Nat.one_mul]
  have hVB : 0 < B * V := by
    rcases Nat.eq_zero_or_pos V with rfl | h
    · simp at h7
    · exact Nat.mul_pos hB h
  have a3 := Nat.mod_lt u hVB
  have a4 : V * B = B * V := Nat.mul_comm _ _
  rcases Nat.le_one_iff_eq_zero_or_eq_one.1 he with rfl | rfl
  · omega
  · omega
theorem and_mask {p : Nat} (hp : p < 18446744073709551616) : bitw .and .u64 (p : Int) 4294967295 = ((p % 4294967296 : Nat) : Int) := by
  have := and_u64 (a := p) (b := 4294967295) hp (by omega)
  rw [show ((4294967295 : Nat) : Int) = 4294967295 from rfl] at this
  rw [this, show (4294967295 : Nat) = 2 ^ 32 - 1 from rfl, Nat.and_two_pow_sub_one_eq_mod]
/-- The digit and the borrow. -/
theorem borrow_step {x r bo : Nat} (hx : x < 4294967296) (hr : r < 4294967296) (hb : bo ≤ 1) : ∃ t d bo' : Nat, ((x : Int) - (r : Int) - (bo : Int)) % 18446744073709551616 = (t : Int) ∧ t % 4294967296 = d ∧ t / 9223372036854775808 = bo' ∧ bo' ≤ 1 ∧ d < 4294967296 ∧ d + r + bo = x + 4294967296 * bo' := by
  by_cases h : r + bo ≤ x
  · exact ⟨x - r - bo, x - r - bo, 0, by omega, by omega, by omega, by omega, by omega, by omega⟩
  · exact ⟨x + 18446744073709551616 - r - bo, x + 4294967296 - r - bo, 1, by omega, by omega, by omega, by omega, by omega, by omega⟩
end Go.Av
end
