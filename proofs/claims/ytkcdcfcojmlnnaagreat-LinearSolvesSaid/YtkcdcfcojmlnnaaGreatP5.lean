/- A part of the proof. -/
import Derived.Test.YtkcdcfcojmlnnaaGreatP4
import Derived.ProofKit
import Derived.OpenShut
import Derived.Deep.Slices
set_option linter.all false
set_option exponentiation.threshold 5000
set_option maxRecDepth 10000
section
/- Sums of squares: memory. -/
namespace Go.Av
open Go.Proofs
/-- The matrix, the numbers, the forms by column and the weights. -/
structure SqMem (M : Mem) (c B : Nat) (bs : List Nat) (rows : List (List RR)) (x : AV) (by_ : Nat) (fs : List AV) (ov : AV) (ob : List Nat) (ws : List AV) : Prop where
  red : RedM (M.only (c :: B :: bs)) c B bs rows x .nil [] []
  by' : M by_ = some ⟨42, 1, fs⟩
  lst : LstV M 36 4 ov ob ws
  nby : by_ ∉ c :: B :: bs
  nob : ∀ b ∈ ob, b ∉ c :: B :: bs ∧ b ≠ by_
section
variable {M : Mem} {c B : Nat} {bs : List Nat} {rows : List (List RR)} {x : AV} {by_ : Nat} {fs : List AV} {ov : AV} {ob : List Nat} {ws : List AV}
theorem SqMem.cell (h : SqMem M c B bs rows x by_ fs ov ob ws) : M c = some ⟨61, 1, [x]⟩ := by
  have := h.red.cell; rwa [only_in (by simp)] at this
theorem SqMem.top (h : SqMem M c B bs rows x by_ fs ov ob ws) : M B = some ⟨42, 1, hdrs bs rows⟩ := by
  have := h.red.mat.top; rwa [only_in (by simp)] at this
theorem SqMem.row (h : SqMem M c B bs rows x by_ fs ov ob ws) {i : Nat} (hi : i < rows.length) : M (nb bs i) = some ⟨36, 4, rrs (mrow rows i)⟩ := by
  have := h.red.mat.row i hi
  rwa [only_in (by simp [nb_mem (show i < bs.length by rw [h.red.mat.len]; exact hi)])] at this
/-- Behind a call that was handed the numbers and the matrix. -/
theorem SqMem.back (h : SqMem M c B bs rows x by_ fs ov ob ws) {g : Mem} {rows' : List (List RR)} {x' : AV} (hg : RedM g c B bs rows' x' .nil [] []) : SqMem (M.back (c :: B :: bs) g) c B bs rows' x' by_ fs ov ob ws := by
  have ho : ∀ b, b ∉ c :: B :: bs → g b = none := fun b hb => by
    cases hx : g b with
    | none => rfl
    | some y => have := hg.only b (by rw [hx]; simp); exact absurd (by simpa using this) hb
  have e : (M.back (c :: B :: bs) g).only (c :: B :: bs) = g := by
    funext b
    by_cases hb : b ∈ c :: B :: bs
    · rw [only_in hb, back_in hb]
    · rw [only_out hb, ho b hb]
  exact ⟨by rw [e]; exact hg, by rw [back_out (ho _ h.nby) h.nby]; exact h.by', h.lst.keep fun b hb => back_out (ho b (h.nob b hb).1) (h.nob b hb).1, h.nby, h.nob⟩
theorem only_set_out {m : Mem} {l : List Nat} {b : Nat} (hb : b ∉ l) (y : Blk) : (m.set b y).only l = m.only l := by
  funext k
  by_cases hk : k ∈ l
  · rw [only_in hk, only_in hk]; simp only [set_at]; rw [if_neg (by rintro rfl; exact hb hk)]
  · rw [only_out hk, only_out hk]
theorem SqMem.setBy (h : SqMem M c B bs rows x by_ fs ov ob ws) (fs' : List AV) : SqMem (M.set by_ ⟨42, 1, fs'⟩) c B bs rows x by_ fs' ov ob ws :=
  ⟨by rw [only_set_out h.nby]; exact h.red, by simp, h.lst.keep fun b hb => by simp only [set_at]; rw [if_neg (h.nob b hb).2], h.nby, h.nob⟩
theorem SqMem.push0 (h : SqMem M c B bs rows x by_ fs .nil [] []) {b : Nat} (hb : M b = none) (v : AV) : SqMem (M.set b ⟨36, 4, [v]⟩) c B bs rows x by_ fs (.osl b 4 0 1) [b] [v] := by
  have h1 : b ∉ c :: B :: bs := by
    intro hm
    have : (M.only (c :: B :: bs)) b = none := by rw [only_in hm]; exact hb
    obtain ⟨f1, f2, f3, _⟩ := h.red.fresh this
    simp [f1, f2, f3] at hm
  have h2 : b ≠ by_ := by rintro rfl; rw [h.by'] at hb; cases hb
  exact ⟨by rw [only_set_out h1]; exact h.red, by simp only [set_at]; rw [if_neg (Ne.symm h2)]; exact h.by', .inr ⟨b, rfl, rfl, by simp⟩, h.nby, fun a ha => by simp at ha; subst ha; exact ⟨h1, h2⟩⟩
theorem SqMem.push1 {b0 : Nat} (h : SqMem M c B bs rows x by_ fs (.osl b0 4 0 ws.length) [b0] ws) {b : Nat} (hb : (M.del b0) b = none) (v : AV) : SqMem ((M.del b0).set b ⟨36, 4, ws ++ [v]⟩) c B bs rows x by_ fs (.osl b 4 0 (ws.length + 1)) [b] (ws ++ [v]) := by
  obtain ⟨k1, k2⟩ := h.nob b0 (by simp)
  have hh : SqMem (M.del b0) c B bs rows x by_ fs .nil [] [] := by
    have hdel : ∀ a, a ≠ b0 → (M.del b0) a = M a := fun a ha => if_neg ha
    have e : (M.del b0).only (c :: B :: bs) = M.only (c :: B :: bs) := by
      funext a
      by_cases ha : a ∈ c :: B :: bs
      · rw [only_in ha, only_in ha, hdel a (by rintro rfl; exact k1 ha)]
      · rw [only_out ha, only_out ha]
    exact ⟨by rw [e]; exact h.red, by rw [hdel by_ (Ne.symm k2)]; exact h.by', .inl ⟨rfl, rfl, rfl⟩, h.nby, by simp⟩
  have h1 : b ∉ c :: B :: bs := by
    intro hm
    have : ((M.del b0).only (c :: B :: bs)) b = none := by rw [only_in hm]; exact hb
    obtain ⟨f1, f2, f3, _⟩ := hh.red.fresh this
    simp [f1, f2, f3] at hm
  have h2 : b ≠ by_ := by rintro rfl; rw [hh.by'] at hb; cases hb
  exact ⟨by rw [only_set_out h1]; exact hh.red, by simp only [set_at]; rw [if_neg (Ne.symm h2)]; exact hh.by', .inr ⟨b, rfl, by simp, by simp⟩, h.nby, fun a ha => by simp at ha; subst ha; exact ⟨h1, h2⟩⟩
theorem RedM.as_only {M : Mem} {c B : Nat} {bs : List Nat} {rows : List (List RR)} {x : AV} (h : RedM M c B bs rows x .nil [] []) : RedM (M.only (c :: B :: bs)) c B bs rows x .nil [] [] := by
  rw [only_self (h.only.sub fun b hb => by simpa using hb)]; exact h
/-- The start. -/
theorem SqMem.start {x : AV} {by_ : Nat} {fs : List AV} (h : RedM M c B bs rows x .nil [] []) (hb : M by_ = none) : SqMem (M.set by_ ⟨42, 1, fs⟩) c B bs rows x by_ fs .nil [] [] := by
  obtain ⟨f1, f2, f3, _⟩ := h.fresh hb
  have hn : by_ ∉ c :: B :: bs := by simp [f1, f2, f3]
  exact ⟨by rw [only_set_out hn]; exact h.as_only, by simp, .inl ⟨rfl, rfl, rfl⟩, hn, by simp⟩
/-- A form is stored, and is no longer owned. -/
theorem SqMem.store (h : SqMem M c B bs rows x by_ fs ov ob ws) {e : Int} (hx : isE x e) {bv n j : Nat} {form : List RR} (hb : M bv = none) (hl : form.length = n) (h1 : ∀ v ∈ fs, v.cells.all AV.one = true) (h2 : ∀ b y, M b = some y → ∀ v ∈ y.l, v.cells.all AV.one = true) (hj : j < fs.length) :
    Recast ((M.set bv ⟨36, 4, rrs form⟩).set by_ ⟨42, 1, fs.set j (.osl bv 4 0 n)⟩) (M.set by_ ⟨42, 1, fs.set j (rowAV form)⟩) := by
  have hne : by_ ≠ bv := by rintro rfl; rw [h.by'] at hb; cases hb
  refine ⟨fun b y hy => ?_⟩
  simp only [set_at] at hy
  by_cases hby : b = by_
  · rw [if_pos hby] at hy
    cases hy
    refine ⟨⟨42, 1, fs.set j (.osl bv 4 0 n)⟩, by simp [hby], rfl, rfl, by simp, fun k v v' q1 q2 => ?_⟩
    simp only [List.getElem?_set] at q1 q2
    by_cases hk : j = k
    · subst hk
      rw [if_pos rfl, if_pos hj] at q1 q2
      cases q1
      cases q2
      refine ⟨view_row (e := 36) (r := form) (by simp [Ne.symm hne]) ?_ hl, rfl⟩
      simp only [set_at]
      rw [if_neg (Ne.symm hne)]; exact hb
    · rw [if_neg hk] at q1 q2
      rw [q1] at q2
      cases q2
      exact ⟨.same _, h1 v (List.mem_of_getElem? q1)⟩
  · rw [if_neg hby] at hy
    have hbv : b ≠ bv := by rintro rfl; rw [hb] at hy; cases hy
    refine ⟨y, ?_, rfl, rfl, rfl, fun k v v' q1 q2 => ?_⟩
    · simp only [set_at]
      rw [if_neg hby, if_neg hbv]; exact hy
    · rw [q1] at q2
      cases q2
      exact ⟨.same _, h2 b y hy v (List.mem_of_getElem? q1)⟩
end
end Go.Av
end
section
/- Squares. -/
namespace Go.Av
open Go.Proofs
def OnesM (M : Mem) : Prop := ∀ b y, M b = some y → ∀ v ∈ y.l, v.cells.all AV.one = true
theorem OnesM.set {M : Mem} (h : OnesM M) (b : Nat) {y : Blk} (hy : ∀ v ∈ y.l, v.cells.all AV.one = true) : OnesM (M.set b y) := by
  intro c z hz
  simp only [set_at] at hz
  split at hz
  · cases hz; exact hy
  · exact h c z hz
theorem OnesM.del {M : Mem} (h : OnesM M) (b : Nat) : OnesM (M.del b) := by
  intro c z hz
  unfold Mem.del at hz
  split at hz
  · cases hz
  · exact h c z hz
structure SqS where
  l : List (List Rat)
  ws : List Rat
  fs : List (Option (List Rat))
  M : Mem
  x : AV
  ov : AV
  ob : List Nat
def wCells (ws : List Rat) : List AV := ws.map fun q => (ofQ q).av
def InvS (n : Nat) (l0 : List (List Rat)) (c B : Nat) (bs : List Nat) (by_ : Nat) (j : Nat) (s : SqS) : Prop :=
  sqIter n l0 j = .go s.l s.ws s.fs ∧ matGood n n s.l ∧ s.fs.length = n ∧ formsOk n s.fs ∧ s.ws.length ≤ j ∧ rowGood s.ws ∧ SqMem s.M c B bs (emb s.l) s.x by_ (fCells s.fs) s.ov s.ob (wCells s.ws) ∧ isE s.x 0 ∧ OnesM s.M
def sqAV (r : SqR) : AV := .tup [rowAV (r.ws.map ofQ), matAV (emb r.fs), rowAV (r.v.map ofQ), .int .i64 r.e]
theorem sqIter_go {n : Nat} {l0 : List (List Rat)} {j : Nat} {l ws fs} (h : sqIter n l0 j = .go l ws fs) : sqIter n l0 (j + 1) = sqStep n j l ws fs := by
  show (match sqIter n l0 j with | .go l' ws fs => sqStep n j l' ws fs | r => r) = _
  rw [h]
theorem sqIter_err {n : Nat} {l0 : List (List Rat)} {j : Nat} (h : sqIter n l0 j = .err) : ∀ k, sqIter n l0 (j + k) = .err
  | 0 => h
  | k + 1 => by
    show (match sqIter n l0 (j + k) with | .go l' ws fs => sqStep n (j + k) l' ws fs | r => r) = _
    rw [sqIter_err h k]
theorem sqIter_vec {n : Nat} {l0 : List (List Rat)} {j : Nat} {v} (h : sqIter n l0 j = .vec v) : ∀ k, sqIter n l0 (j + k) = .vec v
  | 0 => h
  | k + 1 => by
    show (match sqIter n l0 (j + k) with | .go l' ws fs => sqStep n (j + k) l' ws fs | r => r) = _
    rw [sqIter_vec h k]
theorem sqOut_err {n : Nat} {l0 : List (List Rat)} {j : Nat} (h : sqIter n l0 j = .err) (hj : j ≤ n) : sqOut (sqIter n l0 n) = ⟨2, [], [], []⟩ := by
  have := sqIter_err h (n - j)
  rw [Nat.add_sub_cancel' hj] at this
  rw [this]; rfl
theorem sqOut_vec {n : Nat} {l0 : List (List Rat)} {j : Nat} {v} (h : sqIter n l0 j = .vec v) (hj : j ≤ n) : sqOut (sqIter n l0 n) = ⟨0, [], [], v⟩ := by
  have := sqIter_vec h (n - j)
  rw [Nat.add_sub_cancel' hj] at this
  rw [this]; rfl
theorem short_good {q : Rat} (h : Good q) : (ofQ q).l1.length < 2^40 ∧ (ofQ q).l2.length < 2^40 := by
  have h1 := dig_128 h.1
  have h2 := dig_128 h.2
  exact ⟨Nat.lt_of_le_of_lt h1 (by omega), Nat.lt_of_le_of_lt h2 (by omega)⟩
theorem fCells_ones (fs : List (Option (List Rat))) : ∀ v ∈ fCells fs, v.cells.all AV.one = true := by
  intro u hu
  obtain ⟨f, _, rfl⟩ := List.mem_map.1 hu
  cases f <;> rfl
theorem lowOut_vec {M : Mem} {c n j : Nat} {l : List (List Rat)} {v : AV} {M' : Mem} (h : ¬ lowQ n j l = some none) (ho : lowOut M c n j l v M') : ∃ bv w x' e', v = .osl bv 4 0 n ∧ M bv = none ∧ M' = (M.set c ⟨61, 1, [x']⟩).set bv ⟨36, 4, rrs w⟩ ∧ isE x' e' ∧ w.length = n ∧ (∀ y ∈ w, y.Lb) ∧ VMode e' w ((lowQ n j l).bind id) := by
  unfold lowOut at ho
  cases hq : lowQ n j l with
  | none => rw [hq] at ho; exact ho
  | some o =>
    cases o with
    | none => exact absurd hq h
    | some w => rw [hq] at ho; exact ho
theorem only_ext {m : Mem} {c bv by_ : Nat} {x : AV} {w : List RR} {fs : List (Option (List Rat))} (hc : m c = some ⟨61, 1, [x]⟩) (hb : m bv = some ⟨36, 4, rrs w⟩) (hy : m by_ = some ⟨42, 1, fCells fs⟩) (h1 : c ≠ bv) (h2 : c ≠ by_) (h3 : bv ≠ by_) : m.only [c, bv, by_] = extM c bv by_ x w fs := by
  funext k
  unfold extM
  simp only [set_at, emp_at]
  by_cases k1 : k = by_
  · subst k1
    rw [only_in (by simp), if_pos rfl, hy]
  · rw [if_neg k1]
    by_cases k2 : k = bv
    · subst k2
      rw [only_in (by simp), if_pos rfl, hb]
    · rw [if_neg k2]
      by_cases k3 : k = c
      · subst k3
        rw [only_in (by simp), if_pos rfl, hc]
      · rw [if_neg k3, only_out (by simp [k1, k2, k3])]
/-- The forms that are there. -/
def fsL (fs : List (Option (List Rat))) (i : Nat) : List AV := (emb ((fs.take i).filterMap id)).map rowAV
theorem fsL_succ {fs : List (Option (List Rat))} {i : Nat} (h : i < fs.length) : fsL fs (i + 1) = match fs.getD i none with
    | none => fsL fs i
    | some f => fsL fs i ++ [rowAV (f.map ofQ)] := by
  have e : fs.getD i none = fs[i] := by rw [List.getD_eq_getElem?_getD, List.getElem?_eq_getElem h]; rfl
  rw [e]
  unfold fsL
  rw [List.take_add_one, List.getElem?_eq_getElem h, List.filterMap_append]
  cases fs[i] with
  | none => simp
  | some f => simp [emb]
def lvO (o : Option Nat) (l : List AV) : AV := match o with
  | none => .nil
  | some b => .osl b 1 0 l.length
def lmO (o : Option Nat) (l : List AV) : Mem := match o with
  | none => Mem.emp
  | some b => Mem.emp.set b ⟨42, 1, l⟩
theorem fsL_ones {fs : List (Option (List Rat))} {i : Nat} : ∀ v ∈ fsL fs i, v.cells.all AV.one = true := by
  intro v hv
  obtain ⟨r, _, rfl⟩ := List.mem_map.1 hv
  rfl
theorem fsL_length (fs : List (Option (List Rat))) (i : Nat) : (fsL fs i).length ≤ i := by
  unfold fsL
  rw [List.length_map, emb_length]
  exact Nat.le_trans (List.length_filterMap_le _ _) (by simp; omega)
theorem lmO_ones {fs : List (Option (List Rat))} {i : Nat} {o : Option Nat} : ∀ b y, lmO o (fsL fs i) b = some y → ∀ v ∈ y.l, v.cells.all AV.one = true := by
  intro b y hy
  cases o with
  | none => cases hy
  | some b0 =>
    simp only [lmO, set_at, emp_at] at hy
    split at hy
    · cases hy; exact fsL_ones
    · cases hy
theorem recast_push {m : Mem} {b b' n : Nat} {l : List AV} {r : List RR} (h1 : m b' = some ⟨42, 1, l ++ [.osl b 4 0 n]⟩) (h2 : m b = some ⟨36, 4, rrs r⟩) (hne : b ≠ b') (hn : r.length = n) (hl : ∀ v ∈ l, v.cells.all AV.one = true) : Recast m (Mem.emp.set b' ⟨42, 1, l ++ [rowAV r]⟩) := by
  refine ⟨fun k y hy => ?_⟩
  simp only [set_at, emp_at] at hy
  split at hy
  · rename_i e
    cases hy
    refine ⟨⟨42, 1, l ++ [.osl b 4 0 n]⟩, by rw [e]; exact h1, rfl, rfl, by simp, fun i v v' q1 q2 => ?_⟩
    rw [List.getElem?_append] at q1 q2
    split at q1
    · rw [if_pos (by assumption)] at q2
      rw [q1] at q2
      cases q2
      exact ⟨.same _, hl v (List.mem_of_getElem? q1)⟩
    · rw [if_neg (by assumption)] at q2
      cases hi : i - l.length with
      | zero =>
        rw [hi] at q1 q2
        cases q1
        cases q2
        refine ⟨view_row h2 ?_ hn, rfl⟩
        simp [hne]
      | succ k => rw [hi] at q1; cases q1
  · cases hy
theorem back_gset {m g : Mem} {l : List Nat} {b : Nat} (x : Blk) : m.back l (g.set b x) = (m.back l g).set b x := by
  funext k
  unfold Mem.back
  simp only [set_at]
  by_cases hk : k = b
  · subst hk; simp
  · rw [if_neg hk, if_neg hk]
theorem back_ones {m g : Mem} {l : List Nat} (h1 : ∀ b y, m b = some y → ∀ v ∈ y.l, v.cells.all AV.one = true) (h2 : ∀ b y, g b = some y → ∀ v ∈ y.l, v.cells.all AV.one = true) : ∀ b y, m.back l g b = some y → ∀ v ∈ y.l, v.cells.all AV.one = true := by
  intro b y hy
  unfold Mem.back at hy
  cases hg : g b with
  | some z => rw [hg] at hy; exact h2 b y (hg.trans hy)
  | none =>
    rw [hg] at hy
    simp only at hy
    split at hy
    · cases hy
    · exact h1 b y hy
set_option maxHeartbeats 2000000
theorem squaresL_call (m : List (List RR)) (hm : LbM m) : ACall Tryz.prog 31 [matAV m] Mem.emp fun v mm => v = sqAV (sqR m) ∧ mm = Mem.emp := by
  have hck := check_call m hm
  by_cases h0 : chk m = 0
  · obtain ⟨h1, h2, h3, h4, h5⟩ := chk_emb hm h0
    have hRy : (m.length = (mrow m 0).length ∧ symm (unq m) m.length) → sqR m = sqOut (sqIter m.length (unq m) m.length) := fun h => by unfold sqR; rw [if_neg (by simp [h0]), if_pos h]
    have hRn : ¬ (m.length = (mrow m 0).length ∧ symm (unq m) m.length) → sqR m = ⟨1, [], [], []⟩ := fun h => by unfold sqR; rw [if_neg (by simp [h0]), if_neg h]
    have hlen := unq_length m
    have hsy := symmetric_call (unq m) m.length ⟨h2, h3, hlen⟩ h4 h5
    rw [h0] at hck
    have hw0 : (mrow (unq m) 0).length = (mrow m 0).length := by rw [unq_row, List.length_map]
    have hcl := clone_call m (by rw [h1]; exact short_emb h2) (by omega) (fun r hr => by
      obtain ⟨i, hi, rfl⟩ := mem_row hr
      have := h3 i (by rw [hlen]; exact hi)
      rw [unq_row, List.length_map] at this
      omega)
    rw [← h1, hw0] at hsy
    rw [hw0] at h3 h5
    clear hw0
    generalize unq m = l0 at *
    generalize hn : m.length = n at *
    refine acall_S Tryz.func31 rfl rfl 110 rfl (Nat.le_of_ble_eq_true rfl) ?_
    (repeat refine AW.seq_k fun K hK => ?_)
    refine AW.rg ?_
    simp [argsL]
    try (refine hK _ rfl ?_; clear hK; clear K)
    (repeat refine AW.seq_k fun K hK => ?_)
    refine AW.rg ?_
    simp
    try (refine hK _ rfl ?_; clear hK; clear K)
    refine CallK.val hck ?_
    simp
    refine hK _ rfl ?_
    clear hK
    clear K
    (repeat refine AW.seq_k fun K hK => ?_)
    refine AW.rg ?_
    simp
    try (refine hK _ rfl ?_; clear hK; clear K)
    refine AW.no ?_ rfl
    refine AW.skip ?_
    try simp
    refine hK _ rfl ?_
    clear hK
    clear K
    (repeat refine AW.seq_k fun K hK => ?_)
    refine AW.rg ?_
    simp
    try (refine hK _ rfl ?_; clear hK; clear K)
    refine CallK.pure (R := fun v => ∃ t, v = .bool t ∧ (t = true ↔ n = (mrow m 0).length ∧ symm l0 n)) (hsy.mono fun v mm ⟨t, q1, q2, q3⟩ => ⟨⟨t, q1, q2⟩, q3⟩) ?_
    rintro _ ⟨t, rfl, ht⟩
    simp
    refine hK _ rfl ?_
    clear hK
    clear K
    cases t
    · refine AW.yes ?_ rfl
      rw [hRn (fun h => by have := ht.2 h; cases this)]
      (repeat refine AW.seq_k fun K hK => ?_)
      refine AW.rg ?_
      simp
      try (refine hK _ rfl ?_; clear hK; clear K)
      exact AW.ret (ret_views [rowAV [], matAV [], rowAV [], .int .i64 1] rfl ⟨.nilsl 4, .nilsl 1, .nilsl 4, .same _, trivial⟩ ⟨rfl, rfl⟩)
    · refine AW.no ?_ rfl
      refine AW.skip ?_
      try simp
      refine hK _ rfl ?_
      clear hK
      clear K
      obtain ⟨hsq, hsym⟩ := ht.1 rfl
      rw [hRy ⟨hsq, hsym⟩]
      clear hRy hRn
      rw [← hsq] at h3 h5
      clear ht hsy hck
      have hX0 : matGood n n l0 := ⟨h2, h3, hlen⟩
      rw [h1] at hcl ⊢
      clear h1 h2 h3 hlen hsym hm h0 hsq hn
      (repeat refine AW.seq_k fun K hK => ?_)
      refine AW.rg ?_
      simp
      try (refine hK _ rfl ?_; clear hK; clear K)
      refine Fresh.intro fun c hc => ?_
      refine hK _ rfl ?_
      clear hK
      clear K
      (repeat refine AW.seq_k fun K hK => ?_)
      refine AW.rg ?_
      simp
      try (refine hK _ rfl ?_; clear hK; clear K)
      refine CallK.news hcl ?_
      rintro _ g ⟨B, bs, rfl, g1, g2⟩ hf
      have hM := RedM.start g1 g2 (c := c) (x := .agg [.int .i64 0]) (fun b hb => (hf b hb).1)
      clear g1 g2 hf hc
      generalize (Mem.emp.set c ⟨61, 1, [.agg [.int .i64 0]]⟩).back [] g = M0 at *
      simp
      refine hK _ rfl ?_
      clear hK
      clear K
      (repeat refine AW.seq_k fun K hK => ?_)
      refine AW.rg ?_
      simp
      try (refine hK _ rfl ?_; clear hK; clear K)
      refine ⟨by omega, Fresh.intro fun by_ hby => ?_⟩
      refine hK _ rfl ?_
      clear hK
      clear K
      have hS0 := SqMem.start (fs := List.replicate n .nil) hM hby
      refine AW.seq_ex (ι := SqS) (fun s => [(3, .nil), (9, .osl by_ 1 0 n), (2, s.ov)]) (fun s => s.M) (fun s => InvS n l0 c B bs by_ n s) ?_ ?_
      · (repeat refine AW.seq_k fun K hK => ?_)
        refine AW.rg ?_
        simp
        try (refine hK _ rfl ?_; clear hK; clear K)
        refine AW.block (AW.loopS (ι := Nat × SqS) (fun z => [(3, .nil), (7, .ptr c 1 0 0), (8, .osl B 1 0 n), (9, .osl by_ 1 0 n), (2, z.2.ov), (30, .int .i64 n), (31, .int .i64 (z.1 : Nat))]) (fun z => z.2.M) (fun z => z.1 ≤ n ∧ InvS n l0 c B bs by_ z.1 z.2) (fun z => n - z.1) (0, ⟨l0, [], List.replicate n none, _, .agg [.int .i64 0], .nil, []⟩) ⟨by simp, rfl, hX0, by simp, ?_, by simp, (fun q hq => by cases hq), ?_, rfl, ?_⟩ rfl (by simp) ?_)
        · intro i f hfi
          rw [List.getD_eq_getElem?_getD, List.getElem?_replicate] at hfi
          split at hfi <;> cases hfi
        · rw [show fCells (List.replicate n none) = List.replicate n .nil by simp [fCells, fCell]]
          exact hS0
        · exact OnesM.set (hM.ones (e := 0) rfl) by_ (fun v hv => by simp at hv; rw [hv.2]; rfl)
        rintro ⟨j, l, ws, fs, M, x, ov, ob⟩ ⟨i0, i1, i2, i3, i4, i5, i6, i7, i8, i9⟩
        simp only at i0 i1 i2 i3 i4 i5 i6 i7 i8 i9
        (repeat refine AW.seq_k fun K hK => ?_)
        refine AW.rg ?_
        simp
        try (refine hK _ rfl ?_; clear hK; clear K)
        (repeat refine AW.seq ?_)
        refine AW.cs (fun hj => ?_) (fun hj => ?_) rfl <;> (try simp at hj)
        · refine AW.skip ?_
          try simp
          have w1 : IntKind.i64.wrap ((j + 1 : Nat) : Int) = ((j + 1 : Nat) : Int) := wi (by omega)
          have hjE : j < (emb l).length := by rw [emb_length, i2.2.2]; exact hj
          have hlE : (mrow (emb l) j).length = n := by rw [emb_row, List.length_map]; exact (i2.row hj).2
          have hlj : j < (mrow l j).length := by rw [(i2.row hj).2]; exact hj
          have ej : rr (mrow (emb l) j) j = ofQ (qel l j j) := by rw [emb_row, rr_map hlj]; rfl
          have gj : Good (qel l j j) := i2.1.at hlj
          have hsg := rsign_call (ofQ (qel l j j)) (ofQ_lb _)
          rw [signR_ofQ gj] at hsg
          have hsh := short_good gj
          have how := own_call (ofQ (qel l j j)) hsh.1 hsh.2
          have hgo := sqIter_go i1
          have hTop := i7.top
          have hRow := i7.row hjE
          have hGet := i7.red.mat.get hjE
          refine AW.seq_ex (ι := SqS) (fun s => [(3, .nil), (7, .ptr c 1 0 0), (8, .osl B 1 0 n), (9, .osl by_ 1 0 n), (2, s.ov), (30, .int .i64 n), (31, .int .i64 (j : Nat))]) (fun s => s.M) (fun s => InvS n l0 c B bs by_ (j + 1) s) ?_ ?_
          · (repeat refine AW.seq ?_)
            refine AW.block ?_
            (repeat refine AW.seq_k fun K hK => ?_)
            refine AW.rg ?_
            simp
            try (refine hK _ rfl ?_; clear hK; clear K)
            refine AW.seq_ex (ι := Unit) (fun _ => [(3, .nil), (7, .ptr c 1 0 0), (8, .osl B 1 0 n), (9, .osl by_ 1 0 n), (30, .int .i64 n), (31, .int .i64 (j : Nat)), (10, .int .i64 (j : Nat)), (2, ov)]) (fun _ => M) (fun _ => ¬ 0 < signQ (qel l j j)) ?_ ?_
            · (repeat refine AW.seq_k fun K hK => ?_)
              refine AW.rg ?_
              simp [hj, hTop, ↓hGet, hRow, hlE, ej]
              try (refine hK _ rfl ?_; clear hK; clear K)
              refine CallK.val hsg ?_
              simp
              refine hK _ rfl ?_
              clear hK
              clear K
              (repeat refine AW.seq ?_)
              refine AW.cs (fun hpos => ?_) (fun hpos => ?_) rfl <;> (try simp at hpos)
              · have hd : qel l j j ≠ 0 := by
                  intro h
                  rw [h] at hpos
                  simp [signQ] at hpos
                have hst : sqIter n l0 (j + 1) = match splitQ n j l with
                    | none => .err
                    | some z => .go z.2 (ws ++ [qel l j j]) (fs.set j (some z.1)) := by
                  rw [hgo]; unfold sqStep; rw [if_pos hpos]; rfl
                refine AW.seq_ex (ι := Mem × Nat) (fun z => [(3, .nil), (7, .ptr c 1 0 0), (8, .osl B 1 0 n), (9, .osl by_ 1 0 n), (30, .int .i64 n), (31, .int .i64 (j : Nat)), (10, .int .i64 (j : Nat)), (2, .osl z.2 4 0 (ws.length + 1))]) (fun z => z.1) (fun z => SqMem z.1 c B bs (emb l) x by_ (fCells fs) (.osl z.2 4 0 (ws.length + 1)) [z.2] (wCells (ws ++ [qel l j j])) ∧ OnesM z.1) ?_ ?_
                · rcases i7.lst with ⟨z1, z2, z3⟩ | ⟨b0, z2, z3, z4⟩
                  · have hws : ws = [] := by
                      unfold wCells at z1
                      simpa using z1
                    subst hws z2 z3
                    (repeat refine AW.seq_k fun K hK => ?_)
                    refine AW.rgR [52] ?_
                    simp [hj, hTop, ↓hGet, hRow, hlE, ej]
                    try (refine hK _ rfl ?_; clear hK; clear K)
                    refine CallK.val how ?_
                    simp
                    exact ⟨by unfold maxLen; omega, Fresh.intro fun b hb => ⟨i7.push0 hb _, i9.set b (fun v hv => by simp at hv; subst hv; rfl)⟩⟩
                  · subst z2 z3
                    have hwl : (wCells ws).length = ws.length := by simp [wCells]
                    (repeat refine AW.seq_k fun K hK => ?_)
                    refine AW.rgR [52] ?_
                    simp [hj, hTop, ↓hGet, hRow, hlE, ej, z4, hwl]
                    try (refine hK _ rfl ?_; clear hK; clear K)
                    refine CallK.val how ?_
                    simp [z4, hwl]
                    have hq : wCells (ws ++ [qel l j j]) = wCells ws ++ [(ofQ (qel l j j)).av] := by simp [wCells]
                    refine ⟨by omega, by unfold maxLen; omega, Fresh.intro fun b hb => ⟨?_, (i9.del b0).set b (fun v hv => ?_)⟩⟩
                    · have := i7.push1 hb (ofQ (qel l j j)).av
                      rw [hwl] at this
                      rw [hq]; exact this
                    · rcases List.mem_append.1 hv with h | h
                      · obtain ⟨q, _, rfl⟩ := List.mem_map.1 h
                        rfl
                      · simp at h; subst h; rfl
                rintro ⟨M1, bw⟩ ⟨k1, k2⟩
                simp only at k1 k2
                have hp := split_call _ c B bs l x n j k1.red i8 i2 hj (by omega) hd
                (repeat refine AW.seq_k fun K hK => ?_)
                refine AW.rg ?_
                simp
                try (refine hK _ rfl ?_; clear hK; clear K)
                refine CallK.hand (c :: B :: bs) (by simp) hp ?_
                rintro v g ⟨bv, M2, form, rows', x', e', rfl, rfl, r1, r2, r3, r4, r5, r6⟩ hf
                have hbv : bv ∉ c :: B :: bs := by
                  obtain ⟨f1, f2, f3, _⟩ := r1.fresh r2
                  simp [f1, f2, f3]
                have hbM : M1 bv = none := by
                  rcases hf bv (by simp) with h | h
                  · exact absurd h hbv
                  · exact h.1
                rw [back_gset]
                have k3 := k1.back r1
                have k4 := back_ones (l := c :: B :: bs) k2 (r1.ones r3)
                have k5 : (M1.back (c :: B :: bs) M2) bv = none := by rw [back_out r2 hbv]; exact hbM
                clear hf hp
                generalize M1.back (c :: B :: bs) M2 = M3 at *
                have hbb : by_ ≠ bv := by rintro rfl; rw [k3.by'] at k5; cases k5
                have hfl := fCells_length fs
                have hxe : x'.cells = [.int .i64 e'] := r3
                simp [hj, hbb, k3.by', hfl, i3]
                refine hK _ rfl ?_
                clear hK
                clear K
                have k6 := k3.store (form := form) r3 k5 r4 (fCells_ones fs) k4 (j := j) (by rw [hfl, i3]; exact hj)
                refine AW.turn [(3, .nil), (7, .ptr c 1 0 0), (8, .osl B 1 0 n), (9, .osl by_ 1 0 n), (30, .int .i64 n), (31, .int .i64 (j : Nat)), (10, .int .i64 (j : Nat)), (2, .osl bw 4 0 (ws.length + 1))] (M3.set by_ ⟨42, 1, (fCells fs).set j (rowAV form)⟩) k6 (by simp) ?_
                have k7 := k3.setBy ((fCells fs).set j (rowAV form))
                have k8 : ∀ b y, (M3.set by_ ⟨42, 1, (fCells fs).set j (rowAV form)⟩) b = some y → ∀ v ∈ y.l, v.cells.all AV.one = true := by
                  intro b y hy
                  simp only [set_at] at hy
                  split at hy
                  · cases hy
                    intro u hu
                    rcases List.mem_or_eq_of_mem_set hu with h | rfl
                    · exact fCells_ones fs u h
                    · rfl
                  · exact k4 b y hy
                clear k6 k3 k4 k5
                generalize M3.set by_ ⟨42, 1, (fCells fs).set j (rowAV form)⟩ = M4 at *
                cases hsp : splitQ n j l with
                | none =>
                  rw [hsp] at r6 hst
                  replace r6 : e' = 2 := r6
                  subst r6
                  rw [sqOut_err hst (by omega)]
                  (repeat refine AW.seq_k fun K hK => ?_)
                  refine AW.rg ?_
                  simp [k7.cell, hxe]
                  try (refine hK _ rfl ?_; clear hK; clear K)
                  refine AW.yes ?_ rfl
                  (repeat refine AW.seq_k fun K hK => ?_)
                  refine AW.rdA c [0, 1, 2, 3, 4, 5, 6, 7] mix (by simp [k7.cell, hxe]) ?_
                  simp [k7.cell, hxe]
                  try (refine hK _ rfl ?_; clear hK; clear K)
                  exact AW.ret (ret_views [rowAV [], matAV [], rowAV [], .int .i64 2] rfl ⟨.nilsl 4, .nilsl 1, .nilsl 4, .same _, trivial⟩ ⟨rfl, rfl⟩)
                | some z =>
                  rw [hsp] at r6 hst
                  obtain ⟨rfl, rfl, s3, rfl, s5⟩ : e' = 0 ∧ form = z.1.map ofQ ∧ rowGood z.1 ∧ rows' = emb z.2 ∧ matGood n n z.2 := r6
                  (repeat refine AW.seq_k fun K hK => ?_)
                  refine AW.rg ?_
                  simp [k7.cell, hxe]
                  try (refine hK _ rfl ?_; clear hK; clear K)
                  refine AW.no ?_ rfl
                  refine AW.skip ?_
                  try simp
                  refine hK _ rfl ?_
                  clear hK
                  clear K
                  refine AW.exit ?_
                  try simp
                  refine ⟨⟨z.2, ws ++ [qel l j j], fs.set j (some z.1), M4, x', .osl bw 4 0 (ws.length + 1), [bw]⟩, ⟨hst, s5, by rw [List.length_set]; exact i3, ?_, by simp; omega, ?_, ?_, r3, k8⟩, by simp⟩
                  · intro i f hfi
                    rw [List.getD_eq_getElem?_getD, List.getElem?_set] at hfi
                    by_cases hij : j = i
                    · rw [if_pos hij] at hfi
                      split at hfi
                      · cases hfi
                        refine ⟨s3, ?_⟩
                        rw [List.length_map] at r4; exact r4
                      · cases hfi
                    · rw [if_neg hij, ← List.getD_eq_getElem?_getD] at hfi
                      exact i4 i f hfi
                  · intro q hq
                    rcases List.mem_append.1 hq with h | h
                    · exact i6 q h
                    · simp at h; subst h; exact gj
                  · rw [show fCells (fs.set j (some z.1)) = (fCells fs).set j (rowAV (z.1.map ofQ)) by unfold fCells; rw [List.map_set]; rfl]
                    exact k7
              · refine AW.skip ?_
                try simp
                exact hpos
            rintro _ hpos
            have hlo := low_call _ c B bs l x n j i7.red i8 i2 hj (by omega)
            have hst : sqIter n l0 (j + 1) = match lowQ n j l with
                | none => .err
                | some none => .go l ws fs
                | some (some v) => match extQ fs n j v with
                  | none => .err
                  | some v' => .vec v' := by
              rw [hgo]; unfold sqStep; rw [if_neg hpos]; rfl
            have hxe : x.cells = [.int .i64 0] := i8
            (repeat refine AW.seq_k fun K hK => ?_)
            refine AW.rg ?_
            simp
            try (refine hK _ rfl ?_; clear hK; clear K)
            refine CallK.hand (c :: B :: bs) (by simp) hlo ?_
            intro v g hv hf
            by_cases hln : lowQ n j l = some none
            · unfold lowOut at hv
              rw [hln] at hv hst
              obtain ⟨rfl, rfl⟩ := hv
              rw [back_only]
              simp
              refine hK _ rfl ?_
              clear hK
              clear K
              (repeat refine AW.seq_k fun K hK => ?_)
              refine AW.rg ?_
              simp
              try (refine hK _ rfl ?_; clear hK; clear K)
              refine AW.no ?_ rfl
              refine AW.skip ?_
              try simp
              refine hK _ rfl ?_
              clear hK
              clear K
              (repeat refine AW.seq_k fun K hK => ?_)
              refine AW.rg ?_
              simp [i7.cell, hxe]
              try (refine hK _ rfl ?_; clear hK; clear K)
              refine AW.no ?_ rfl
              refine AW.skip ?_
              try simp
              refine hK _ rfl ?_
              clear hK
              clear K
              (repeat refine AW.seq_k fun K hK => ?_)
              refine AW.rg ?_
              simp
              try (refine hK _ rfl ?_; clear hK; clear K)
              refine AW.no ?_ rfl
              refine AW.skip ?_
              try simp
              exact ⟨⟨l, ws, fs, M, x, ov, ob⟩, ⟨hst, i2, i3, i4, by show ws.length ≤ j + 1; omega, i6, i7, i8, i9⟩, rfl, rfl⟩
            · obtain ⟨bv, w, x', e', rfl, q1, rfl, q3, q4, q5, q6⟩ := lowOut_vec hln hv
              have hst2 : sqIter n l0 (j + 1) = match ((lowQ n j l).bind id).bind (extQ fs n j) with
                  | none => .err
                  | some v' => .vec v' := by
                rw [hst]
                cases hlq : lowQ n j l with
                | none => rfl
                | some o =>
                  cases o with
                  | none => exact absurd hlq hln
                  | some v => rfl
              have hbM : M bv = none := by
                by_cases hm : bv ∈ c :: B :: bs
                · rw [only_in hm] at q1; exact q1
                · rcases hf bv (by simp) with h | h
                  · exact absurd h hm
                  · exact h.1
              have hbc : bv ≠ c := by rintro rfl; rw [i7.cell] at hbM; cases hbM
              have hbb : bv ≠ by_ := by rintro rfl; rw [i7.by'] at hbM; cases hbM
              have hcb : c ≠ by_ := fun h => i7.nby (by simp [h])
              rw [back_gset, back_gset, back_only]
              simp
              refine hK _ rfl ?_
              clear hK
              clear K
              refine AW.seq_ex (ι := AV × Int × List RR × Mem) (fun z => [(3, .nil), (7, .ptr c 1 0 0), (8, .osl B 1 0 n), (9, .osl by_ 1 0 n), (30, .int .i64 n), (31, .int .i64 (j : Nat)), (10, .int .i64 (j : Nat)), (2, ov), (11, .osl bv 4 0 n)]) (fun z => z.2.2.2) (fun z => isE z.1 z.2.1 ∧ z.2.2.1.length = n ∧ z.2.2.2 c = some ⟨61, 1, [z.1]⟩ ∧ z.2.2.2 bv = some ⟨36, 4, rrs z.2.2.1⟩ ∧ VMode z.2.1 z.2.2.1 (((lowQ n j l).bind id).bind (extQ fs n j))) ?_ ?_
              · (repeat refine AW.seq_k fun K hK => ?_)
                refine AW.rg ?_
                simp
                try (refine hK _ rfl ?_; clear hK; clear K)
                refine AW.yes ?_ rfl
                have hex := extend_call c bv by_ x' e' w _ fs n j (Ne.symm hbc) hcb hbb q3 q4 q5 q6 i3 i4 hj (by omega)
                rw [← only_ext (m := (M.set c ⟨61, 1, [x']⟩).set bv ⟨36, 4, rrs w⟩) (by simp [Ne.symm hbc]) (by simp) (by simp [Ne.symm hbb, Ne.symm hcb, i7.by']) (Ne.symm hbc) hcb hbb] at hex
                (repeat refine AW.seq_k fun K hK => ?_)
                refine AW.rg ?_
                simp
                try (refine hK _ rfl ?_; clear hK; clear K)
                refine CallK.hand [c, bv, by_] (by simp) hex ?_
                rintro v g ⟨x2, e2, v2, rfl, rfl, s1, s2, s3, s4⟩ _
                simp
                refine ⟨x2, e2, s1, v2, s2, back_some ?_, back_some ?_, s4⟩
                · unfold extM; simp [Ne.symm hbc, hcb]
                · unfold extM; simp [hbb]
              clear hf
              rintro ⟨x2, e2, v2, M2⟩ ⟨t1, t2, t3, t4, t5⟩
              simp only at t1 t2 t3 t4 t5
              have hx2 : x2.cells = [.int .i64 e2] := t1
              (repeat refine AW.seq_k fun K hK => ?_)
              refine AW.rg ?_
              simp [t3, hx2]
              try (refine hK _ rfl ?_; clear hK; clear K)
              cases hZ : ((lowQ n j l).bind id).bind (extQ fs n j) with
              | none =>
                rw [hZ] at t5 hst2
                replace t5 : e2 = 2 := t5
                subst t5
                rw [sqOut_err hst2 (by omega)]
                refine AW.yes ?_ rfl
                (repeat refine AW.seq_k fun K hK => ?_)
                refine AW.rdA c [0, 1, 2, 3, 4, 5, 6, 7] mix (by simp [t3, hx2]) ?_
                simp [t3, hx2]
                try (refine hK _ rfl ?_; clear hK; clear K)
                exact AW.ret (ret_views [rowAV [], matAV [], rowAV [], .int .i64 2] rfl ⟨.nilsl 4, .nilsl 1, .nilsl 4, .same _, trivial⟩ ⟨rfl, rfl⟩)
              | some v' =>
                rw [hZ] at t5 hst2
                obtain ⟨rfl, rfl, t7⟩ : e2 = 0 ∧ v2 = v'.map ofQ ∧ rowGood v' := t5
                refine AW.no ?_ rfl
                refine AW.skip ?_
                try simp
                refine hK _ rfl ?_
                clear hK
                clear K
                (repeat refine AW.seq_k fun K hK => ?_)
                refine AW.rg ?_
                simp
                try (refine hK _ rfl ?_; clear hK; clear K)
                refine AW.yes ?_ rfl
                (repeat refine AW.seq_k fun K hK => ?_)
                refine AW.rg ?_
                simp
                try (refine hK _ rfl ?_; clear hK; clear K)
                rw [sqOut_vec hst2 (by omega)]
                exact AW.ret (ret_views [rowAV [], matAV [], rowAV (v'.map ofQ), .int .i64 0] rfl ⟨.nilsl 4, .nilsl 1, view_row t4 rfl t2, .same _, trivial⟩ ⟨rfl, rfl⟩)
          rintro ⟨l, ws, fs, M, x, ov, ob⟩ hs
          (repeat refine AW.seq_k fun K hK => ?_)
          refine AW.rg ?_
          simp [-Int.natCast_add, w1]
          try (refine hK _ rfl ?_; clear hK; clear K)
          exact ⟨j + 1, ⟨l, ws, fs, M, x, ov, ob⟩, ⟨hj, hs⟩, by omega, by simp⟩
        · refine AW.exit ?_
          try simp
          have : j = n := by omega
          subst this
          exact ⟨⟨l, ws, fs, M, x, ov, ob⟩, ⟨i1, i2, i3, i4, i5, i6, i7, i8, i9⟩, by simp⟩
      rintro ⟨l, ws, fs, M, x, ov, ob⟩ ⟨i1, i2, i3, i4, i5, i6, i7, i8, i9⟩
      simp only at i1 i2 i3 i4 i5 i6 i7 i8 i9
      rw [i1]
      have hvw := i7.lst.view (M' := Mem.emp) (fun _ _ => rfl)
      have hvb : View M Mem.emp (.osl by_ 1 0 n) (.sl 1 (fCells fs)) := by
        refine .osl by_ 1 0 n _ _ i7.by' rfl rfl (by rw [fCells_length, i3]) (by simp [fCells_length, i3]) fun a u u' g1 g2 => ?_
        simp only [Nat.zero_add] at g1
        rw [g1] at g2
        cases g2
        exact .same _
      refine AW.toEmp [(2, .sl 4 (wCells ws)), (3, .nil), (9, .sl 1 (fCells fs))] (by simp; exact ⟨hvw, hvb⟩) ?_
      have hfl := fCells_length fs
      clear i1 i2 i7 i8 i9 hvw hvb
      have hsn : ∀ i, i < n → fsL fs (i + 1) = match fs.getD i none with
          | none => fsL fs i
          | some f => fsL fs i ++ [rowAV (f.map ofQ)] := fun i hi => fsL_succ (by omega)
      refine AW.seq_ex (ι := Option Nat) (fun o => [(2, .sl 4 (wCells ws)), (3, lvO o (fsL fs n))]) (fun o => lmO o (fsL fs n)) (fun o => o = none → fsL fs n = []) ?_ ?_
      · (repeat refine AW.seq_k fun K hK => ?_)
        refine AW.rg ?_
        simp [hfl, i3]
        try (refine hK _ rfl ?_; clear hK; clear K)
        refine AW.block (AW.loopS (ι := Nat × Option Nat) (fun z => [(2, .sl 4 (wCells ws)), (94, .sl 1 (fCells fs)), (95, .int .i64 n), (96, .int .i64 (z.1 : Nat)), (3, lvO z.2 (fsL fs z.1))]) (fun z => lmO z.2 (fsL fs z.1)) (fun z => z.1 ≤ n ∧ (z.2 = none → fsL fs z.1 = [])) (fun z => n - z.1) (0, none) ⟨by simp, fun _ => by simp [fsL, emb]⟩ rfl (by simp [lvO]) ?_)
        rintro ⟨i, o⟩ ⟨q1, q2⟩
        simp only at q1 q2
        (repeat refine AW.seq_k fun K hK => ?_)
        refine AW.rg ?_
        simp
        try (refine hK _ rfl ?_; clear hK; clear K)
        (repeat refine AW.seq ?_)
        refine AW.cs (fun hi => ?_) (fun hi => ?_) rfl <;> (try simp at hi)
        · refine AW.skip ?_
          try simp
          have w1 : IntKind.i64.wrap ((i + 1 : Nat) : Int) = ((i + 1 : Nat) : Int) := wi (by omega)
          have hgc := fCells_get (fs := fs) (i := i) (by omega)
          have hsi := hsn i hi
          refine AW.seq_ex (ι := Option Nat × Mem) (fun z => [(2, .sl 4 (wCells ws)), (94, .sl 1 (fCells fs)), (95, .int .i64 n), (96, .int .i64 (i : Nat)), (3, lvO z.1 (fsL fs (i + 1)))]) (fun z => z.2) (fun z => Recast z.2 (lmO z.1 (fsL fs (i + 1))) ∧ (z.1 = none → fsL fs (i + 1) = [])) ?_ ?_
          · (repeat refine AW.seq ?_)
            refine AW.block ?_
            cases hfi : fs.getD i none with
            | none =>
              rw [hfi] at hgc hsi
              have hgc : (fCells fs)[i]? = some .nil := hgc
              replace hsi : fsL fs (i + 1) = fsL fs i := hsi
              rw [hsi]
              (repeat refine AW.seq_k fun K hK => ?_)
              refine AW.rg ?_
              simp [hi, hfl, i3, ↓hgc]
              try (refine hK _ rfl ?_; clear hK; clear K)
              (repeat refine AW.seq_k fun K hK => ?_)
              refine AW.rg ?_
              simp
              try (refine hK _ rfl ?_; clear hK; clear K)
              refine AW.no ?_ rfl
              refine AW.skip ?_
              try simp
              exact ⟨o, _, ⟨Recast.sub fun b y hy => ⟨hy, lmO_ones b y hy⟩, q2⟩, rfl, rfl⟩
            | some f =>
              rw [hfi] at hgc hsi
              have hgc : (fCells fs)[i]? = some (rowAV (f.map ofQ)) := hgc
              replace hsi : fsL fs (i + 1) = fsL fs i ++ [rowAV (f.map ofQ)] := hsi
              rw [hsi]
              obtain ⟨fg, flen⟩ := i4 i f hfi
              have hne : f.map ofQ ≠ [] := by
                intro h
                have := congrArg List.length h
                rw [List.length_map, flen] at this
                simp at this
                omega
              have hnil := isNil_row hne
              have hfR : (f.map ofQ).length = n := by rw [List.length_map, flen]
              have hoa := ownAll_call (f.map ofQ) (fun y hy => by
                obtain ⟨q, hq, rfl⟩ := List.mem_map.1 hy
                exact short_good (fg q hq)) (by omega)
              rw [hfR] at hoa
              have hll := fsL_length fs i
              have hlo : ∀ v ∈ fsL fs i, v.cells.all AV.one = true := fsL_ones
              generalize fsL fs i = l at *
              (repeat refine AW.seq_k fun K hK => ?_)
              refine AW.rg ?_
              simp [hi, hfl, i3, ↓hgc]
              try (refine hK _ rfl ?_; clear hK; clear K)
              (repeat refine AW.seq_k fun K hK => ?_)
              refine AW.rg ?_
              simp [hnil]
              try (refine hK _ rfl ?_; clear hK; clear K)
              refine AW.yes ?_ rfl
              cases o with
              | none =>
                have := q2 rfl
                subst this
                simp only [lvO, lmO]
                (repeat refine AW.seq_k fun K hK => ?_)
                refine AW.rgR [105] ?_
                simp
                try (refine hK _ rfl ?_; clear hK; clear K)
                refine CallK.make hoa ?_
                rintro b _ _ ⟨rfl, rfl⟩ hb _
                simp
                refine ⟨by unfold maxLen; omega, Fresh.intro fun b' hb' => ?_⟩
                have hbb : b ≠ b' := by rintro rfl; simp at hb'
                exact ⟨some b', _, ⟨recast_push (l := []) (r := f.map ofQ) (by simp) (by simp [hbb]) hbb hfR (by simp), by simp⟩, rfl, rfl⟩
              | some b0 =>
                simp only [lvO, lmO]
                (repeat refine AW.seq_k fun K hK => ?_)
                refine AW.rgR [105] ?_
                simp
                try (refine hK _ rfl ?_; clear hK; clear K)
                refine CallK.make hoa ?_
                rintro b _ _ ⟨rfl, rfl⟩ hb _
                have hb0 : b ≠ b0 := by rintro rfl; simp at hb
                simp [Ne.symm hb0]
                refine ⟨by omega, by unfold maxLen; omega, Fresh.intro fun b' hb' => ?_⟩
                have hbb : b ≠ b' := by rintro rfl; simp [Mem.del, hb0] at hb'
                exact ⟨some b', _, ⟨recast_push (l := l) (r := f.map ofQ) (by simp) (by simp [Mem.del, hbb, hb0]) hbb hfR hlo, by simp⟩, rfl, rfl⟩
          rintro ⟨o, M'⟩ ⟨k1, k2⟩
          refine AW.turn [(2, .sl 4 (wCells ws)), (94, .sl 1 (fCells fs)), (95, .int .i64 n), (96, .int .i64 (i : Nat)), (3, lvO o (fsL fs (i + 1)))] (lmO o (fsL fs (i + 1))) k1 (by simp) ?_
          (repeat refine AW.seq_k fun K hK => ?_)
          refine AW.rg ?_
          simp [-Int.natCast_add, w1]
          try (refine hK _ rfl ?_; clear hK; clear K)
          exact ⟨i + 1, o, ⟨hi, k2⟩, by omega, rfl, rfl, rfl⟩
        · refine AW.exit ?_
          try simp
          have : i = n := by omega
          subst this
          exact ⟨o, q2, rfl, rfl⟩
      rintro o ho
      (repeat refine AW.seq_k fun K hK => ?_)
      refine AW.rg ?_
      simp
      try (refine hK _ rfl ?_; clear hK; clear K)
      have hvo : View (lmO o (fsL fs n)) Mem.emp (lvO o (fsL fs n)) (.sl 1 (fsL fs n)) := by
        cases o with
        | none => rw [ho rfl]; exact .nilsl 1
        | some b =>
          refine .osl b 1 0 _ ⟨42, 1, fsL fs n⟩ _ (by simp [lmO]) rfl rfl rfl (by simp) fun a u u' g1 g2 => ?_
          simp only [Nat.zero_add] at g1
          rw [g1] at g2
          cases g2
          exact .same _
      have e1 : sqAV (sqOut (SqO.go l ws fs)) = .tup [.sl 4 (wCells ws), .sl 1 (fsL fs n), .sl 4 [], .int .i64 0] := by
        unfold sqAV sqOut fsL matAV rowAV wCells rrs
        rw [List.take_of_length_le (by omega), List.map_map]
        rfl
      rw [e1]
      exact AW.ret (ret_views [.sl 4 (wCells ws), .sl 1 (fsL fs n), .sl 4 [], .int .i64 0] rfl ⟨.same _, hvo, .nilsl 4, .same _, trivial⟩ ⟨rfl, rfl⟩)
  · have hR : sqR m = ⟨chk m, [], [], []⟩ := by unfold sqR; rw [if_pos (by simpa using h0)]
    rw [hR]
    generalize chk m = e at *
    refine acall_S Tryz.func31 rfl rfl 110 rfl (Nat.le_of_ble_eq_true rfl) ?_
    (repeat refine AW.seq_k fun K hK => ?_)
    refine AW.rg ?_
    simp [argsL]
    try (refine hK _ rfl ?_; clear hK; clear K)
    (repeat refine AW.seq_k fun K hK => ?_)
    refine AW.rg ?_
    simp
    try (refine hK _ rfl ?_; clear hK; clear K)
    refine CallK.val hck ?_
    simp
    refine hK _ rfl ?_
    clear hK
    clear K
    (repeat refine AW.seq_k fun K hK => ?_)
    refine AW.rg ?_
    simp [h0]
    try (refine hK _ rfl ?_; clear hK; clear K)
    refine AW.yes ?_ rfl
    (repeat refine AW.seq_k fun K hK => ?_)
    refine AW.rg ?_
    simp
    try (refine hK _ rfl ?_; clear hK; clear K)
    exact AW.ret (ret_views [rowAV [], matAV [], rowAV [], .int .i64 e] rfl ⟨.nilsl 4, .nilsl 1, .nilsl 4, .same _, trivial⟩ ⟨rfl, rfl⟩)
end Go.Av
end
section
/- Comparing results. -/
namespace Go.Av
open Go.Proofs
/-- A function that says whether two values are the same. -/
def saysEq (p : Prop) (v : AV) : Prop := ∃ t : Bool, v = .bool t ∧ (t = true ↔ p)
theorem list_ext_nth {a b : List Nat} (h : a.length = b.length) (he : ∀ k, k < a.length → nth a k = nth b k) : a = b := by
  refine List.ext_getElem h fun k h1 h2 => ?_
  have := he k h1
  unfold nth at this
  rwa [List.getD_eq_getElem?_getD, List.getD_eq_getElem?_getD, List.getElem?_eq_getElem h1, List.getElem?_eq_getElem h2] at this
theorem ints2_call (n1 n2 : Bool) (l1 l2 : List Nat) (h1 : l1.length < 2^40) : ACall Tryz.prog 62 [.agg [.bool n1, lim l1], .agg [.bool n2, lim l2]] Mem.emp fun v m => saysEq (n1 = n2 ∧ l1 = l2) v ∧ m = Mem.emp := by
  by_cases hn : n1 = n2
  · subst hn
    by_cases hl : l1.length = l2.length
    · refine acall_S Tryz.func62 rfl rfl 38 rfl (Nat.le_of_ble_eq_true rfl) ?_
      (repeat refine AW.seq_k fun K hK => ?_)
      refine AW.rgR [2,3] ?_
      simp [argsL]
      try (refine hK _ rfl ?_; clear hK; clear K)
      (repeat refine AW.seq_k fun K hK => ?_)
      refine AW.rg ?_
      simp [hl]
      try (refine hK _ rfl ?_; clear hK; clear K)
      refine AW.no ?_ (by simp)
      refine AW.skip ?_
      try simp
      refine hK _ rfl ?_
      clear hK
      clear K
      refine AW.seq_ex (ι := Unit) (fun _ => []) (fun _ => Mem.emp) (fun _ => l1 = l2) ?_ ?_
      · (repeat refine AW.seq_k fun K hK => ?_)
        refine AW.rg ?_
        simp
        try (refine hK _ rfl ?_; clear hK; clear K)
        refine AW.block (AW.loopS (ι := Nat) (fun i => [(2, .rptr [.bool n1, lim l1]), (3, .rptr [.bool n1, lim l2]), (5, .int .i64 (i : Nat))]) (fun _ => Mem.emp) (fun i => i ≤ l1.length ∧ ∀ k, k < i → nth l1 k = nth l2 k) (fun i => l1.length - i) 0 ⟨by simp, by simp⟩ rfl (by simp) ?_)
        rintro i ⟨g1, g2⟩
        (repeat refine AW.seq_k fun K hK => ?_)
        refine AW.rg ?_
        simp
        try (refine hK _ rfl ?_; clear hK; clear K)
        (repeat refine AW.seq ?_)
        refine AW.cs (fun hi => ?_) (fun hi => ?_) rfl <;> (try simp at hi)
        · refine AW.skip ?_
          try simp
          refine hK _ rfl ?_
          clear hK
          clear K
          have hi2 : i < l2.length := by omega
          have w1 : IntKind.i64.wrap ((i + 1 : Nat) : Int) = ((i + 1 : Nat) : Int) := wi (by omega)
          refine AW.seq_ex (ι := Unit) (fun _ => [(2, .rptr [.bool n1, lim l1]), (3, .rptr [.bool n1, lim l2]), (5, .int .i64 (i : Nat))]) (fun _ => Mem.emp) (fun _ => nth l1 i = nth l2 i) ?_ ?_
          · (repeat refine AW.seq ?_)
            refine AW.block ?_
            (repeat refine AW.seq_k fun K hK => ?_)
            refine AW.rd [0, 1, 2, 3, 4, 5, 6, 7, 8, 9, 10] mix ?_
            simp [hi, hi2]
            try (refine hK _ rfl ?_; clear hK; clear K)
            by_cases h0 : nth l1 i = nth l2 i
            · refine AW.no ?_ (by simp [h0])
              exact AW.skip ⟨(), h0, by simp⟩
            · refine AW.yes ?_ (by simp [h0])
              (repeat refine AW.seq_k fun K hK => ?_)
              refine AW.rg ?_
              simp
              try (refine hK _ rfl ?_; clear hK; clear K)
              exact AW.ret (ret_views (vs := [.bool false]) [.bool false] (by simp) (by simp) ⟨⟨false, rfl, by simp; intro h; exact h0 (by rw [h])⟩, rfl⟩)
          rintro _ h0
          (repeat refine AW.seq_k fun K hK => ?_)
          refine AW.rg ?_
          simp [-Int.natCast_add, w1]
          try (refine hK _ rfl ?_; clear hK; clear K)
          refine ⟨⟨hi, fun k hk => ?_⟩, by omega⟩
          rcases Nat.lt_succ_iff_lt_or_eq.1 hk with h | rfl
          · exact g2 k h
          · exact h0
        · refine AW.exit ?_
          try simp
          exact list_ext_nth hl fun k hk => g2 k (by omega)
      rintro _ rfl
      (repeat refine AW.seq_k fun K hK => ?_)
      refine AW.rg ?_
      simp
      try (refine hK _ rfl ?_; clear hK; clear K)
      exact AW.ret (ret_views (vs := [.bool true]) [.bool true] (by simp) (by simp) ⟨⟨true, rfl, by simp⟩, rfl⟩)
    · refine acall_S Tryz.func62 rfl rfl 38 rfl (Nat.le_of_ble_eq_true rfl) ?_
      (repeat refine AW.seq_k fun K hK => ?_)
      refine AW.rgR [2,3] ?_
      simp [argsL]
      try (refine hK _ rfl ?_; clear hK; clear K)
      (repeat refine AW.seq_k fun K hK => ?_)
      refine AW.rg ?_
      simp [hl]
      try (refine hK _ rfl ?_; clear hK; clear K)
      refine AW.yes ?_ (by simp)
      (repeat refine AW.seq_k fun K hK => ?_)
      refine AW.rg ?_
      simp
      try (refine hK _ rfl ?_; clear hK; clear K)
      exact AW.ret (ret_views (vs := [.bool false]) [.bool false] (by simp) (by simp) ⟨⟨false, rfl, by simp; intro h; exact hl (by rw [h])⟩, rfl⟩)
  · refine acall_S Tryz.func62 rfl rfl 38 rfl (Nat.le_of_ble_eq_true rfl) ?_
    (repeat refine AW.seq_k fun K hK => ?_)
    refine AW.rgR [2,3] ?_
    simp [argsL]
    try (refine hK _ rfl ?_; clear hK; clear K)
    (repeat refine AW.seq_k fun K hK => ?_)
    refine AW.rg ?_
    simp [hn]
    try (refine hK _ rfl ?_; clear hK; clear K)
    refine AW.yes ?_ (by simp)
    (repeat refine AW.seq_k fun K hK => ?_)
    refine AW.rg ?_
    simp
    try (refine hK _ rfl ?_; clear hK; clear K)
    exact AW.ret (ret_views (vs := [.bool false]) [.bool false] (by simp) (by simp) ⟨⟨false, rfl, by simp [hn]⟩, rfl⟩)
def shortR (a : RR) : Prop := a.l1.length < 2^40 ∧ a.l2.length < 2^40
theorem same_call (a b : RR) (h : shortR a) : ACall Tryz.prog 26 [a.av, b.av] Mem.emp fun v m => saysEq (a = b) v ∧ m = Mem.emp := by
  have i1 := ints2_call a.n1 b.n1 a.l1 b.l1 h.1
  have i2 := ints2_call a.n2 b.n2 a.l2 b.l2 h.2
  have hab : a = b ↔ (a.n1 = b.n1 ∧ a.l1 = b.l1) ∧ (a.n2 = b.n2 ∧ a.l2 = b.l2) := by
    obtain ⟨x1, x2, x3, x4⟩ := a
    obtain ⟨y1, y2, y3, y4⟩ := b
    simp only [RR.mk.injEq, and_assoc]
  unfold RR.av
  refine acall_S Tryz.func26 rfl rfl 17 rfl (Nat.le_of_ble_eq_true rfl) ?_
  (repeat refine AW.seq_k fun K hK => ?_)
  refine AW.rgR [2,3] ?_
  simp [argsL]
  try (refine hK _ rfl ?_; clear hK; clear K)
  (repeat refine AW.seq_k fun K hK => ?_)
  refine AW.rg ?_
  simp
  try (refine hK _ rfl ?_; clear hK; clear K)
  refine CallK.pure i1 ?_
  rintro _ ⟨t1, rfl, h1⟩
  simp
  cases t1
  · simp
    refine hK _ rfl ?_
    clear hK
    clear K
    exact AW.ret (ret_views (vs := [.bool false]) [.bool false] (by simp) (by simp) ⟨⟨false, rfl, by simp only [Bool.false_eq_true, false_iff]; intro h; have := h1.2 (hab.1 h).1; cases this⟩, rfl⟩)
  · simp
    refine CallK.pure i2 ?_
    rintro _ ⟨t2, rfl, h2⟩
    simp
    refine hK _ rfl ?_
    clear hK
    clear K
    exact AW.ret (ret_views (vs := [.bool t2]) [.bool t2] (by simp) (by simp) ⟨⟨t2, rfl, by rw [h2, hab]; exact ⟨fun h => ⟨h1.1 rfl, h⟩, fun h => h.2⟩⟩, rfl⟩)
theorem list_ext_rr {a b : List RR} (h : a.length = b.length) (he : ∀ k, k < a.length → rr a k = rr b k) : a = b := by
  refine List.ext_getElem h fun k h1 h2 => ?_
  have := he k h1
  rwa [rr_eq h1, rr_eq h2] at this
theorem list_ext_row {α : Type} {a b : List (List α)} (h : a.length = b.length) (he : ∀ k, k < a.length → mrow a k = mrow b k) : a = b := by
  refine List.ext_getElem h fun k h1 h2 => ?_
  have := he k h1
  rwa [mrow_eq h1, mrow_eq h2] at this
theorem row_call (a b : List RR) (h : ∀ x ∈ a, shortR x) (hl : a.length < 2^40) : ACall Tryz.prog 44 [rowAV a, rowAV b] Mem.emp fun v m => saysEq (a = b) v ∧ m = Mem.emp := by
  by_cases hab : a.length = b.length
  · refine acall_S Tryz.func44 rfl rfl 27 rfl (Nat.le_of_ble_eq_true rfl) ?_
    (repeat refine AW.seq_k fun K hK => ?_)
    refine AW.rg ?_
    simp [argsL]
    try (refine hK _ rfl ?_; clear hK; clear K)
    (repeat refine AW.seq_k fun K hK => ?_)
    refine AW.rg ?_
    simp
    try (refine hK _ rfl ?_; clear hK; clear K)
    refine AW.no ?_ (by simp [hab])
    refine AW.skip ?_
    try simp
    refine hK _ rfl ?_
    clear hK
    clear K
    refine AW.seq_ex (ι := Unit) (fun _ => []) (fun _ => Mem.emp) (fun _ => a = b) ?_ ?_
    · (repeat refine AW.seq_k fun K hK => ?_)
      refine AW.rg ?_
      simp
      try (refine hK _ rfl ?_; clear hK; clear K)
      refine AW.block (AW.loopS (ι := Nat) (fun i => [(0, rowAV a), (1, rowAV b), (5, .int .i64 (i : Nat))]) (fun _ => Mem.emp) (fun i => i ≤ a.length ∧ ∀ k, k < i → rr a k = rr b k) (fun i => a.length - i) 0 ⟨by simp, by simp⟩ rfl (by simp) ?_)
      rintro i ⟨g1, g2⟩
      (repeat refine AW.seq_k fun K hK => ?_)
      refine AW.rg ?_
      simp
      try (refine hK _ rfl ?_; clear hK; clear K)
      (repeat refine AW.seq ?_)
      refine AW.cs (fun hi => ?_) (fun hi => ?_) rfl <;> (try simp at hi)
      · refine AW.skip ?_
        try simp
        refine hK _ rfl ?_
        clear hK
        clear K
        have hi2 : i < b.length := by omega
        have w1 : IntKind.i64.wrap ((i + 1 : Nat) : Int) = ((i + 1 : Nat) : Int) := wi (by omega)
        have hs := same_call (rr a i) (rr b i) (h _ (by rw [rr_eq hi]; exact List.getElem_mem hi))
        refine AW.seq_ex (ι := Unit) (fun _ => [(0, rowAV a), (1, rowAV b), (5, .int .i64 (i : Nat))]) (fun _ => Mem.emp) (fun _ => rr a i = rr b i) ?_ ?_
        · (repeat refine AW.seq ?_)
          refine AW.block ?_
          (repeat refine AW.seq_k fun K hK => ?_)
          refine AW.rd [0, 1, 2, 3, 4, 5, 6, 7, 8, 9] mix ?_
          simp [hi, hi2]
          try (refine hK _ rfl ?_; clear hK; clear K)
          refine CallK.pure hs ?_
          rintro _ ⟨t, rfl, ht⟩
          simp
          refine hK _ rfl ?_
          clear hK
          clear K
          cases t
          · refine AW.yes ?_ rfl
            (repeat refine AW.seq_k fun K hK => ?_)
            refine AW.rg ?_
            simp
            try (refine hK _ rfl ?_; clear hK; clear K)
            exact AW.ret (ret_views (vs := [.bool false]) [.bool false] (by simp) (by simp) ⟨⟨false, rfl, by simp only [Bool.false_eq_true, false_iff]; intro h; have := ht.2 (by rw [h]); cases this⟩, rfl⟩)
          · refine AW.no ?_ rfl
            exact AW.skip ⟨(), ht.1 rfl, by simp⟩
        rintro _ h0
        (repeat refine AW.seq_k fun K hK => ?_)
        refine AW.rg ?_
        simp [-Int.natCast_add, w1]
        try (refine hK _ rfl ?_; clear hK; clear K)
        refine ⟨⟨hi, fun k hk => ?_⟩, by omega⟩
        rcases Nat.lt_succ_iff_lt_or_eq.1 hk with h | rfl
        · exact g2 k h
        · exact h0
      · refine AW.exit ?_
        try simp
        exact list_ext_rr hab fun k hk => g2 k (by omega)
    rintro _ rfl
    (repeat refine AW.seq_k fun K hK => ?_)
    refine AW.rg ?_
    simp
    try (refine hK _ rfl ?_; clear hK; clear K)
    exact AW.ret (ret_views (vs := [.bool true]) [.bool true] (by simp) (by simp) ⟨⟨true, rfl, by simp⟩, rfl⟩)
  · refine acall_S Tryz.func44 rfl rfl 27 rfl (Nat.le_of_ble_eq_true rfl) ?_
    (repeat refine AW.seq_k fun K hK => ?_)
    refine AW.rg ?_
    simp [argsL]
    try (refine hK _ rfl ?_; clear hK; clear K)
    (repeat refine AW.seq_k fun K hK => ?_)
    refine AW.rg ?_
    simp
    try (refine hK _ rfl ?_; clear hK; clear K)
    refine AW.yes ?_ (by simp [hab])
    (repeat refine AW.seq_k fun K hK => ?_)
    refine AW.rg ?_
    simp
    try (refine hK _ rfl ?_; clear hK; clear K)
    exact AW.ret (ret_views (vs := [.bool false]) [.bool false] (by simp) (by simp) ⟨⟨false, rfl, by simp; intro h; exact hab (by rw [h])⟩, rfl⟩)
theorem rows_call (a b : List (List RR)) (h : ∀ r ∈ a, ∀ x ∈ r, shortR x) (hl : a.length < 2^40) (hr : ∀ r ∈ a, r.length < 2^40) : ACall Tryz.prog 21 [matAV a, matAV b] Mem.emp fun v m => saysEq (a = b) v ∧ m = Mem.emp := by
  by_cases hab : a.length = b.length
  · refine acall_S Tryz.func21 rfl rfl 27 rfl (Nat.le_of_ble_eq_true rfl) ?_
    (repeat refine AW.seq_k fun K hK => ?_)
    refine AW.rg ?_
    simp [argsL]
    try (refine hK _ rfl ?_; clear hK; clear K)
    (repeat refine AW.seq_k fun K hK => ?_)
    refine AW.rg ?_
    simp
    try (refine hK _ rfl ?_; clear hK; clear K)
    refine AW.no ?_ (by simp [hab])
    refine AW.skip ?_
    try simp
    refine hK _ rfl ?_
    clear hK
    clear K
    refine AW.seq_ex (ι := Unit) (fun _ => []) (fun _ => Mem.emp) (fun _ => a = b) ?_ ?_
    · (repeat refine AW.seq_k fun K hK => ?_)
      refine AW.rg ?_
      simp
      try (refine hK _ rfl ?_; clear hK; clear K)
      refine AW.block (AW.loopS (ι := Nat) (fun i => [(0, matAV a), (1, matAV b), (5, .int .i64 (i : Nat))]) (fun _ => Mem.emp) (fun i => i ≤ a.length ∧ ∀ k, k < i → mrow a k = mrow b k) (fun i => a.length - i) 0 ⟨by simp, by simp⟩ rfl (by simp) ?_)
      rintro i ⟨g1, g2⟩
      (repeat refine AW.seq_k fun K hK => ?_)
      refine AW.rg ?_
      simp
      try (refine hK _ rfl ?_; clear hK; clear K)
      (repeat refine AW.seq ?_)
      refine AW.cs (fun hi => ?_) (fun hi => ?_) rfl <;> (try simp at hi)
      · refine AW.skip ?_
        try simp
        refine hK _ rfl ?_
        clear hK
        clear K
        have hi2 : i < b.length := by omega
        have w1 : IntKind.i64.wrap ((i + 1 : Nat) : Int) = ((i + 1 : Nat) : Int) := wi (by omega)
        have hm : mrow a i ∈ a := by rw [mrow_eq hi]; exact List.getElem_mem hi
        have hs := row_call (mrow a i) (mrow b i) (h _ hm) (hr _ hm)
        refine AW.seq_ex (ι := Unit) (fun _ => [(0, matAV a), (1, matAV b), (5, .int .i64 (i : Nat))]) (fun _ => Mem.emp) (fun _ => mrow a i = mrow b i) ?_ ?_
        · (repeat refine AW.seq ?_)
          refine AW.block ?_
          (repeat refine AW.seq_k fun K hK => ?_)
          refine AW.rd [0, 1, 2, 3, 4, 5, 6, 7, 8, 9] mix ?_
          simp [hi, hi2]
          try (refine hK _ rfl ?_; clear hK; clear K)
          refine CallK.pure hs ?_
          rintro _ ⟨t, rfl, ht⟩
          simp
          refine hK _ rfl ?_
          clear hK
          clear K
          cases t
          · refine AW.yes ?_ rfl
            (repeat refine AW.seq_k fun K hK => ?_)
            refine AW.rg ?_
            simp
            try (refine hK _ rfl ?_; clear hK; clear K)
            exact AW.ret (ret_views (vs := [.bool false]) [.bool false] (by simp) (by simp) ⟨⟨false, rfl, by simp only [Bool.false_eq_true, false_iff]; intro h; have := ht.2 (by rw [h]); cases this⟩, rfl⟩)
          · refine AW.no ?_ rfl
            exact AW.skip ⟨(), ht.1 rfl, by simp⟩
        rintro _ h0
        (repeat refine AW.seq_k fun K hK => ?_)
        refine AW.rg ?_
        simp [-Int.natCast_add, w1]
        try (refine hK _ rfl ?_; clear hK; clear K)
        refine ⟨⟨hi, fun k hk => ?_⟩, by omega⟩
        rcases Nat.lt_succ_iff_lt_or_eq.1 hk with h | rfl
        · exact g2 k h
        · exact h0
      · refine AW.exit ?_
        try simp
        exact list_ext_row hab fun k hk => g2 k (by omega)
    rintro _ rfl
    (repeat refine AW.seq_k fun K hK => ?_)
    refine AW.rg ?_
    simp
    try (refine hK _ rfl ?_; clear hK; clear K)
    exact AW.ret (ret_views (vs := [.bool true]) [.bool true] (by simp) (by simp) ⟨⟨true, rfl, by simp⟩, rfl⟩)
  · refine acall_S Tryz.func21 rfl rfl 27 rfl (Nat.le_of_ble_eq_true rfl) ?_
    (repeat refine AW.seq_k fun K hK => ?_)
    refine AW.rg ?_
    simp [argsL]
    try (refine hK _ rfl ?_; clear hK; clear K)
    (repeat refine AW.seq_k fun K hK => ?_)
    refine AW.rg ?_
    simp
    try (refine hK _ rfl ?_; clear hK; clear K)
    refine AW.yes ?_ (by simp [hab])
    (repeat refine AW.seq_k fun K hK => ?_)
    refine AW.rg ?_
    simp
    try (refine hK _ rfl ?_; clear hK; clear K)
    exact AW.ret (ret_views (vs := [.bool false]) [.bool false] (by simp) (by simp) ⟨⟨false, rfl, by simp; intro h; exact hab (by rw [h])⟩, rfl⟩)
theorem list_ext_d {a b : List Nat} (h : a.length = b.length) (he : ∀ k, k < a.length → a.getD k 0 = b.getD k 0) : a = b := list_ext_nth h he
theorem ints7_call (a b : List Nat) (hl : a.length < 2^40) : ACall Tryz.prog 22 [.sl 1 (ints a), .sl 1 (ints b)] Mem.emp fun v m => saysEq (a = b) v ∧ m = Mem.emp := by
  by_cases hab : a.length = b.length
  · refine acall_S Tryz.func22 rfl rfl 26 rfl (Nat.le_of_ble_eq_true rfl) ?_
    (repeat refine AW.seq_k fun K hK => ?_)
    refine AW.rg ?_
    simp [argsL]
    try (refine hK _ rfl ?_; clear hK; clear K)
    (repeat refine AW.seq_k fun K hK => ?_)
    refine AW.rg ?_
    simp
    try (refine hK _ rfl ?_; clear hK; clear K)
    refine AW.no ?_ (by simp [hab])
    refine AW.skip ?_
    try simp
    refine hK _ rfl ?_
    clear hK
    clear K
    refine AW.seq_ex (ι := Unit) (fun _ => []) (fun _ => Mem.emp) (fun _ => a = b) ?_ ?_
    · (repeat refine AW.seq_k fun K hK => ?_)
      refine AW.rg ?_
      simp
      try (refine hK _ rfl ?_; clear hK; clear K)
      refine AW.block (AW.loopS (ι := Nat) (fun i => [(0, .sl 1 (ints a)), (1, .sl 1 (ints b)), (5, .int .i64 (i : Nat))]) (fun _ => Mem.emp) (fun i => i ≤ a.length ∧ ∀ k, k < i → a.getD k 0 = b.getD k 0) (fun i => a.length - i) 0 ⟨by simp, by simp⟩ rfl (by simp) ?_)
      rintro i ⟨g1, g2⟩
      (repeat refine AW.seq_k fun K hK => ?_)
      refine AW.rg ?_
      simp
      try (refine hK _ rfl ?_; clear hK; clear K)
      (repeat refine AW.seq ?_)
      refine AW.cs (fun hi => ?_) (fun hi => ?_) rfl <;> (try simp at hi)
      · refine AW.skip ?_
        try simp
        refine hK _ rfl ?_
        clear hK
        clear K
        have hi2 : i < b.length := by omega
        have w1 : IntKind.i64.wrap ((i + 1 : Nat) : Int) = ((i + 1 : Nat) : Int) := wi (by omega)
        have e1 : a.getD i 0 = a[i] := by rw [List.getD_eq_getElem?_getD, List.getElem?_eq_getElem hi]; rfl
        have e2 : b.getD i 0 = b[i] := by rw [List.getD_eq_getElem?_getD, List.getElem?_eq_getElem hi2]; rfl
        refine AW.seq_ex (ι := Unit) (fun _ => [(0, .sl 1 (ints a)), (1, .sl 1 (ints b)), (5, .int .i64 (i : Nat))]) (fun _ => Mem.emp) (fun _ => a[i] = b[i]) ?_ ?_
        · (repeat refine AW.seq ?_)
          refine AW.block ?_
          (repeat refine AW.seq_k fun K hK => ?_)
          refine AW.rd [0, 1, 2, 3, 4, 5, 6, 7, 8] mix ?_
          simp [hi, hi2]
          try (refine hK _ rfl ?_; clear hK; clear K)
          by_cases h0 : a[i] = b[i]
          · refine AW.no ?_ (by simp [h0])
            exact AW.skip ⟨(), h0, by simp⟩
          · refine AW.yes ?_ (by simp [h0])
            (repeat refine AW.seq_k fun K hK => ?_)
            refine AW.rg ?_
            simp
            try (refine hK _ rfl ?_; clear hK; clear K)
            exact AW.ret (ret_views (vs := [.bool false]) [.bool false] (by simp) (by simp) ⟨⟨false, rfl, by simp only [Bool.false_eq_true, false_iff]; intro h; exact h0 (by simp [h])⟩, rfl⟩)
        rintro _ h0
        (repeat refine AW.seq_k fun K hK => ?_)
        refine AW.rg ?_
        simp [-Int.natCast_add, w1]
        try (refine hK _ rfl ?_; clear hK; clear K)
        refine ⟨⟨hi, fun k hk => ?_⟩, by omega⟩
        rcases Nat.lt_succ_iff_lt_or_eq.1 hk with h | rfl
        · exact g2 k h
        · rw [← List.getD_eq_getElem?_getD, ← List.getD_eq_getElem?_getD, e1, e2]; exact h0
      · refine AW.exit ?_
        try simp
        exact list_ext_d hab fun k hk => g2 k (by omega)
    rintro _ rfl
    (repeat refine AW.seq_k fun K hK => ?_)
    refine AW.rg ?_
    simp
    try (refine hK _ rfl ?_; clear hK; clear K)
    exact AW.ret (ret_views (vs := [.bool true]) [.bool true] (by simp) (by simp) ⟨⟨true, rfl, by simp⟩, rfl⟩)
  · refine acall_S Tryz.func22 rfl rfl 26 rfl (Nat.le_of_ble_eq_true rfl) ?_
    (repeat refine AW.seq_k fun K hK => ?_)
    refine AW.rg ?_
    simp [argsL]
    try (refine hK _ rfl ?_; clear hK; clear K)
    (repeat refine AW.seq_k fun K hK => ?_)
    refine AW.rg ?_
    simp
    try (refine hK _ rfl ?_; clear hK; clear K)
    refine AW.yes ?_ (by simp [hab])
    (repeat refine AW.seq_k fun K hK => ?_)
    refine AW.rg ?_
    simp
    try (refine hK _ rfl ?_; clear hK; clear K)
    exact AW.ret (ret_views (vs := [.bool false]) [.bool false] (by simp) (by simp) ⟨⟨false, rfl, by simp; intro h; exact hab (by rw [h])⟩, rfl⟩)
end Go.Av
end
section
/- The law's examples. -/
namespace Go.Av
open Go.Proofs
theorem wholeW_call (n : Int) (h1 : -9223372036854775808 ≤ n) (h2 : n < 9223372036854775808) : ACall Tryz.prog 37 [.int .i64 n] Mem.emp fun v m => v = (ofQ (intQ n)).av ∧ m = Mem.emp := by
  have ho := of2_call n 1 h1 h2 (by omega) (by omega) (by omega)
  have e : Rat.divInt n 1 = intQ n := rfl
  rw [e, resQ] at ho
  generalize intQ n = q at *
  unfold qAV at ho
  unfold RR.av ofQ
  simp only
  refine acall_S Tryz.func37 rfl rfl 11 rfl (Nat.le_of_ble_eq_true rfl) ?_
  (repeat refine AW.seq_k fun K hK => ?_)
  refine AW.rg ?_
  simp [argsL]
  try (refine hK _ rfl ?_; clear hK; clear K)
  refine Fresh.intro fun b2 hb2 => ?_
  refine hK _ rfl ?_
  clear hK
  clear K
  (repeat refine AW.seq_k fun K hK => ?_)
  refine AW.rg ?_
  simp
  try (refine hK _ rfl ?_; clear hK; clear K)
  refine CallK.val ho ?_
  simp
  refine Fresh.intro fun b3 hb3 => ?_
  simp only [set_none2, emp_at, and_true] at hb3
  try simp [hb3]
  refine hK _ rfl ?_
  clear hK
  clear K
  (repeat refine AW.seq_k fun K hK => ?_)
  refine AW.rg ?_
  simp [hb3]
  try (refine hK _ rfl ?_; clear hK; clear K)
  exact AW.ret (ret_views (vs := [.agg [.bool (decide (q.num < 0)), lim (dig q.num.natAbs), .bool false, lim (dig q.den)]]) [.agg [.bool (decide (q.num < 0)), lim (dig q.num.natAbs), .bool false, lim (dig q.den)]] (by simp [hb3]) (by simp) ⟨rfl, rfl⟩)
end Go.Av
end
section
/- The law's examples come out right. -/
namespace Go.Av
open Go.Proofs
theorem unq_emb (X : List (List Rat)) : unq (emb X) = X := by
  unfold unq emb
  rw [List.map_map]
  conv => rhs; rw [← List.map_id X]
  refine List.map_congr_left fun r _ => ?_
  show (r.map ofQ).map RR.q = r
  rw [List.map_map]
  conv => rhs; rw [← List.map_id r]
  exact List.map_congr_left fun q _ => ofQ_q q
theorem chk_good {n w : Nat} {X : List (List Rat)} (h : matGood n w X) (hw : (mrow X 0).length = w) (h1 : n ≤ 64) (h2 : w ≤ 64) : chk (emb X) = 0 := by
  refine chk_ok ?_ ?_
  · rintro (h' | ⟨k, hk, h'⟩)
    · rw [emb_length, h.2.2] at h'; omega
    · rw [emb_length, h.2.2] at hk
      rw [emb_row, List.length_map, (h.row hk).2] at h'; omega
  · intro k hk
    rw [emb_length, h.2.2] at hk
    rw [emb_row, emb_row, List.length_map, List.length_map, (h.row hk).2, hw]
    refine ⟨rfl, fun j hj => ?_⟩
    have hjl : j < (mrow X k).length := by rw [(h.row hk).2]; exact hj
    rw [rr_map hjl]
    exact ofQ_ok ((h.row hk).1.at hjl)
def exK : List (List Rat) := [[intQ 0, intQ 2, intQ 4], [intQ 1, intQ 1, intQ 1]]
def exD : List (List Rat) := [[intQ 1, intQ 2], [intQ 3, intQ 4]]
def exS : List (List Rat) := [[intQ 1, intQ 2], [intQ 2, intQ 1]]
theorem exK_good : matGood 2 3 exK := ⟨by unfold GoodM Good; decide +kernel, by unfold dimM; decide +kernel, rfl⟩
theorem exD_good : matGood 2 2 exD := ⟨by unfold GoodM Good; decide +kernel, by unfold dimM; decide +kernel, rfl⟩
theorem exS_good : matGood 2 2 exS := ⟨by unfold GoodM Good; decide +kernel, by unfold dimM; decide +kernel, rfl⟩
theorem exK_red : reduceQ exK = some ([[intQ 1, intQ 0, intQ (-1)], [intQ 0, intQ 1, intQ 2]], [0, 1]) := by decide +kernel
theorem exK_ker : kerP [[intQ 1, intQ 0, intQ (-1)], [intQ 0, intQ 1, intQ 2]] [0, 1] 3 3 = [[intQ 1, intQ (-2), intQ 1]] := by decide +kernel
theorem exK_R : kerR (emb exK) = (0, [[intQ 1, intQ (-2), intQ 1]]) := by
  have hc := chk_good exK_good rfl (by omega) (by omega)
  have hr : redR (emb exK) = (0, [[intQ 1, intQ 0, intQ (-1)], [intQ 0, intQ 1, intQ 2]], [0, 1]) := by
    unfold redR
    rw [if_neg (by simp [hc]), unq_emb, exK_red]
  unfold kerR
  rw [hr, if_neg (by simp)]
  exact congrArg _ exK_ker
theorem exD_det : detQ 2 exD = some (intQ (-2)) := by decide +kernel
theorem exD_R : detR (emb exD) = (0, ofQ (intQ (-2))) := by
  have hc := chk_good exD_good rfl (by omega) (by omega)
  unfold detR
  rw [if_neg (by simp [hc]), unq_emb, if_neg (by simp [emb, exD, mrow]), show (emb exD).length = 2 from rfl, exD_det]
theorem exS_sq : sqIter 2 exS 2 = .vec [intQ (-2), intQ 1] := by
  have : (match sqIter 2 exS 2 with | .vec v => decide (v = [intQ (-2), intQ 1]) | _ => false) = true := by decide +kernel
  revert this
  cases sqIter 2 exS 2 <;> simp
theorem exS_R : sqR (emb exS) = ⟨0, [], [], [intQ (-2), intQ 1]⟩ := by
  have hc := chk_good exS_good rfl (by omega) (by omega)
  unfold sqR
  rw [if_neg (by simp [hc]), unq_emb, show (emb exS).length = 2 from rfl, if_pos ⟨rfl, by unfold symm; decide +kernel⟩, exS_sq]
  rfl
set_option maxHeartbeats 1000000
theorem works_call : ACall Tryz.prog 16 [] Mem.emp fun v m => v = .bool true ∧ m = Mem.emp := by
  have hw := fun (n : Int) (h1 : -9223372036854775808 ≤ n) (h2 : n < 9223372036854775808) => wholeW_call n h1 h2
  have hk := kernelL_call (emb exK) (lb_emb _)
  rw [exK_R] at hk
  have hd := detL_call (emb exD) (lb_emb _)
  rw [exD_R] at hd
  have hs := squaresL_call (emb exS) (lb_emb _)
  rw [exS_R] at hs
  have sh : ∀ q, Good q → shortR (ofQ q) := fun q h => short_good h
  have g1 : Good (intQ 1) := intQ_good (by decide)
  have g2 : Good (intQ (-2)) := intQ_good (by decide)
  have hrows := rows_call (emb [[intQ 1, intQ (-2), intQ 1]]) (emb [[intQ 1, intQ (-2), intQ 1]]) (by
    intro r hr x hx
    simp [emb] at hr
    subst hr
    simp at hx
    rcases hx with rfl | rfl | rfl
    · exact sh _ g1
    · exact sh _ g2
    · exact sh _ g1) (by decide) (by
    intro r hr
    simp [emb] at hr
    subst hr
    decide)
  have hrow := row_call ([intQ (-2), intQ 1].map ofQ) ([intQ (-2), intQ 1].map ofQ) (by
    intro x hx
    simp at hx
    rcases hx with rfl | rfl
    · exact sh _ g2
    · exact sh _ g1) (by decide)
  have hsame := same_call (ofQ (intQ (-2))) (ofQ (intQ (-2))) (sh _ g2)
  refine acall_S Tryz.func16 rfl rfl 79 rfl (Nat.le_of_ble_eq_true rfl) ?_
  (repeat refine AW.seq_k fun K hK => ?_)
  refine AW.rg ?_
  simp [argsL]
  try (refine hK _ rfl ?_; clear hK; clear K)
  (repeat refine AW.seq_k fun K hK => ?_)
  refine AW.rgR [13,17,18] ?_
  simp
  try (refine hK _ rfl ?_; clear hK; clear K)
  refine CallK.val (hw 0 (by omega) (by omega)) ?_
  simp
  refine CallK.val (hw 2 (by omega) (by omega)) ?_
  simp
  refine CallK.val (hw 4 (by omega) (by omega)) ?_
  simp
  refine CallK.val (hw 1 (by omega) (by omega)) ?_
  simp
  refine CallK.val (hw 1 (by omega) (by omega)) ?_
  simp
  refine CallK.val (hw 1 (by omega) (by omega)) ?_
  simp
  refine hK _ rfl ?_
  clear hK
  clear K
  (repeat refine AW.seq_k fun K hK => ?_)
  refine AW.rg ?_
  simp
  try (refine hK _ rfl ?_; clear hK; clear K)
  refine CallK.val hk ?_
  simp
  refine hK _ rfl ?_
  clear hK
  clear K
  (repeat refine AW.seq_k fun K hK => ?_)
  refine AW.rgR [27,30,31] ?_
  simp
  try (refine hK _ rfl ?_; clear hK; clear K)
  refine CallK.val (hw 1 (by omega) (by omega)) ?_
  simp
  refine CallK.val (hw 2 (by omega) (by omega)) ?_
  simp
  refine CallK.val (hw 3 (by omega) (by omega)) ?_
  simp
  refine CallK.val (hw 4 (by omega) (by omega)) ?_
  simp
  refine CallK.val hd ?_
  simp
  refine Fresh.intro fun b4 _ => ?_
  refine hK _ rfl ?_
  clear hK
  clear K
  refine AW.toEmp [(2, matAV (emb [[intQ 1, intQ (-2), intQ 1]])), (3, .int .i64 0), (4, .rptr [.bool (ofQ (intQ (-2))).n1, lim (ofQ (intQ (-2))).l1, .bool (ofQ (intQ (-2))).n2, lim (ofQ (intQ (-2))).l2]), (5, .int .i64 0)] (by simp; exact view_temp rfl) ?_
  (repeat refine AW.seq_k fun K hK => ?_)
  refine AW.rgR [38,41,42] ?_
  simp
  try (refine hK _ rfl ?_; clear hK; clear K)
  refine CallK.val (hw 1 (by omega) (by omega)) ?_
  simp
  refine CallK.val (hw 2 (by omega) (by omega)) ?_
  simp
  refine CallK.val (hw 2 (by omega) (by omega)) ?_
  simp
  refine CallK.val (hw 1 (by omega) (by omega)) ?_
  simp
  refine CallK.val hs ?_
  simp [sqAV]
  refine hK _ rfl ?_
  clear hK
  clear K
  have yes : ∀ {p : Prop} {v : AV} {m : Mem}, p → saysEq p v ∧ m = Mem.emp → v = .bool true ∧ m = Mem.emp := by
    rintro p v m hp ⟨⟨t, rfl, h⟩, h2⟩
    exact ⟨by rw [h.2 hp], h2⟩
  replace hrows := hrows.mono fun v m h => yes rfl h
  replace hrow := hrow.mono fun v m h => yes rfl h
  replace hsame := hsame.mono fun v m h => yes rfl h
  refine AW.seq_k fun K hK => ?_
  refine AW.rdR [55, 56, 76] [0,1,2,3,4,5,6,7,8,9,10,11,12,13,14,15,16,17,18,19,20,21,22,23,24,25,26,27,28,29,30,31] mix ?_
  simp
  refine CallK.val (hw 1 (by omega) (by omega)) ?_
  simp
  refine CallK.val (hw (-2) (by omega) (by omega)) ?_
  simp
  refine CallK.val (hw 1 (by omega) (by omega)) ?_
  simp
  refine CallK.val hrows ?_
  simp
  refine CallK.val (hw (-2) (by omega) (by omega)) ?_
  simp
  refine CallK.val hsame ?_
  simp
  refine CallK.val (hw (-2) (by omega) (by omega)) ?_
  simp
  refine CallK.val (hw 1 (by omega) (by omega)) ?_
  simp
  refine CallK.val hrow ?_
  simp
  refine hK _ rfl ?_
  clear hK
  clear K
  exact AW.ret (ret_views (vs := [.bool true]) [.bool true] (by simp) (by simp) ⟨rfl, rfl⟩)
end Go.Av
end
section
/- The reference: pivot, less. -/
namespace Go.Av
open Go.Proofs
def pivI (o : Option Nat) : Int := match o with
  | some i => i
  | none => -1
theorem pivot7_call (rows : List (List RR)) (hlb : LbM rows) (w j r : Nat) (hd : dimM rows w) (hj : j < w) (h1 : rows.length < 2^40) (h2 : w < 2^40) (h3 : r < 2^40) : ACall Tryz.prog 49 [matAV rows, .int .i64 j, .int .i64 r] Mem.emp fun v m => v = .int .i64 (pivI (pivR rows j r)) ∧ m = Mem.emp := by
  refine acall_S Tryz.func49 rfl rfl 25 rfl (Nat.le_of_ble_eq_true rfl) ?_
  (repeat refine AW.seq_k fun K hK => ?_)
  refine AW.rg ?_
  simp [argsL]
  try (refine hK _ rfl ?_; clear hK; clear K)
  refine AW.seq_ex (ι := Unit) (fun _ => []) (fun _ => Mem.emp) (fun _ => ∀ k, r ≤ k → k < rows.length → signR (rr (mrow rows k) j) = 0) ?_ ?_
  · (repeat refine AW.seq_k fun K hK => ?_)
    refine AW.rg ?_
    simp
    try (refine hK _ rfl ?_; clear hK; clear K)
    refine AW.block (AW.loopS (ι := Nat) (fun i => [(0, matAV rows), (1, .int .i64 j), (2, .int .i64 r), (7, .int .i64 (i : Nat))]) (fun _ => Mem.emp) (fun i => r ≤ i ∧ ∀ k, r ≤ k → k < i → signR (rr (mrow rows k) j) = 0) (fun i => rows.length - i) r ⟨by omega, by omega⟩ rfl (by simp) ?_)
    rintro i ⟨g1, g2⟩
    (repeat refine AW.seq_k fun K hK => ?_)
    refine AW.rg ?_
    simp
    try (refine hK _ rfl ?_; clear hK; clear K)
    (repeat refine AW.seq ?_)
    refine AW.cs (fun hi => ?_) (fun hi => ?_) rfl <;> (try simp at hi)
    · refine AW.skip ?_
      try simp
      refine hK _ rfl ?_
      clear hK
      clear K
      have w1 : IntKind.i64.wrap ((i + 1 : Nat) : Int) = ((i + 1 : Nat) : Int) := wi (by omega)
      have hwi := hd i hi
      have hs := rsign2_call (rr (mrow rows i) j) (rr_lb (hlb.row i) j)
      refine AW.seq_ex (ι := Unit) (fun _ => [(0, matAV rows), (1, .int .i64 j), (2, .int .i64 r), (7, .int .i64 (i : Nat))]) (fun _ => Mem.emp) (fun _ => signR (rr (mrow rows i) j) = 0) ?_ ?_
      · (repeat refine AW.seq ?_)
        refine AW.block ?_
        (repeat refine AW.seq_k fun K hK => ?_)
        refine AW.rg ?_
        simp [hi, hwi, hj]
        try (refine hK _ rfl ?_; clear hK; clear K)
        refine CallK.val hs ?_
        simp
        refine hK _ rfl ?_
        clear hK
        clear K
        (repeat refine AW.seq ?_)
        refine AW.cs (fun h0 => ?_) (fun h0 => ?_) rfl <;> (try simp at h0)
        · (repeat refine AW.seq_k fun K hK => ?_)
          refine AW.rg ?_
          simp
          try (refine hK _ rfl ?_; clear hK; clear K)
          refine AW.ret (ret_views (vs := [.int .i64 (i : Nat)]) [.int .i64 (i : Nat)] (by simp) (by simp) ⟨?_, rfl⟩)
          rw [pivR_some g2 g1 hi h0]
          rfl
        · refine AW.skip ?_
          try simp
          exact h0
      rintro _ h0
      (repeat refine AW.seq_k fun K hK => ?_)
      refine AW.rg ?_
      simp [-Int.natCast_add, w1]
      try (refine hK _ rfl ?_; clear hK; clear K)
      refine ⟨⟨by omega, fun k hk1 hk2 => ?_⟩, by omega⟩
      rcases Nat.lt_succ_iff_lt_or_eq.1 hk2 with h | rfl
      · exact g2 k hk1 h
      · exact h0
    · refine AW.exit ?_
      try simp
      exact fun k a b => g2 k a (by omega)
  rintro _ hno
  (repeat refine AW.seq_k fun K hK => ?_)
  refine AW.rg ?_
  simp
  try (refine hK _ rfl ?_; clear hK; clear K)
  refine AW.ret (ret_views (vs := [.int .i64 (-1)]) [.int .i64 (-1)] (by simp) (by simp) ⟨?_, rfl⟩)
  rw [pivR_none hno]
  rfl
theorem less_call (a f b : Rat) (ha : Good a) (hf : Good f) (hb : Good b) : ACall Tryz.prog 112 [(ofQ a).av, (ofQ f).av, (ofQ b).av] Mem.emp fun v m => v = resQ (lessQ a f b) ∧ m = Mem.emp := by
  have hm := mul2_call b f hb hf
  have hl : lessQ a f b = (mulQ b f).bind (subQ a) := rfl
  rw [hl]
  cases hq : mulQ b f with
  | none =>
    rw [hq] at hm
    simp only [resQ] at hm
    refine acall_S Tryz.func112 rfl rfl 25 rfl (Nat.le_of_ble_eq_true rfl) ?_
    (repeat refine AW.seq_k fun K hK => ?_)
    refine AW.rgR [3,4,5] ?_
    simp [argsL]
    try (refine hK _ rfl ?_; clear hK; clear K)
    refine Fresh.intro fun b6 hb6 => ?_
    refine hK _ rfl ?_
    clear hK
    clear K
    (repeat refine AW.seq_k fun K hK => ?_)
    refine AW.rg ?_
    simp
    try (refine hK _ rfl ?_; clear hK; clear K)
    refine CallK.val hm ?_
    simp [zeroRat]
    refine Fresh.intro fun b8 hb8 => ?_
    simp only [set_none2, emp_at, and_true] at hb8
    try simp [hb8]
    refine hK _ rfl ?_
    clear hK
    clear K
    (repeat refine AW.seq_k fun K hK => ?_)
    refine AW.rg ?_
    simp [hb8]
    try (refine hK _ rfl ?_; clear hK; clear K)
    refine AW.yes ?_ rfl
    (repeat refine AW.seq_k fun K hK => ?_)
    refine AW.rg ?_
    simp [hb8]
    try (refine hK _ rfl ?_; clear hK; clear K)
    exact AW.ret (ret_rat (b := b6) (.bool false) (lim []) (.bool false) (lim []) rfl rfl (by simp [hb8]) rfl ⟨.same _, .nilsl 1, .same _, .nilsl 1, trivial⟩ ⟨rfl, rfl⟩)
  | some p =>
    rw [hq] at hm
    simp only [resQ] at hm
    have hs := sub2_call a p ha (good_mul hq)
    show ACall Tryz.prog 112 _ _ fun v m => v = resQ (subQ a p) ∧ m = Mem.emp
    refine acall_S Tryz.func112 rfl rfl 25 rfl (Nat.le_of_ble_eq_true rfl) ?_
    (repeat refine AW.seq_k fun K hK => ?_)
    refine AW.rgR [3,4,5] ?_
    simp [argsL]
    try (refine hK _ rfl ?_; clear hK; clear K)
    refine Fresh.intro fun b6 hb6 => ?_
    refine hK _ rfl ?_
    clear hK
    clear K
    (repeat refine AW.seq_k fun K hK => ?_)
    refine AW.rg ?_
    simp
    try (refine hK _ rfl ?_; clear hK; clear K)
    refine CallK.val hm ?_
    simp [qAV]
    refine Fresh.intro fun b8 hb8 => ?_
    simp only [set_none2, emp_at, and_true] at hb8
    try simp [hb8]
    refine hK _ rfl ?_
    clear hK
    clear K
    (repeat refine AW.seq_k fun K hK => ?_)
    refine AW.rg ?_
    simp [hb8]
    try (refine hK _ rfl ?_; clear hK; clear K)
    refine AW.no ?_ rfl
    refine AW.skip ?_
    try simp
    refine hK _ rfl ?_
    clear hK
    clear K
    (repeat refine AW.seq_k fun K hK => ?_)
    refine AW.rg ?_
    simp [hb8]
    try (refine hK _ rfl ?_; clear hK; clear K)
    refine CallK.val hs ?_
    cases hsq : subQ a p with
    | none =>
      simp only [resQ]
      simp [zeroRat, hb8]
      refine hK _ rfl ?_
      clear hK
      clear K
      exact AW.ret (ret_rat (b := b6) (.bool false) (lim []) (.bool false) (lim []) rfl rfl (by simp [hb8]) rfl ⟨.same _, .same _, .same _, .same _, trivial⟩ ⟨by rw [hsq]; rfl, rfl⟩)
    | some z =>
      simp only [resQ]
      simp [qAV, hb8]
      refine hK _ rfl ?_
      clear hK
      clear K
      exact AW.ret (ret_rr (b := b6) (ofQ z) rfl rfl (by simp [hb8]; rfl) rfl ⟨by rw [hsq]; rfl, rfl⟩)
end Go.Av
end
section
/- The reference: subtracting a row. -/
namespace Go.Av
open Go.Proofs
def twoM (bi br : Nat) (a b : List Rat) : Mem := (Mem.emp.set bi ⟨36, 4, rrs (a.map ofQ)⟩).set br ⟨36, 4, rrs (b.map ofQ)⟩
theorem twoM_ones (bi br : Nat) (a b : List Rat) : OnesM (twoM bi br a b) := by
  unfold twoM
  exact OnesM.set (OnesM.set (fun c y hy => by cases hy) bi (rrs_ok _)) br (rrs_ok _)
theorem twoM_only {bi br : Nat} {a b : List Rat} : ∀ k, twoM bi br a b k ≠ none → k = bi ∨ k = br := by
  intro k hk
  unfold twoM at hk
  simp only [set_at, emp_at] at hk
  split at hk
  · exact .inr (by assumption)
  · split at hk
    · exact .inl (by assumption)
    · exact absurd rfl hk
def subOut (bi br : Nat) (by_ : List Rat) (X : Option (List Rat)) (v : AV) (M : Mem) : Prop :=
  match X with
  | some row => v = .int .i64 0 ∧ M = twoM bi br row by_
  | none => v = .int .i64 2 ∧ OnesM M ∧ ∀ b, M b ≠ none → b = bi ∨ b = br
theorem subtract_call (bi br : Nat) (row by_ : List Rat) (f : Rat) (w j : Nat) (hne : bi ≠ br) (hr : rowGood row) (hrl : row.length = w) (hb : rowGood by_) (hbl : by_.length = w) (hf : Good f) (hj : j ≤ w) (hw : w ≤ 64) :
    ACall Tryz.prog 83 [.osl bi 4 0 w, (ofQ f).av, .osl br 4 0 w, .int .i64 j] (twoM bi br row by_) (subOut bi br by_ (iterO (belowRow by_ f j) (w - j) row)) := by
  have hne' := Ne.symm hne
  refine acall_S Tryz.func83 rfl rfl 39 rfl (Nat.le_of_ble_eq_true rfl) ?_
  (repeat refine AW.seq_k fun K hK => ?_)
  refine AW.rgR [5] ?_
  simp [argsL]
  try (refine hK _ rfl ?_; clear hK; clear K)
  refine AW.seq_ex (ι := List Rat) (fun _ => [(0, .osl bi 4 0 w), (2, .osl br 4 0 w), (3, .int .i64 j), (5, .rptr [.bool (ofQ f).n1, lim (ofQ f).l1, .bool (ofQ f).n2, lim (ofQ f).l2])]) (fun r => twoM bi br r by_) (fun r => iterO (belowRow by_ f j) (w - j) row = some r) ?_ ?_
  · (repeat refine AW.seq_k fun K hK => ?_)
    refine AW.rg ?_
    simp
    try (refine hK _ rfl ?_; clear hK; clear K)
    refine AW.block (AW.loopS (ι := Nat × List Rat) (fun z => [(0, .osl bi 4 0 w), (2, .osl br 4 0 w), (3, .int .i64 j), (5, .rptr [.bool (ofQ f).n1, lim (ofQ f).l1, .bool (ofQ f).n2, lim (ofQ f).l2]), (9, .int .i64 ((j + z.1 : Nat) : Int))]) (fun z => twoM bi br z.2 by_) (fun z => z.1 ≤ w - j ∧ iterO (belowRow by_ f j) z.1 row = some z.2 ∧ rowGood z.2 ∧ z.2.length = w) (fun z => w - z.1) (0, row) ⟨by simp, rfl, hr, hrl⟩ rfl (by simp) ?_)
    rintro ⟨t, r⟩ ⟨g1, g2, g3, g4⟩
    simp only at g1 g2 g3 g4
    generalize hk : j + t = k at *
    (repeat refine AW.seq_k fun K hK => ?_)
    refine AW.rg ?_
    simp [-Int.natCast_add]
    try (refine hK _ rfl ?_; clear hK; clear K)
    (repeat refine AW.seq ?_)
    refine AW.cs (fun hkw => ?_) (fun hkw => ?_) rfl <;> (try simp at hkw)
    · refine AW.skip ?_
      try simp [-Int.natCast_add]
      refine hK _ rfl ?_
      clear hK
      clear K
      have w1 : IntKind.i64.wrap ((k + 1 : Nat) : Int) = ((k + 1 : Nat) : Int) := wi (by omega)
      have hkr : k < r.length := by omega
      have hkb : k < by_.length := by omega
      have e1 : rr (r.map ofQ) k = ofQ (qat r k) := rr_map hkr
      have e2 : rr (by_.map ofQ) k = ofQ (qat by_ k) := rr_map hkb
      have hle := less_call (qat r k) f (qat by_ k) (g3.at hkr) hf (hb.at hkb)
      have hrR : (r.map ofQ).length = w := by rw [List.length_map, g4]
      have hbR : (by_.map ofQ).length = w := by rw [List.length_map, hbl]
      have hst : iterO (belowRow by_ f j) (t + 1) row = (lessQ (qat r k) f (qat by_ k)).map (r.set k) := by
        rw [iterO_succ, g2, ← hk]; rfl
      refine AW.seq_ex (ι := List Rat) (fun _ => [(0, .osl bi 4 0 w), (2, .osl br 4 0 w), (3, .int .i64 j), (5, .rptr [.bool (ofQ f).n1, lim (ofQ f).l1, .bool (ofQ f).n2, lim (ofQ f).l2]), (9, .int .i64 (k : Nat))]) (fun r => twoM bi br r by_) (fun r => iterO (belowRow by_ f j) (t + 1) row = some r ∧ rowGood r ∧ r.length = w) ?_ ?_
      · (repeat refine AW.seq ?_)
        refine AW.block ?_
        cases hq : lessQ (qat r k) f (qat by_ k) with
        | none =>
          rw [hq] at hle hst
          replace hst : iterO (belowRow by_ f j) (t + 1) row = none := hst
          simp only [resQ] at hle
          have hX := iterO_none' hst (m := w - j) (by omega)
          rw [hX]
          (repeat refine AW.seq_k fun K hK => ?_)
          refine AW.rdT [] [5] [] [bi, br] [0, 1, 2, 3, 4, 5, 6, 7, 8, 9, 10, 11, 12, 13, 14, 15] mix (by simp [twoM, hne, hne', hkw, hrR, hbR, e1, e2]) (by simp [twoM, hne, hne', hkw, hrR, hbR, e1, e2]) (by simp [twoM, hne, hne', hkw, hrR, hbR, e1, e2]) (by simp [twoM, hne, hne', hkw, hrR, hbR, e1, e2]) (by simp [twoM, hne, hne', hkw, hrR, hbR, e1, e2]) ?_
          simp [-Int.natCast_add, twoM, hne, hne', hkw, hrR, hbR, e1, e2]
          try (refine hK _ rfl ?_; clear hK; clear K)
          refine CallK.val hle ?_
          simp [zeroRat]
          refine Fresh.intro fun b10 hb10 => ?_
          refine hK _ rfl ?_
          clear hK
          clear K
          refine AW.turn [(11, .int .i64 2)] (twoM bi br r by_) (Recast.drop hb10 (twoM_ones bi br r by_)) (by simp) ?_
          (repeat refine AW.seq_k fun K hK => ?_)
          refine AW.rg ?_
          simp [-Int.natCast_add]
          try (refine hK _ rfl ?_; clear hK; clear K)
          refine AW.yes ?_ rfl
          (repeat refine AW.seq_k fun K hK => ?_)
          refine AW.rg ?_
          simp [-Int.natCast_add]
          try (refine hK _ rfl ?_; clear hK; clear K)
          exact AW.ret (ret_mem rfl (twoM_ones bi br r by_) ⟨rfl, twoM_ones bi br r by_, twoM_only⟩)
        | some z =>
          rw [hq] at hle hst
          simp only [resQ] at hle
          (repeat refine AW.seq_k fun K hK => ?_)
          refine AW.rdT [] [5] [] [bi, br] [0, 1, 2, 3, 4, 5, 6, 7, 8, 9, 10, 11, 12, 13, 14, 15] mix (by simp [twoM, hne, hne', hkw, hrR, hbR, e1, e2]) (by simp [twoM, hne, hne', hkw, hrR, hbR, e1, e2]) (by simp [twoM, hne, hne', hkw, hrR, hbR, e1, e2]) (by simp [twoM, hne, hne', hkw, hrR, hbR, e1, e2]) (by simp [twoM, hne, hne', hkw, hrR, hbR, e1, e2]) ?_
          simp [-Int.natCast_add, twoM, hne, hne', hkw, hrR, hbR, e1, e2]
          try (refine hK _ rfl ?_; clear hK; clear K)
          refine CallK.val hle ?_
          simp [qAV]
          refine Fresh.intro fun b10 hb10 => ?_
          refine hK _ rfl ?_
          clear hK
          clear K
          refine AW.turn [(0, .osl bi 4 0 w), (2, .osl br 4 0 w), (3, .int .i64 j), (5, .rptr [.bool (ofQ f).n1, lim (ofQ f).l1, .bool (ofQ f).n2, lim (ofQ f).l2]), (9, .int .i64 (k : Nat)), (10, .rptr [.bool (ofQ z).n1, lim (ofQ z).l1, .bool (ofQ z).n2, lim (ofQ z).l2]), (11, .int .i64 0)] (twoM bi br r by_) (Recast.drop hb10 (twoM_ones bi br r by_)) ?_ ?_
          · simp
            exact view_temp hb10
          (repeat refine AW.seq_k fun K hK => ?_)
          refine AW.rg ?_
          simp [-Int.natCast_add]
          try (refine hK _ rfl ?_; clear hK; clear K)
          refine AW.no ?_ rfl
          refine AW.skip ?_
          try simp [-Int.natCast_add]
          refine hK _ rfl ?_
          clear hK
          clear K
          (repeat refine AW.seq_k fun K hK => ?_)
          refine AW.rg ?_
          simp [-Int.natCast_add, twoM, hne, hne', hkw, hrR]
          try (refine hK _ rfl ?_; clear hK; clear K)
          refine ⟨r.set k z, ⟨hst, good_set g3 k (good_less hq), by rw [List.length_set]; exact g4⟩, ?_⟩
          rw [set_back hne]
          show (Mem.emp.set bi ⟨36, 4, (rrs (r.map ofQ)).set k (ofQ z).av⟩).set br _ = _
          rw [rrs_set, List.map_set]
      rintro r ⟨q1, q2, q3⟩
      (repeat refine AW.seq_k fun K hK => ?_)
      refine AW.rg ?_
      simp [-Int.natCast_add, w1]
      try (refine hK _ rfl ?_; clear hK; clear K)
      exact ⟨t + 1, r, ⟨by omega, q1, q2, q3⟩, by omega, rfl, by omega⟩
    · refine AW.exit ?_
      try simp [-Int.natCast_add]
      have : t = w - j := by omega
      subst this
      exact ⟨r, g2, rfl⟩
  rintro r hX
  rw [hX]
  (repeat refine AW.seq_k fun K hK => ?_)
  refine AW.rg ?_
  simp
  try (refine hK _ rfl ?_; clear hK; clear K)
  exact AW.ret (ret_mem rfl (twoM_ones bi br r by_) ⟨rfl, rfl⟩)
end Go.Av
end
section
/- The reference: a column. -/
namespace Go.Av
open Go.Proofs
theorem below_zero (by_ : List Rat) (f : Rat) : belowRow by_ f 0 = subStep by_ f := by
  funext t row
  unfold belowRow subStep
  rw [Nat.zero_add]
theorem only_two {m : Mem} {bi br : Nat} {a b : List Rat} (h1 : m bi = some ⟨36, 4, rrs (a.map ofQ)⟩) (h2 : m br = some ⟨36, 4, rrs (b.map ofQ)⟩) (hne : bi ≠ br) : m.only [bi, br] = twoM bi br a b := by
  funext k
  unfold twoM
  simp only [set_at, emp_at]
  by_cases k1 : k = br
  · subst k1; rw [only_in (by simp), if_pos rfl, h2]
  · rw [if_neg k1]
    by_cases k2 : k = bi
    · subst k2; rw [only_in (by simp), if_pos rfl, h1]
    · rw [if_neg k2, only_out (by simp [k1, k2])]
theorem back_two {m : Mem} {bi br : Nat} {a b : List Rat} (h2 : m br = some ⟨36, 4, rrs (b.map ofQ)⟩) (hne : bi ≠ br) : m.back [bi, br] (twoM bi br a b) = m.set bi ⟨36, 4, rrs (a.map ofQ)⟩ := by
  funext k
  simp only [set_at]
  by_cases k2 : k = bi
  · subst k2
    rw [if_pos rfl]
    exact back_some (by unfold twoM; simp [hne])
  · rw [if_neg k2]
    by_cases k1 : k = br
    · subst k1
      rw [h2]
      exact back_some (by unfold twoM; simp)
    · exact back_out (by unfold twoM; simp [k1, k2]) (by simp [k1, k2])
/-- A matrix of the reference in memory. -/
def RefM (M : Mem) (B : Nat) (bs : List Nat) (X : List (List Rat)) : Prop := MatM M B bs (emb X) ∧ OnlyM M (B :: bs)
theorem RefM.ones {M : Mem} {B : Nat} {bs : List Nat} {X : List (List Rat)} (h : RefM M B bs X) : OnesM M := h.1.ones (l := []) h.2 (by simp)
theorem RefM.setRow {M : Mem} {B : Nat} {bs : List Nat} {X : List (List Rat)} (h : RefM M B bs X) {i : Nat} (hi : i < X.length) {r : List Rat} (hr : r.length = (mrow X i).length) : RefM (M.set (nb bs i) ⟨36, 4, rrs (r.map ofQ)⟩) B bs (X.set i r) := by
  refine ⟨?_, h.2.set ?_ _⟩
  · rw [emb_set]
    exact h.1.setRow (by rw [emb_length]; exact hi) _ (by rw [emb_row, List.length_map, List.length_map, hr])
  · exact List.mem_cons_of_mem _ (nb_mem (by rw [h.1.len, emb_length]; exact hi))
def clearOut (B : Nat) (bs : List Nat) (Z : Option (List (List Rat))) (v : AV) (M : Mem) : Prop :=
  match Z with
  | some Y => v = .int .i64 0 ∧ RefM M B bs Y
  | none => v = .int .i64 2 ∧ OnesM M
set_option maxHeartbeats 1000000
theorem clear_call (M0 : Mem) (B : Nat) (bs : List Nat) (X : List (List Rat)) (n w j r : Nat) (hM : RefM M0 B bs X) (hG : matGood n w X) (hj : j < w) (hr : r < n) (hdq : qel X r j ≠ 0) (hn : n ≤ 64) (hw : w ≤ 64) :
    ACall Tryz.prog 50 [.osl B 1 0 n, .int .i64 j, .int .i64 r] M0 (clearOut B bs (clearQ X j r)) := by
  have hjl : j < (mrow X r).length := by rw [(hG.row hr).2]; exact hj
  have hrE : r < (emb X).length := by rw [emb_length, hG.2.2]; exact hr
  have hlr : (mrow (emb X) r).length = w := by rw [emb_row, List.length_map]; exact (hG.row hr).2
  have ed : rr (mrow (emb X) r) j = ofQ (qel X r j) := by rw [emb_row, rr_map hjl]; rfl
  have gd : Good (qel X r j) := hG.1.at hjl
  have hcl : clearQ X j r = (iterO (divStep (qel X r j)) w (mrow X r)).bind fun row => iterO (elimStep r j) n (X.set r row) := by
    unfold clearQ; rw [(hG.row hr).2, hG.2.2]
  rw [hcl]
  clear hcl
  generalize qel X r j = d at *
  have hxr : r < X.length := by rw [hG.2.2]; exact hr
  refine acall_S Tryz.func50 rfl rfl 86 rfl (Nat.le_of_ble_eq_true rfl) ?_
  (repeat refine AW.seq_k fun K hK => ?_)
  refine AW.rg ?_
  simp [argsL]
  try (refine hK _ rfl ?_; clear hK; clear K)
  (repeat refine AW.seq_k fun K hK => ?_)
  refine AW.rg ?_
  simp [hr, hM.1.top, ↓hM.1.get hrE, hM.1.row r hrE, hlr, hj, ed]
  try (refine hK _ rfl ?_; clear hK; clear K)
  refine Fresh.intro fun b7 hb7 => ?_
  refine hK _ rfl ?_
  clear hK
  clear K
  refine AW.turn [(0, .osl B 1 0 n), (1, .int .i64 j), (2, .int .i64 r), (7, .rptr [.bool (ofQ d).n1, lim (ofQ d).l1, .bool (ofQ d).n2, lim (ofQ d).l2])] M0 (Recast.drop hb7 hM.ones) ?_ ?_
  · simp
    exact view_temp hb7
  refine AW.seq_ex (ι := Mem × List Rat) (fun _ => [(0, .osl B 1 0 n), (1, .int .i64 j), (2, .int .i64 r), (7, .rptr [.bool (ofQ d).n1, lim (ofQ d).l1, .bool (ofQ d).n2, lim (ofQ d).l2])]) (fun z => z.1) (fun z => RefM z.1 B bs (X.set r z.2) ∧ iterO (divStep d) w (mrow X r) = some z.2 ∧ rowGood z.2 ∧ z.2.length = w) ?_ ?_
  · (repeat refine AW.seq_k fun K hK => ?_)
    refine AW.rg ?_
    simp
    try (refine hK _ rfl ?_; clear hK; clear K)
    refine AW.block (AW.loopS (ι := Nat × Mem × List Rat) (fun z => [(0, .osl B 1 0 n), (1, .int .i64 j), (2, .int .i64 r), (7, .rptr [.bool (ofQ d).n1, lim (ofQ d).l1, .bool (ofQ d).n2, lim (ofQ d).l2]), (8, .int .i64 (z.1 : Nat))]) (fun z => z.2.1) (fun z => z.1 ≤ w ∧ RefM z.2.1 B bs (X.set r z.2.2) ∧ iterO (divStep d) z.1 (mrow X r) = some z.2.2 ∧ rowGood z.2.2 ∧ z.2.2.length = w) (fun z => w - z.1) (0, M0, mrow X r) ⟨by simp, by rw [mrow_eq hxr, List.set_getElem_self]; exact hM, rfl, (hG.row hr).1, (hG.row hr).2⟩ rfl (by simp) ?_)
    rintro ⟨k, M, row⟩ ⟨g1, g2, g3, g4, g5⟩
    simp only at g1 g2 g3 g4 g5
    have hrE' : r < (emb (X.set r row)).length := by rw [emb_length, List.length_set]; exact hxr
    have hrow : mrow (emb (X.set r row)) r = row.map ofQ := by rw [emb_row, mrow_set hxr, if_pos rfl]
    have hlr' : (mrow (emb (X.set r row)) r).length = w := by rw [hrow, List.length_map, g5]
    have hRr := g2.1.row r hrE'
    have hGr := g2.1.get hrE'
    rw [hrow] at hRr hGr
    rw [show (row.map ofQ).length = w by rw [List.length_map, g5]] at hGr
    have n0 := g2.1.ne hrE'
    (repeat refine AW.seq_k fun K hK => ?_)
    refine AW.rg ?_
    simp [hr, g2.1.top, ↓hGr]
    try (refine hK _ rfl ?_; clear hK; clear K)
    (repeat refine AW.seq ?_)
    refine AW.cs (fun hk => ?_) (fun hk => ?_) rfl <;> (try simp at hk)
    · refine AW.skip ?_
      try simp
      refine hK _ rfl ?_
      clear hK
      clear K
      have w1 : IntKind.i64.wrap ((k + 1 : Nat) : Int) = ((k + 1 : Nat) : Int) := wi (by omega)
      have hkr : k < row.length := by omega
      have e1 : rr (row.map ofQ) k = ofQ (qat row k) := rr_map hkr
      have hrR : (row.map ofQ).length = w := by rw [List.length_map, g5]
      have hdv := div2_call (qat row k) d (g4.at hkr) gd hdq
      have hst : iterO (divStep d) (k + 1) (mrow X r) = (divQ (qat row k) d).map (row.set k) := by
        rw [iterO_succ, g3]; rfl
      refine AW.seq_ex (ι := Mem × List Rat) (fun _ => [(0, .osl B 1 0 n), (1, .int .i64 j), (2, .int .i64 r), (7, .rptr [.bool (ofQ d).n1, lim (ofQ d).l1, .bool (ofQ d).n2, lim (ofQ d).l2]), (8, .int .i64 (k : Nat))]) (fun z => z.1) (fun z => RefM z.1 B bs (X.set r z.2) ∧ iterO (divStep d) (k + 1) (mrow X r) = some z.2 ∧ rowGood z.2 ∧ z.2.length = w) ?_ ?_
      · (repeat refine AW.seq ?_)
        refine AW.block ?_
        cases hq : divQ (qat row k) d with
        | none =>
          rw [hq] at hdv hst
          replace hst : iterO (divStep d) (k + 1) (mrow X r) = none := hst
          simp only [resQ] at hdv
          have hX := iterO_none' hst (m := w) (by omega)
          rw [hX]
          (repeat refine AW.seq_k fun K hK => ?_)
          refine AW.rdT [] [7] [] [B, nb bs r] [0, 1, 2, 3, 4, 5, 6, 7, 8, 9, 10, 11, 12, 13, 14] mix (by simp [hr, g2.1.top, ↓hGr, hRr, hk, hrR, e1]) (by simp [hr, g2.1.top, ↓hGr, hRr, hk, hrR, e1]) (by simp [hr, g2.1.top, ↓hGr, hRr, hk, hrR, e1]) (by simp [hr, g2.1.top, ↓hGr, hRr, hk, hrR, e1]) (by simp [hr, g2.1.top, ↓hGr, hRr, hk, hrR, e1]) ?_
          simp [hr, g2.1.top, ↓hGr, hRr, hk, hrR, e1]
          try (refine hK _ rfl ?_; clear hK; clear K)
          refine CallK.val hdv ?_
          simp [zeroRat]
          refine Fresh.intro fun b9 hb9 => ?_
          refine hK _ rfl ?_
          clear hK
          clear K
          refine AW.turn [(10, .int .i64 2)] M (Recast.drop hb9 g2.ones) (by simp) ?_
          (repeat refine AW.seq_k fun K hK => ?_)
          refine AW.rg ?_
          simp
          try (refine hK _ rfl ?_; clear hK; clear K)
          refine AW.yes ?_ rfl
          (repeat refine AW.seq_k fun K hK => ?_)
          refine AW.rg ?_
          simp
          try (refine hK _ rfl ?_; clear hK; clear K)
          exact AW.ret (ret_mem rfl g2.ones ⟨rfl, g2.ones⟩)
        | some z =>
          rw [hq] at hdv hst
          simp only [resQ] at hdv
          (repeat refine AW.seq_k fun K hK => ?_)
          refine AW.rdT [] [7] [] [B, nb bs r] [0, 1, 2, 3, 4, 5, 6, 7, 8, 9, 10, 11, 12, 13, 14] mix (by simp [hr, g2.1.top, ↓hGr, hRr, hk, hrR, e1]) (by simp [hr, g2.1.top, ↓hGr, hRr, hk, hrR, e1]) (by simp [hr, g2.1.top, ↓hGr, hRr, hk, hrR, e1]) (by simp [hr, g2.1.top, ↓hGr, hRr, hk, hrR, e1]) (by simp [hr, g2.1.top, ↓hGr, hRr, hk, hrR, e1]) ?_
          simp [hr, g2.1.top, ↓hGr, hRr, hk, hrR, e1]
          try (refine hK _ rfl ?_; clear hK; clear K)
          refine CallK.val hdv ?_
          simp [qAV]
          refine Fresh.intro fun b9 hb9 => ?_
          refine hK _ rfl ?_
          clear hK
          clear K
          refine AW.turn [(0, .osl B 1 0 n), (1, .int .i64 j), (2, .int .i64 r), (7, .rptr [.bool (ofQ d).n1, lim (ofQ d).l1, .bool (ofQ d).n2, lim (ofQ d).l2]), (8, .int .i64 (k : Nat)), (9, .rptr [.bool (ofQ z).n1, lim (ofQ z).l1, .bool (ofQ z).n2, lim (ofQ z).l2]), (10, .int .i64 0)] M (Recast.drop hb9 g2.ones) ?_ ?_
          · simp
            exact view_temp hb9
          (repeat refine AW.seq_k fun K hK => ?_)
          refine AW.rg ?_
          simp
          try (refine hK _ rfl ?_; clear hK; clear K)
          refine AW.no ?_ rfl
          refine AW.skip ?_
          try simp
          refine hK _ rfl ?_
          clear hK
          clear K
          (repeat refine AW.seq_k fun K hK => ?_)
          refine AW.rdT [] [9] [] [B] [0, 1, 2, 3, 4, 5, 6, 7] mix (by simp [hr, g2.1.top, ↓hGr, hRr, hk, hrR, n0]) (by simp [hr, g2.1.top, ↓hGr, hRr, hk, hrR, n0]) (by simp [hr, g2.1.top, ↓hGr, hRr, hk, hrR, n0]) (by simp [hr, g2.1.top, ↓hGr, hRr, hk, hrR, n0]) (by simp [hr, g2.1.top, ↓hGr, hRr, hk, hrR, n0]) ?_
          simp [hr, g2.1.top, ↓hGr, hRr, hk, hrR, n0]
          try (refine hK _ rfl ?_; clear hK; clear K)
          refine ⟨row.set k z, ?_, hst, good_set g4 k (good_div hdq hq), by rw [List.length_set]; exact g5⟩
          have hs := g2.setRow (i := r) (r := row.set k z) (by rw [List.length_set]; exact hxr) (by rw [List.length_set, mrow_set hxr, if_pos rfl])
          rw [List.set_set, List.map_set, ← rrs_set] at hs
          exact hs
      rintro ⟨M, row⟩ ⟨q1, q2, q3, q4⟩
      (repeat refine AW.seq_k fun K hK => ?_)
      refine AW.rg ?_
      simp [-Int.natCast_add, w1]
      try (refine hK _ rfl ?_; clear hK; clear K)
      exact ⟨k + 1, M, ⟨hk, row, q1, q2, q3, q4⟩, by omega, rfl, rfl⟩
    · refine AW.exit ?_
      try simp
      have : k = w := by omega
      subst this
      exact ⟨row, g2, g3, g4, g5⟩
  rintro ⟨M1, row⟩ ⟨g2, g3, g4, g5⟩
  simp only at g2 g3 g4 g5
  rw [g3]
  have hG1 : matGood n w (X.set r row) := hG.set r ⟨g4, g5⟩
  show AW _ _ (retQ _ _ (clearOut B bs (iterO (elimStep r j) n (X.set r row)))) _
  have hM1 := g2
  generalize X.set r row = X1 at *
  clear g2 g3 g4 g5
  refine AW.seq_ex (ι := Mem × List (List Rat)) (fun _ => [(0, .osl B 1 0 n), (1, .int .i64 j), (2, .int .i64 r), (7, .rptr [.bool (ofQ d).n1, lim (ofQ d).l1, .bool (ofQ d).n2, lim (ofQ d).l2])]) (fun z => z.1) (fun z => RefM z.1 B bs z.2 ∧ iterO (elimStep r j) n X1 = some z.2) ?_ ?_
  · (repeat refine AW.seq_k fun K hK => ?_)
    refine AW.rg ?_
    simp
    try (refine hK _ rfl ?_; clear hK; clear K)
    refine AW.block (AW.loopS (ι := Nat × Mem × List (List Rat)) (fun z => [(0, .osl B 1 0 n), (1, .int .i64 j), (2, .int .i64 r), (7, .rptr [.bool (ofQ d).n1, lim (ofQ d).l1, .bool (ofQ d).n2, lim (ofQ d).l2]), (11, .int .i64 (z.1 : Nat))]) (fun z => z.2.1) (fun z => z.1 ≤ n ∧ RefM z.2.1 B bs z.2.2 ∧ iterO (elimStep r j) z.1 X1 = some z.2.2 ∧ matGood n w z.2.2) (fun z => n - z.1) (0, M1, X1) ⟨by simp, hM1, rfl, hG1⟩ rfl (by simp) ?_)
    rintro ⟨i, M, Y⟩ ⟨g1, g2, g3, g4⟩
    simp only at g1 g2 g3 g4
    (repeat refine AW.seq_k fun K hK => ?_)
    refine AW.rg ?_
    simp
    try (refine hK _ rfl ?_; clear hK; clear K)
    (repeat refine AW.seq ?_)
    refine AW.cs (fun hi => ?_) (fun hi => ?_) rfl <;> (try simp at hi)
    · refine AW.skip ?_
      try simp
      refine hK _ rfl ?_
      clear hK
      clear K
      have w1 : IntKind.i64.wrap ((i + 1 : Nat) : Int) = ((i + 1 : Nat) : Int) := wi (by omega)
      have hiE : i < (emb Y).length := by rw [emb_length, g4.2.2]; exact hi
      have hrE' : r < (emb Y).length := by rw [emb_length, g4.2.2]; exact hr
      have hli : (mrow (emb Y) i).length = w := by rw [emb_row, List.length_map]; exact (g4.row hi).2
      have hlr' : (mrow (emb Y) r).length = w := by rw [emb_row, List.length_map]; exact (g4.row hr).2
      have hji : j < (mrow Y i).length := by rw [(g4.row hi).2]; exact hj
      have ef : rr (mrow (emb Y) i) j = ofQ (qel Y i j) := by rw [emb_row, rr_map hji]; rfl
      have gf : Good (qel Y i j) := g4.1.at hji
      have hsg := rsign2_call (ofQ (qel Y i j)) (ofQ_lb _)
      rw [signR_ofQ gf] at hsg
      have hst : iterO (elimStep r j) (i + 1) X1 = elimStep r j i Y := by rw [iterO_succ, g3]; rfl
      refine AW.seq_ex (ι := Mem × List (List Rat)) (fun _ => [(0, .osl B 1 0 n), (1, .int .i64 j), (2, .int .i64 r), (7, .rptr [.bool (ofQ d).n1, lim (ofQ d).l1, .bool (ofQ d).n2, lim (ofQ d).l2]), (11, .int .i64 (i : Nat))]) (fun z => z.1) (fun z => RefM z.1 B bs z.2 ∧ iterO (elimStep r j) (i + 1) X1 = some z.2 ∧ matGood n w z.2) ?_ ?_
      · (repeat refine AW.seq ?_)
        refine AW.block ?_
        (repeat refine AW.seq_k fun K hK => ?_)
        refine AW.rg ?_
        simp [hi, g2.1.top, ↓g2.1.get hiE, g2.1.row i hiE, hli, hj, ef]
        try (refine hK _ rfl ?_; clear hK; clear K)
        refine Fresh.intro fun b12 hb12 => ?_
        refine hK _ rfl ?_
        clear hK
        clear K
        refine AW.turn [(0, .osl B 1 0 n), (1, .int .i64 j), (2, .int .i64 r), (7, .rptr [.bool (ofQ d).n1, lim (ofQ d).l1, .bool (ofQ d).n2, lim (ofQ d).l2]), (11, .int .i64 (i : Nat)), (12, .rptr [.bool (ofQ (qel Y i j)).n1, lim (ofQ (qel Y i j)).l1, .bool (ofQ (qel Y i j)).n2, lim (ofQ (qel Y i j)).l2])] M (Recast.drop hb12 g2.ones) ?_ ?_
        · simp
          exact view_temp hb12
        refine AW.seq_ex (ι := Unit) (fun _ => [(0, .osl B 1 0 n), (1, .int .i64 j), (2, .int .i64 r), (7, .rptr [.bool (ofQ d).n1, lim (ofQ d).l1, .bool (ofQ d).n2, lim (ofQ d).l2]), (11, .int .i64 (i : Nat)), (12, .rptr [.bool (ofQ (qel Y i j)).n1, lim (ofQ (qel Y i j)).l1, .bool (ofQ (qel Y i j)).n2, lim (ofQ (qel Y i j)).l2])]) (fun _ => M) (fun _ => i ≠ r ∧ signQ (qel Y i j) ≠ 0) ?_ ?_
        · by_cases hir : i = r
          · (repeat refine AW.seq_k fun K hK => ?_)
            refine AW.rg ?_
            simp [hir]
            try (refine hK _ rfl ?_; clear hK; clear K)
            refine AW.yes ?_ rfl
            refine AW.exit ?_
            try simp
            exact ⟨M, ⟨Y, g2, by rw [hst]; exact if_pos (.inl hir), g4⟩, by simp [hir]⟩
          · (repeat refine AW.seq_k fun K hK => ?_)
            refine AW.rg ?_
            simp [hir]
            try (refine hK _ rfl ?_; clear hK; clear K)
            refine CallK.val hsg ?_
            simp
            refine hK _ rfl ?_
            clear hK
            clear K
            (repeat refine AW.seq ?_)
            refine AW.cs (fun h0 => ?_) (fun h0 => ?_) rfl <;> (try simp at h0)
            · refine AW.exit ?_
              try simp
              exact ⟨Y, g2, by rw [hst]; exact if_pos (.inr (signQ_zero.1 h0)), g4⟩
            · refine AW.skip ?_
              try simp
              exact ⟨hir, h0⟩
        rintro _ ⟨h1, h2⟩
        have hel : elimStep r j i Y = (iterO (subStep (mrow Y r) (qel Y i j)) w (mrow Y i)).map (Y.set i) := by
          unfold elimStep
          rw [if_neg (by rintro (h | h); exact h1 h; exact h2 (signQ_zero.2 h)), (g4.row hi).2]
        have hne : nb bs i ≠ nb bs r := fun h => h1 (nb_inj g2.1.nd (by rw [g2.1.len]; exact hiE) (by rw [g2.1.len]; exact hrE') h)
        have hsub := subtract_call (nb bs i) (nb bs r) (mrow Y i) (mrow Y r) (qel Y i j) w 0 hne (g4.row hi).1 (g4.row hi).2 (g4.row hr).1 (g4.row hr).2 gf (by omega) hw
        rw [below_zero, Nat.sub_zero] at hsub
        have hMi := g2.1.row i hiE
        have hMr := g2.1.row r hrE'
        rw [emb_row] at hMi hMr
        rw [← only_two hMi hMr hne] at hsub
        have nBi := g2.1.ne hiE
        have nBr := g2.1.ne hrE'
        (repeat refine AW.seq_k fun K hK => ?_)
        refine AW.rdT [] [12] [] [B] [0, 1, 2, 3, 4, 5, 6, 7, 8, 9, 10] mix (by simp [hi, hr, g2.1.top, ↓g2.1.get hiE, ↓g2.1.get hrE', hli, hlr']) (by simp [hi, hr, g2.1.top, ↓g2.1.get hiE, ↓g2.1.get hrE', hli, hlr']) (by simp [hi, hr, g2.1.top, ↓g2.1.get hiE, ↓g2.1.get hrE', hli, hlr']) (by simp [hi, hr, g2.1.top, ↓g2.1.get hiE, ↓g2.1.get hrE', hli, hlr']) (by simp [hi, hr, g2.1.top, ↓g2.1.get hiE, ↓g2.1.get hrE', hli, hlr']) ?_
        simp [hi, hr, g2.1.top, ↓g2.1.get hiE, ↓g2.1.get hrE', hli, hlr']
        try (refine hK _ rfl ?_; clear hK; clear K)
        refine CallK.hand [nb bs i, nb bs r] (by simp [nBi, nBr]) hsub ?_
        intro v g hv hf
        cases hit : iterO (subStep (mrow Y r) (qel Y i j)) w (mrow Y i) with
        | none =>
          rw [hit] at hv hel
          obtain ⟨rfl, k2, k3⟩ := hv
          have hno : iterO (elimStep r j) (i + 1) X1 = none := by rw [hst, hel]; rfl
          have hX := iterO_none' hno (m := n) (by omega)
          have hones : OnesM (M.back [nb bs i, nb bs r] g) := back_ones g2.ones k2
          generalize M.back [nb bs i, nb bs r] g = M' at *
          simp
          refine hK _ rfl ?_
          clear hK
          clear K
          (repeat refine AW.seq_k fun K hK => ?_)
          refine AW.rg ?_
          simp
          try (refine hK _ rfl ?_; clear hK; clear K)
          refine AW.yes ?_ rfl
          (repeat refine AW.seq_k fun K hK => ?_)
          refine AW.rg ?_
          simp
          try (refine hK _ rfl ?_; clear hK; clear K)
          rw [hX]
          exact AW.ret (ret_mem rfl hones ⟨rfl, hones⟩)
        | some row =>
          rw [hit] at hv hel
          obtain ⟨rfl, rfl⟩ := hv
          rw [back_two hMr hne]
          simp
          refine hK _ rfl ?_
          clear hK
          clear K
          (repeat refine AW.seq_k fun K hK => ?_)
          refine AW.rg ?_
          simp
          try (refine hK _ rfl ?_; clear hK; clear K)
          refine AW.no ?_ rfl
          refine AW.skip ?_
          try simp
          have hrg := iter_keep (p := fun row => rowGood row ∧ row.length = w) (fun k s t hs hst => rowStep_keep (fun q k x hx => good_less hx) hs hst) (g4.row hi) hit
          exact ⟨Y.set i row, g2.setRow (by rw [g4.2.2]; exact hi) (by rw [hrg.2, (g4.row hi).2]), by rw [hst, hel]; rfl, g4.set i hrg⟩
      rintro ⟨M, Y⟩ ⟨q1, q2, q3⟩
      (repeat refine AW.seq_k fun K hK => ?_)
      refine AW.rg ?_
      simp [-Int.natCast_add, w1]
      try (refine hK _ rfl ?_; clear hK; clear K)
      exact ⟨i + 1, M, ⟨hi, Y, q1, q2, q3⟩, by omega, rfl, rfl⟩
    · refine AW.exit ?_
      try simp
      have : i = n := by omega
      subst this
      exact ⟨Y, g2, g3⟩
  rintro ⟨M, Y⟩ ⟨g2, g3⟩
  simp only at g2 g3
  rw [g3]
  (repeat refine AW.seq_k fun K hK => ?_)
  refine AW.rg ?_
  simp
  try (refine hK _ rfl ?_; clear hK; clear K)
  exact AW.ret (ret_mem rfl g2.ones ⟨rfl, g2⟩)
end Go.Av
end
section
/- The reference: a copy. -/
namespace Go.Av
open Go.Proofs
/-- A matrix whose rows are appended one after the other. -/
def CopM (M : Mem) (ov : AV) (bs : List Nat) (rows : List (List RR)) : Prop :=
  (rows = [] ∧ bs = [] ∧ ov = .nil ∧ M = Mem.emp) ∨ ∃ B, ov = .osl B 1 0 rows.length ∧ MatM M B bs rows ∧ OnlyM M (B :: bs)
theorem mrow_row_nb {bs : List Nat} {rows : List (List RR)} (h : bs.length = rows.length) (b : Nat) (r : List RR) : (bs ++ [b]).length = (rows ++ [r]).length := by simp [h]
theorem MatM.snoc {M' : Mem} {B : Nat} {bs : List Nat} {rows : List (List RR)} {b : Nat} {r : List RR} (hl : bs.length = rows.length) (htop : M' B = some ⟨42, 1, hdrs bs rows ++ [.osl b 4 0 r.length]⟩) (hrow : ∀ i, i < rows.length → M' (nb bs i) = some ⟨36, 4, rrs (mrow rows i)⟩) (hb : M' b = some ⟨36, 4, rrs r⟩) (hnd : bs.Nodup) (hbb : b ∉ bs) (hB : B ∉ bs) (hBb : B ≠ b) : MatM M' B (bs ++ [b]) (rows ++ [r]) := by
  refine ⟨by rw [hdrs_snoc hl]; exact htop, by simp [hl], fun i hi => ?_, ?_, ?_⟩
  · have hi' : i < rows.length + 1 := by simpa using hi
    rw [nb_snoc bs b i (by rw [hl]; exact hi'), mrow_snoc rows r i hi', hl]
    by_cases hlt : i < rows.length
    · rw [if_pos hlt, if_pos hlt]; exact hrow i hlt
    · rw [if_neg hlt, if_neg hlt]; exact hb
  · rw [List.nodup_append]
    exact ⟨hnd, by simp, fun x hx y hy => by simp at hy; subst hy; exact fun e => hbb (e ▸ hx)⟩
  · simp only [List.mem_append, List.mem_singleton, not_or]
    exact ⟨hB, hBb⟩
theorem del_none {m : Mem} {b : Nat} (h : m b = none) : m.del b = m := by
  funext k
  show (if k = b then none else m k) = m k
  split
  · rename_i e; rw [e, h]
  · rfl
theorem copied_call (m : List (List RR)) (h1 : m.length ≤ 64) (h2 : ∀ r ∈ m, r.length ≤ 64) : ACall Tryz.prog 47 [matAV m] Mem.emp fun v M => ∃ bs, CopM M v bs m := by
  refine acall_S Tryz.func47 rfl rfl 21 rfl (Nat.le_of_ble_eq_true rfl) ?_
  (repeat refine AW.seq_k fun K hK => ?_)
  refine AW.rg ?_
  simp [argsL]
  try (refine hK _ rfl ?_; clear hK; clear K)
  (repeat refine AW.seq_k fun K hK => ?_)
  refine AW.rg ?_
  simp
  try (refine hK _ rfl ?_; clear hK; clear K)
  refine AW.seq_ex (ι := Mem × AV × List Nat) (fun z => [(3, z.2.1)]) (fun z => z.1) (fun z => CopM z.1 z.2.1 z.2.2 m) ?_ ?_
  · (repeat refine AW.seq_k fun K hK => ?_)
    refine AW.rg ?_
    simp
    try (refine hK _ rfl ?_; clear hK; clear K)
    refine AW.block (AW.loopS (ι := Nat × Mem × AV × List Nat) (fun z => [(0, matAV m), (3, z.2.2.1), (4, .int .i64 (z.1 : Nat))]) (fun z => z.2.1) (fun z => z.1 ≤ m.length ∧ CopM z.2.1 z.2.2.1 z.2.2.2 (m.take z.1)) (fun z => m.length - z.1) (0, Mem.emp, .nil, []) ⟨by simp, .inl ⟨by simp, rfl, rfl, rfl⟩⟩ rfl (by simp) ?_)
    rintro ⟨i, M, ov, bs⟩ ⟨g1, g2⟩
    simp only at g1 g2
    (repeat refine AW.seq_k fun K hK => ?_)
    refine AW.rg ?_
    simp
    try (refine hK _ rfl ?_; clear hK; clear K)
    (repeat refine AW.seq ?_)
    refine AW.cs (fun hi => ?_) (fun hi => ?_) rfl <;> (try simp at hi)
    · refine AW.skip ?_
      try simp
      refine hK _ rfl ?_
      clear hK
      clear K
      have w1 : IntKind.i64.wrap ((i + 1 : Nat) : Int) = ((i + 1 : Nat) : Int) := wi (by omega)
      have hm : mrow m i ∈ m := by rw [mrow_eq hi]; exact List.getElem_mem hi
      have hrl := h2 _ hm
      have et : m.take (i + 1) = m.take i ++ [mrow m i] := by rw [List.take_add_one, List.getElem?_eq_getElem hi, mrow_eq hi]; rfl
      have htl : (m.take i).length = i := by simp; omega
      refine AW.seq_ex (ι := Mem × AV × List Nat) (fun z => [(0, matAV m), (3, z.2.1), (4, .int .i64 (i : Nat))]) (fun z => z.1) (fun z => CopM z.1 z.2.1 z.2.2 (m.take (i + 1))) ?_ ?_
      · (repeat refine AW.seq ?_)
        refine AW.block ?_
        rcases g2 with ⟨z1, z2, z3, z4⟩ | ⟨B, z1, z2, z3⟩
        · subst z2 z3 z4
          rw [z1] at htl
          simp at htl
          subst htl
          (repeat refine AW.seq_k fun K hK => ?_)
          refine AW.rgR [18] ?_
          simp [hi]
          try (refine hK _ rfl ?_; clear hK; clear K)
          refine Fresh.intro fun b _ => ⟨by omega, by unfold maxLen; omega, Fresh.intro fun b' _ => ⟨by unfold maxLen; omega, Fresh.intro fun B hB => ⟨[b'], .inr ⟨B, ?_, ?_, ?_⟩⟩⟩⟩
          · rw [et]; simp
          · have hBb : B ≠ b' := by rintro rfl; simp at hB
            rw [et, List.take_zero]
            exact MatM.snoc (bs := []) (rows := []) rfl (by simp [hdrs]) (fun i hi => (by cases hi)) (by simp [Ne.symm hBb]) List.nodup_nil (by simp) (by simp) hBb
          · exact (OnlyM.set (OnlyM.set (l := [B, b']) (fun k hk => absurd rfl hk) (by simp) _) (by simp) _)
        · subst z1
          rw [htl]
          (repeat refine AW.seq_k fun K hK => ?_)
          refine AW.rgR [18] ?_
          simp [hi, z2.top]
          try (refine hK _ rfl ?_; clear hK; clear K)
          refine Fresh.intro fun b hb => ⟨by omega, by unfold maxLen; omega, ?_⟩
          rw [del_none hb]
          refine Fresh.intro fun b' hb' => ?_
          have n1 : B ≠ b' := by rintro rfl; rw [z2.top] at hb'; cases hb'
          have n2 : B ≠ b := by rintro rfl; rw [z2.top] at hb; cases hb
          have hl : bs.length = (m.take i).length := z2.len
          refine ⟨hdrs bs (m.take i), by rw [if_neg n1, if_neg n2], by rw [hdrs_length hl, htl], by rw [hdrs_length hl, htl]; omega, by rw [hdrs_length hl, htl]; unfold maxLen; omega, ?_⟩
          refine Fresh.intro fun B1 hB1 => ⟨bs ++ [b'], .inr ⟨B1, ?_, ?_, ?_⟩⟩
          · rw [hdrs_length hl, et]; simp [htl]
          · have hbn : b' ∉ bs := by
              intro hm'
              obtain ⟨k, hk, e⟩ := List.mem_iff_getElem.1 hm'
              rw [← nb_eq hk] at e
              have := z2.row k (by rw [← hl]; exact hk)
              rw [e, hb'] at this; cases this
            have hrow : ∀ k, k < (m.take i).length → (((M.set b' ⟨36, 4, rrs (mrow m i)⟩).del B) (nb bs k)) = some ⟨36, 4, rrs (mrow (m.take i) k)⟩ := by
              intro k hk
              have q1 : nb bs k ≠ B := z2.ne hk
              have q2 : nb bs k ≠ b' := fun e => hbn (e ▸ nb_mem (by rw [hl]; exact hk))
              show (if nb bs k = B then none else (M.set b' _) (nb bs k)) = _
              rw [if_neg q1, Mem.set_other _ _ q2]
              exact z2.row k hk
            have hbv : ((M.set b' ⟨36, 4, rrs (mrow m i)⟩).del B) b' = some ⟨36, 4, rrs (mrow m i)⟩ := by
              show (if b' = B then none else (M.set b' _) b') = _
              rw [if_neg (Ne.symm n1), Mem.set_same]
            have hne : ∀ k y, ((M.set b' ⟨36, 4, rrs (mrow m i)⟩).del B) k = some y → k ≠ B1 := by
              rintro k y hk rfl
              rw [hB1] at hk; cases hk
            rw [et]
            refine MatM.snoc hl (by simp) (fun k hk => ?_) ?_ z2.nd hbn ?_ ?_
            · rw [Mem.set_other _ _ (hne _ _ (hrow k hk))]; exact hrow k hk
            · rw [Mem.set_other _ _ (hne _ _ hbv)]; exact hbv
            · intro hm'
              obtain ⟨k, hk, e⟩ := List.mem_iff_getElem.1 hm'
              rw [← nb_eq hk] at e
              exact hne _ _ (hrow k (by rw [← hl]; exact hk)) e
            · exact Ne.symm (hne _ _ hbv)
          · intro k hk
            simp only [set_at] at hk
            by_cases k1 : k = B1
            · simp [k1]
            · rw [if_neg k1] at hk
              have hk2 : (if k = B then none else (M.set b' ⟨36, 4, rrs (mrow m i)⟩) k) ≠ none := hk
              by_cases k2 : k = B
              · rw [if_pos k2] at hk2; exact absurd rfl hk2
              · rw [if_neg k2] at hk2
                by_cases k3 : k = b'
                · simp [k3]
                · rw [Mem.set_other _ _ k3] at hk2
                  have := z3 k hk2
                  simp [k2] at this
                  simp [this]
      rintro ⟨M, ov, bs⟩ hs
      (repeat refine AW.seq_k fun K hK => ?_)
      refine AW.rg ?_
      simp [-Int.natCast_add, w1]
      try (refine hK _ rfl ?_; clear hK; clear K)
      exact ⟨i + 1, M, ov, ⟨hi, bs, hs⟩, by omega, rfl, rfl, rfl⟩
    · refine AW.exit ?_
      try simp
      have : i = m.length := by omega
      subst this
      rw [List.take_length] at g2
      exact ⟨bs, g2⟩
  rintro ⟨M, ov, bs⟩ hs
  simp only at hs
  (repeat refine AW.seq_k fun K hK => ?_)
  refine AW.rg ?_
  simp
  try (refine hK _ rfl ?_; clear hK; clear K)
  refine AW.ret (ret_mem rfl ?_ ⟨bs, hs⟩)
  rcases hs with ⟨_, _, _, z4⟩ | ⟨B, _, z2, z3⟩
  · intro b y hy
    rw [z4] at hy; cases hy
  · exact z2.ones (l := []) z3 (by simp)
end Go.Av
end
section
/- The reference: Reduce. -/
namespace Go.Av
open Go.Proofs
structure RefP (M : Mem) (B : Nat) (bs : List Nat) (X : List (List Rat)) (pv : AV) (pb ps : List Nat) : Prop where
  mat : MatM M B bs (emb X)
  piv : PivV M pv pb ps
  npb : ∀ b ∈ pb, b ∉ B :: bs
  ones : OnesM M
section
variable {M : Mem} {B : Nat} {bs : List Nat} {X : List (List Rat)} {pv : AV} {pb ps : List Nat}
theorem RefP.ref (h : RefP M B bs X pv pb ps) : RefM (M.only (B :: bs)) B bs X := ⟨h.mat.only fun b hb => by simpa using hb, onlyM_only _ _⟩
theorem RefP.back (h : RefP M B bs X pv pb ps) {g : Mem} {X' : List (List Rat)} (hg : RefM g B bs X') : RefP (M.back (B :: bs) g) B bs X' pv pb ps :=
  ⟨hg.1.back _, h.piv.keep fun b hb => back_out (hg.2.none (h.npb b hb)) (h.npb b hb), h.npb, back_ones h.ones hg.ones⟩
theorem RefP.swap (h : RefP M B bs X pv pb ps) {i r : Nat} (hi : i < X.length) (hr : r < X.length) :
    RefP (M.set B ⟨42, 1, ((hdrs bs (emb X)).set i (.osl (nb bs r) 4 0 (mrow (emb X) r).length)).set r (.osl (nb bs i) 4 0 (mrow (emb X) i).length)⟩) B (swapB bs i r) (swapL X i r) pv pb ps := by
  have hiE : i < (emb X).length := by rw [emb_length]; exact hi
  have hrE : r < (emb X).length := by rw [emb_length]; exact hr
  have hb : ∀ b, b ∈ swapB bs i r ↔ b ∈ bs := fun b => swapB_mem (by rw [h.mat.len]; exact hiE) (by rw [h.mat.len]; exact hrE) b
  refine ⟨by rw [emb_swap]; exact h.mat.swap hiE hrE, h.piv.keep fun b hb' => ?_, fun b hb' => ?_, OnesM.set h.ones B fun v hv => ?_⟩
  · simp only [set_at]; rw [if_neg (by rintro rfl; exact h.npb _ hb' (by simp))]
  · have := h.npb b hb'; simpa [hb] using this
  · rcases List.mem_or_eq_of_mem_set hv with hv | rfl
    · rcases List.mem_or_eq_of_mem_set hv with hv | rfl
      · exact hdrs_ones bs (emb X) v hv
      · rfl
    · rfl
theorem RefP.fresh (h : RefP M B bs X pv pb ps) {b : Nat} (hb : M b = none) : b ∉ B :: bs := by
  intro hm
  rcases List.mem_cons.1 hm with rfl | hm
  · rw [h.mat.top] at hb; cases hb
  · obtain ⟨k, hk, e⟩ := List.mem_iff_getElem.1 hm
    rw [← nb_eq hk] at e
    have := h.mat.row k (by rw [← h.mat.len]; exact hk)
    rw [e, hb] at this; cases this
theorem RefP.push0 (h : RefP M B bs X .nil [] []) {b : Nat} (hb : M b = none) (j : Nat) : RefP (M.set b ⟨3, 1, [.int .i64 (j : Nat)]⟩) B bs X (.osl b 1 0 1) [b] [j] := by
  have hn := h.fresh hb
  have h1 : b ≠ B := fun e => hn (by simp [e])
  have h2 : b ∉ bs := fun e => hn (by simp [e])
  exact ⟨h.mat.other h1 h2 _, .inr ⟨b, rfl, rfl, by simp [ints]⟩, fun a ha => by simp at ha; subst ha; exact hn, h.ones.set b fun v hv => by simp at hv; subst hv; rfl⟩
theorem RefP.push1 {b0 : Nat} (h : RefP M B bs X (.osl b0 1 0 ps.length) [b0] ps) {b : Nat} (hb : (M.del b0) b = none) (j : Nat) : RefP ((M.del b0).set b ⟨3, 1, ints ps ++ [.int .i64 (j : Nat)]⟩) B bs X (.osl b 1 0 (ps.length + 1)) [b] (ps ++ [j]) := by
  have h0 := h.npb b0 (by simp)
  have hh : RefP (M.del b0) B bs X .nil [] [] := by
    have hdel : ∀ a, a ≠ b0 → (M.del b0) a = M a := fun a ha => if_neg ha
    refine ⟨⟨by rw [hdel B (by rintro rfl; exact h0 (by simp))]; exact h.mat.top, h.mat.len, fun i hi => ?_, h.mat.nd, h.mat.nB⟩, .inl ⟨rfl, rfl, rfl⟩, by simp, h.ones.del b0⟩
    rw [hdel _ (fun e => h0 (e ▸ List.mem_cons_of_mem _ (nb_mem (by rw [h.mat.len]; exact hi))))]
    exact h.mat.row i hi
  have hn := hh.fresh hb
  have h1 : b ≠ B := fun e => hn (by simp [e])
  have h2 : b ∉ bs := fun e => hn (by simp [e])
  refine ⟨hh.mat.other h1 h2 _, .inr ⟨b, rfl, by simp, by simp [ints_snoc]⟩, fun a ha => by simp at ha; subst ha; exact hn, hh.ones.set b fun v hv => ?_⟩
  rcases List.mem_append.1 hv with hv | hv
  · exact ints_one ps v hv
  · simp at hv; subst hv; rfl
end
structure RefS where
  X : List (List Rat)
  ps : List Nat
  M : Mem
  bs : List Nat
  pv : AV
  pb : List Nat
def InvQ (X0 : List (List Rat)) (B w j : Nat) (s : RefS) : Prop :=
  iterO colStep j (X0, []) = some (s.X, s.ps) ∧ matGood X0.length w s.X ∧ s.ps.length ≤ X0.length ∧ RefP s.M B s.bs s.X s.pv s.pb s.ps
set_option maxHeartbeats 1000000
theorem reduce7_call (m : List (List RR)) (hm : LbM m) : ACall Tryz.prog 18 [matAV m] Mem.emp fun v mm => v = .tup [matAV (emb (redR m).2.1), .sl 1 (ints (redR m).2.2), .int .i64 (redR m).1] ∧ mm = Mem.emp := by
  have hck := check2_call m hm
  by_cases h0 : chk m = 0
  · obtain ⟨h1, h2, h3, h4, h5⟩ := chk_emb hm h0
    have hR : redR m = match reduceQ (unq m) with
      | none => (2, [], [])
      | some z => (0, z.1, z.2) := by unfold redR; rw [if_neg (by simp [h0])]; rfl
    have hlen := unq_length m
    rw [h0] at hck
    have e0 : (mrow (unq m) 0).length = (mrow m 0).length := by rw [unq_row, List.length_map]
    have hcl := copied_call m h4 (fun r hr => by
      obtain ⟨i, hi, rfl⟩ := mem_row hr
      have := h3 i (by rw [hlen]; exact hi)
      rw [unq_row, List.length_map] at this
      omega)
    have hwid := columns_call m
    rw [hR]
    clear hR
    rw [e0] at h3 h5
    have hq : reduceQ (unq m) = iterO colStep (mrow m 0).length (unq m, []) := by unfold reduceQ; rw [e0]
    generalize (mrow m 0).length = w at *
    generalize unq m = X0 at *
    subst h1
    rw [emb_length] at *
    rw [hq]
    refine acall_S Tryz.func18 rfl rfl 62 rfl (Nat.le_of_ble_eq_true rfl) ?_
    (repeat refine AW.seq_k fun K hK => ?_)
    refine AW.rg ?_
    simp [argsL]
    try (refine hK _ rfl ?_; clear hK; clear K)
    (repeat refine AW.seq_k fun K hK => ?_)
    refine AW.rg ?_
    simp
    try (refine hK _ rfl ?_; clear hK; clear K)
    refine CallK.val hck ?_
    simp
    refine hK _ rfl ?_
    clear hK
    clear K
    (repeat refine AW.seq_k fun K hK => ?_)
    refine AW.rg ?_
    simp
    try (refine hK _ rfl ?_; clear hK; clear K)
    refine AW.no ?_ rfl
    refine AW.skip ?_
    try simp
    refine hK _ rfl ?_
    clear hK
    clear K
    (repeat refine AW.seq_k fun K hK => ?_)
    refine AW.rg ?_
    simp
    try (refine hK _ rfl ?_; clear hK; clear K)
    refine CallK.news hcl ?_
    rintro v g ⟨bs0, hcop⟩ hf
    have eb : Mem.emp.back [] g = g := by
      funext k
      cases hk : g k with
      | some y => exact back_some hk
      | none => rw [back_out hk (by simp)]; rfl
    rw [eb]
    clear eb hf
    rcases hcop with ⟨c1, c2, rfl, rfl⟩ | ⟨B, rfl, c2, c3⟩
    · have hX : X0 = [] := by
        cases X0 with
        | nil => rfl
        | cons a l => simp [emb] at c1
      subst hX
      have hw0 : w = 0 := by rw [← e0]; rfl
      subst hw0
      simp
      refine hK _ rfl ?_
      clear hK
      clear K
      (repeat refine AW.seq_k fun K hK => ?_)
      refine AW.rg ?_
      simp
      try (refine hK _ rfl ?_; clear hK; clear K)
      refine AW.seq_ex (ι := Unit) (fun _ => [(6, .nil), (7, .nil)]) (fun _ => Mem.emp) (fun _ => True) ?_ ?_
      · (repeat refine AW.seq_k fun K hK => ?_)
        refine AW.rg ?_
        simp
        try (refine hK _ rfl ?_; clear hK; clear K)
        refine AW.block (AW.loopS (ι := Nat) (fun i => [(0, matAV (emb [])), (6, .nil), (7, .nil), (8, .int .i64 0)]) (fun _ => Mem.emp) (fun _ => True) (fun i => 0) 0 trivial rfl (by simp) ?_)
        rintro i -
        (repeat refine AW.seq_k fun K hK => ?_)
        refine AW.rg ?_
        simp
        try (refine hK _ rfl ?_; clear hK; clear K)
        refine CallK.val hwid ?_
        simp
        refine hK _ rfl ?_
        clear hK
        clear K
        refine AW.no ?_ rfl
        refine AW.exit ?_
        try simp
      rintro _ -
      (repeat refine AW.seq_k fun K hK => ?_)
      refine AW.rg ?_
      simp
      try (refine hK _ rfl ?_; clear hK; clear K)
      exact AW.ret (ret_views [matAV [], .sl 1 [], .int .i64 0] rfl ⟨.nilsl 1, .nilsl 1, .same _, trivial⟩ ⟨rfl, rfl⟩)
    · rw [emb_length]
      simp
      refine hK _ rfl ?_
      clear hK
      clear K
      (repeat refine AW.seq_k fun K hK => ?_)
      refine AW.rg ?_
      simp
      try (refine hK _ rfl ?_; clear hK; clear K)
      generalize hn : X0.length = n at *
      have hX0 : matGood n w X0 := ⟨h2, h3, hn⟩
      refine AW.seq_ex (ι := RefS) (fun s => [(6, .osl B 1 0 n), (7, s.pv)]) (fun s => s.M) (fun s => InvQ X0 B w w s) ?_ ?_
      · (repeat refine AW.seq_k fun K hK => ?_)
        refine AW.rg ?_
        simp
        try (refine hK _ rfl ?_; clear hK; clear K)
        refine AW.block (AW.loopS (ι := Nat × RefS) (fun z => [(0, matAV (emb X0)), (6, .osl B 1 0 n), (7, z.2.pv), (8, .int .i64 (z.1 : Nat))]) (fun z => z.2.M) (fun z => z.1 ≤ w ∧ InvQ X0 B w z.1 z.2) (fun z => w - z.1) (0, ⟨X0, [], g, bs0, .nil, []⟩) ⟨by simp, rfl, by rw [hn]; exact hX0, by simp, ⟨c2, .inl ⟨rfl, rfl, rfl⟩, by simp, RefM.ones ⟨c2, c3⟩⟩⟩ rfl (by simp) ?_)
        rintro ⟨j, X, ps, M, bs, pv, pb⟩ ⟨g1, g2, g3, g4, g5⟩
        simp only at g1 g2 g3 g4 g5
        rw [hn] at g3 g4
        (repeat refine AW.seq_k fun K hK => ?_)
        refine AW.rg ?_
        simp
        try (refine hK _ rfl ?_; clear hK; clear K)
        refine CallK.val hwid ?_
        simp
        refine hK _ rfl ?_
        clear hK
        clear K
        (repeat refine AW.seq ?_)
        refine AW.cs (fun hj => ?_) (fun hj => ?_) rfl <;> (try simp at hj)
        · refine AW.skip ?_
          try simp
          refine hK _ rfl ?_
          clear hK
          clear K
          have w1 : IntKind.i64.wrap ((j + 1 : Nat) : Int) = ((j + 1 : Nat) : Int) := wi (by omega)
          have hlen' := g5.piv.len
          have hnX : X.length = n := g3.2.2
          refine AW.seq_ex (ι := RefS) (fun s => [(0, matAV (emb X0)), (6, .osl B 1 0 n), (7, s.pv), (8, .int .i64 (j : Nat))]) (fun s => s.M) (fun s => InvQ X0 B w (j + 1) s) ?_ ?_
          · (repeat refine AW.seq ?_)
            refine AW.block ?_
            (repeat refine AW.seq_k fun K hK => ?_)
            refine AW.rg ?_
            simp [hlen']
            try (refine hK _ rfl ?_; clear hK; clear K)
            have hp := pivot7_call (emb X) (lb_emb X) w j ps.length (dim_emb g3.2.1) hj (by rw [emb_length]; omega) (by omega) (by omega)
            rw [pivR_emb g3.1 g3.2.1 hj] at hp
            have hvw := g5.mat.view
            rw [emb_length, hnX] at hvw
            have hcol : iterO colStep (j + 1) (X0, []) = colStep j (X, ps) := by rw [iterO_succ, g2]; rfl
            (repeat refine AW.seq_k fun K hK => ?_)
            refine AW.rg ?_
            simp
            try (refine hK _ rfl ?_; clear hK; clear K)
            refine CallK.borrow [matAV (emb X), .int .i64 j, .int .i64 ps.length] ⟨hvw, .same _, .same _, trivial⟩ hp ?_
            rintro _ rfl
            refine ⟨rfl, ?_⟩
            simp
            refine hK _ rfl ?_
            clear hK
            clear K
            cases hpq : pivQ X j ps.length with
            | none =>
              unfold pivI
              (repeat refine AW.seq_k fun K hK => ?_)
              refine AW.rg ?_
              simp
              try (refine hK _ rfl ?_; clear hK; clear K)
              refine AW.yes ?_ rfl
              refine AW.exit ?_
              try simp
              refine ⟨⟨X, ps, M, bs, pv, pb⟩, ⟨?_, by rw [hn]; exact g3, by rw [hn]; exact g4, g5⟩, by simp⟩
              rw [hcol]; unfold colStep; simp only [hpq]
            | some i =>
              obtain ⟨p1, p2, p3⟩ := pivQ_some hpq
              rw [hnX] at p1
              have hr : ps.length < n := by omega
              have hcol : iterO colStep (j + 1) (X0, []) = (clearQ (swapL X i ps.length) j ps.length).map fun M => (M, ps ++ [j]) := by rw [hcol]; unfold colStep; simp only [hpq]
              have hiE : i < (emb X).length := by rw [emb_length, hnX]; exact p1
              have hrE : ps.length < (emb X).length := by rw [emb_length, hnX]; exact hr
              have hhl := hdrs_length g5.mat.len
              rw [emb_length, hnX] at hhl
              have hsw := g5.swap (i := i) (r := ps.length) (by omega) (by omega)
              have hG := g3.swap p1 hr
              have hdq : qel (swapL X i ps.length) ps.length j ≠ 0 := by
                unfold qel; rw [mrow_swap (by omega) (by omega), if_pos rfl]; exact p3
              unfold pivI
              (repeat refine AW.seq_k fun K hK => ?_)
              refine AW.rg ?_
              simp
              try (refine hK _ rfl ?_; clear hK; clear K)
              refine AW.no ?_ (by simp)
              refine AW.skip ?_
              try simp
              refine hK _ rfl ?_
              clear hK
              clear K
              (repeat refine AW.seq_k fun K hK => ?_)
              refine AW.rg ?_
              simp [p1, g5.mat.top, ↓g5.mat.get hiE]
              try (refine hK _ rfl ?_; clear hK; clear K)
              (repeat refine AW.seq_k fun K hK => ?_)
              refine AW.rg ?_
              simp [p1, hr, g5.mat.top, ↓g5.mat.get hrE, hhl]
              try (refine hK _ rfl ?_; clear hK; clear K)
              (repeat refine AW.seq_k fun K hK => ?_)
              refine AW.rg ?_
              simp [p1, hr, hhl]
              try (refine hK _ rfl ?_; clear hK; clear K)
              generalize M.set B ⟨42, 1, ((hdrs bs (emb X)).set i (.osl (nb bs ps.length) 4 0 (mrow (emb X) ps.length).length)).set ps.length (.osl (nb bs i) 4 0 (mrow (emb X) i).length)⟩ = M1 at *
              generalize swapL X i ps.length = X1 at *
              generalize swapB bs i ps.length = bs1 at *
              have hc := clear_call _ B bs1 X1 n w j ps.length hsw.ref hG hj hr hdq (by omega) h5
              (repeat refine AW.seq_k fun K hK => ?_)
              refine AW.rg ?_
              simp
              try (refine hK _ rfl ?_; clear hK; clear K)
              refine CallK.hand (B :: bs1) (by simp) hc ?_
              intro v g hv _
              cases hcl2 : clearQ X1 j ps.length with
              | none =>
                rw [hcl2] at hv hcol
                obtain ⟨rfl, _⟩ := hv
                have hno : iterO colStep (j + 1) (X0, []) = none := hcol
                have hX := iterO_none' hno (m := w) (by omega)
                simp
                refine hK _ rfl ?_
                clear hK
                clear K
                (repeat refine AW.seq_k fun K hK => ?_)
                refine AW.rg ?_
                simp
                try (refine hK _ rfl ?_; clear hK; clear K)
                refine AW.yes ?_ rfl
                (repeat refine AW.seq_k fun K hK => ?_)
                refine AW.rg ?_
                simp
                try (refine hK _ rfl ?_; clear hK; clear K)
                rw [hX]
                exact AW.ret (ret_views [matAV [], .sl 1 [], .int .i64 2] rfl ⟨.nilsl 1, .nilsl 1, .same _, trivial⟩ ⟨rfl, rfl⟩)
              | some Y =>
                rw [hcl2] at hv hcol
                obtain ⟨rfl, k2⟩ := hv
                have k3 := hsw.back k2
                generalize M1.back (B :: bs1) g = M2 at *
                have hGY : matGood n w Y := clear_keep hr hG hdq hcl2
                simp
                refine hK _ rfl ?_
                clear hK
                clear K
                (repeat refine AW.seq_k fun K hK => ?_)
                refine AW.rg ?_
                simp
                try (refine hK _ rfl ?_; clear hK; clear K)
                refine AW.no ?_ rfl
                refine AW.skip ?_
                try simp
                refine hK _ rfl ?_
                clear hK
                clear K
                rcases k3.piv with ⟨z1, z2, z3⟩ | ⟨b0, z2, z3, z4⟩
                · subst z1 z2 z3
                  (repeat refine AW.seq_k fun K hK => ?_)
                  refine AW.rgR [58] ?_
                  simp
                  try (refine hK _ rfl ?_; clear hK; clear K)
                  exact ⟨by unfold maxLen; omega, Fresh.intro fun b hb => ⟨⟨Y, [j], _, bs1, .osl b 1 0 1, [b]⟩, ⟨hcol, by rw [hn]; exact hGY, by rw [hn]; simp; omega, k3.push0 hb j⟩, rfl, rfl⟩⟩
                · subst z2 z3
                  have hps : ps.length < 2^40 := by omega
                  (repeat refine AW.seq_k fun K hK => ?_)
                  refine AW.rgR [58] ?_
                  simp [z4]
                  try (refine hK _ rfl ?_; clear hK; clear K)
                  exact ⟨by omega, by unfold maxLen; omega, Fresh.intro fun b hb => ⟨⟨Y, ps ++ [j], _, bs1, .osl b 1 0 (ps.length + 1), [b]⟩, ⟨hcol, by rw [hn]; exact hGY, by rw [hn]; simp; omega, k3.push1 hb j⟩, rfl, rfl⟩⟩
          rintro ⟨X, ps, M, bs, pv, pb⟩ hs
          (repeat refine AW.seq_k fun K hK => ?_)
          refine AW.rg ?_
          simp [-Int.natCast_add, w1]
          try (refine hK _ rfl ?_; clear hK; clear K)
          exact ⟨j + 1, ⟨X, ps, M, bs, pv, pb⟩, ⟨hj, hs⟩, by omega, by simp⟩
        · refine AW.exit ?_
          try simp
          have : j = w := by omega
          subst this
          exact ⟨⟨X, ps, M, bs, pv, pb⟩, ⟨g2, by rw [hn]; exact g3, by rw [hn]; exact g4, g5⟩, by simp⟩
      rintro ⟨X, ps, M, bs, pv, pb⟩ ⟨g2, g3, g4, g5⟩
      simp only at g2 g3 g4 g5
      rw [g2]
      have hv := g5.mat.view
      rw [emb_length, g3.2.2, hn] at hv
      (repeat refine AW.seq_k fun K hK => ?_)
      refine AW.rg ?_
      simp
      try (refine hK _ rfl ?_; clear hK; clear K)
      exact AW.ret (ret_views [matAV (emb X), .sl 1 (ints ps), .int .i64 0] rfl ⟨hv, g5.piv.view, .same _, trivial⟩ ⟨rfl, rfl⟩)
  · have hR : redR m = (chk m, [], []) := by unfold redR; rw [if_pos h0]
    rw [hR]
    generalize chk m = e at *
    refine acall_S Tryz.func18 rfl rfl 62 rfl (Nat.le_of_ble_eq_true rfl) ?_
    (repeat refine AW.seq_k fun K hK => ?_)
    refine AW.rg ?_
    simp [argsL]
    try (refine hK _ rfl ?_; clear hK; clear K)
    (repeat refine AW.seq_k fun K hK => ?_)
    refine AW.rg ?_
    simp
    try (refine hK _ rfl ?_; clear hK; clear K)
    refine CallK.val hck ?_
    simp
    refine hK _ rfl ?_
    clear hK
    clear K
    (repeat refine AW.seq_k fun K hK => ?_)
    refine AW.rg ?_
    simp [h0]
    try (refine hK _ rfl ?_; clear hK; clear K)
    refine AW.yes ?_ rfl
    (repeat refine AW.seq_k fun K hK => ?_)
    refine AW.rg ?_
    simp
    try (refine hK _ rfl ?_; clear hK; clear K)
    exact AW.ret (ret_views [matAV [], .sl 1 [], .int .i64 e] rfl ⟨.nilsl 1, .nilsl 1, .same _, trivial⟩ ⟨rfl, rfl⟩)
end Go.Av
end
section
/- The law of the reduced form. -/
namespace Go.Av
open Go.Proofs
theorem redR_good {m : List (List RR)} (hm : LbM m) : ∃ n w, n ≤ 64 ∧ w ≤ 64 ∧ matGood n w (redR m).2.1 ∧ (redR m).2.2.length ≤ 64 := by
  unfold redR
  by_cases h0 : chk m = 0
  · rw [if_neg (by simp [h0])]
    obtain ⟨h1, h2, h3, h4, h5⟩ := chk_emb hm h0
    cases hq : reduceQ (unq m) with
    | none => exact ⟨0, 0, by omega, by omega, ⟨fun r hr => (by cases hr), fun i hi => (by cases hi), rfl⟩, by simp⟩
    | some z =>
      have k := reduce_keep (n := m.length) ⟨h2, h3, unq_length m⟩ hq
      exact ⟨_, _, h4, h5, k.1, Nat.le_trans k.2.1 h4⟩
  · rw [if_pos h0]
    exact ⟨0, 0, by omega, by omega, ⟨fun r hr => (by cases hr), fun i hi => (by cases hi), rfl⟩, by simp⟩
theorem rows_same {X : List (List Rat)} {n w : Nat} (h : matGood n w X) (hn : n ≤ 64) (hw : w ≤ 64) : ACall Tryz.prog 21 [matAV (emb X), matAV (emb X)] Mem.emp fun v m => v = .bool true ∧ m = Mem.emp := by
  refine (rows_call (emb X) (emb X) (short_emb h.1) (by rw [emb_length, h.2.2]; omega) (fun r hr => ?_)).mono ?_
  · obtain ⟨i, hi, rfl⟩ := mem_row hr
    rw [emb_length, h.2.2] at hi
    rw [emb_row, List.length_map, (h.row hi).2]; omega
  · rintro v m ⟨⟨t, rfl, ht⟩, h2⟩
    exact ⟨by rw [ht.2 rfl], h2⟩
theorem ints_same (l : List Nat) (h : l.length ≤ 64) : ACall Tryz.prog 22 [.sl 1 (ints l), .sl 1 (ints l)] Mem.emp fun v m => v = .bool true ∧ m = Mem.emp := by
  refine (ints7_call l l (by omega)).mono ?_
  rintro v m ⟨⟨t, rfl, ht⟩, h2⟩
  exact ⟨by rw [ht.2 rfl], h2⟩
theorem lawReduces (m : List (List RR)) (hm : LbM m) : ACall Tryz.prog 3 [matAV m] Mem.emp fun v mm => v = .bool true ∧ mm = Mem.emp := by
  have hla := large_call m hm
  have hwk := works_call
  have hp := reduceL_call m hm
  have hr := reduce7_call m hm
  have hc1 := check_call m hm
  have hc2 := check2_call m hm
  obtain ⟨n, w, k1, k2, k3, k4⟩ := redR_good hm
  have hs1 := rows_same k3 k1 k2
  have hs2 := ints_same _ k4
  generalize redR m = z at *
  obtain ⟨e, Y, ps⟩ := z
  simp only at hp hr hs1 hs2
  refine acall_S Tryz.func3 rfl rfl 47 rfl (Nat.le_of_ble_eq_true rfl) ?_
  (repeat refine AW.seq_k fun K hK => ?_)
  refine AW.rg ?_
  simp [argsL]
  try (refine hK _ rfl ?_; clear hK; clear K)
  (repeat refine AW.seq_k fun K hK => ?_)
  refine AW.rg ?_
  simp
  try (refine hK _ rfl ?_; clear hK; clear K)
  refine CallK.val hla ?_
  simp
  refine hK _ rfl ?_
  clear hK
  clear K
  cases isLarge m
  · refine AW.no ?_ rfl
    refine AW.skip ?_
    try simp
    refine hK _ rfl ?_
    clear hK
    clear K
    (repeat refine AW.seq_k fun K hK => ?_)
    refine AW.rg ?_
    simp
    try (refine hK _ rfl ?_; clear hK; clear K)
    refine CallK.val hp ?_
    simp
    refine hK _ rfl ?_
    clear hK
    clear K
    (repeat refine AW.seq_k fun K hK => ?_)
    refine AW.rg ?_
    simp
    try (refine hK _ rfl ?_; clear hK; clear K)
    refine CallK.val hr ?_
    simp
    refine hK _ rfl ?_
    clear hK
    clear K
    (repeat refine AW.seq_k fun K hK => ?_)
    refine AW.rg ?_
    simp
    try (refine hK _ rfl ?_; clear hK; clear K)
    refine CallK.val hwk ?_
    simp
    refine CallK.val hc1 ?_
    simp
    refine CallK.val hc2 ?_
    simp
    refine CallK.val hs1 ?_
    simp
    refine CallK.val hs2 ?_
    simp
    refine hK _ rfl ?_
    clear hK
    clear K
    exact AW.ret (ret_views (vs := [.bool true]) [.bool true] (by simp) (by simp) ⟨rfl, rfl⟩)
  · refine AW.yes ?_ rfl
    (repeat refine AW.seq_k fun K hK => ?_)
    refine AW.rg ?_
    simp
    try (refine hK _ rfl ?_; clear hK; clear K)
    refine CallK.val hwk ?_
    simp
    refine hK _ rfl ?_
    clear hK
    clear K
    exact AW.ret (ret_views (vs := [.bool true]) [.bool true] (by simp) (by simp) ⟨rfl, rfl⟩)
end Go.Av
end
section
/- The arguments of a statement, read. -/
namespace Go.Av
open Go.Proofs
theorem ty22 : Tryz.prog.underlying 22 = some (.slice 42) := by kernel_rfl
theorem ty42 : Tryz.prog.underlying 42 = some (.slice 36) := by kernel_rfl
theorem ty32 : Tryz.prog.underlying 32 = some (.slice 87) := by kernel_rfl
theorem ty87 : Tryz.prog.underlying 87 = some (.int .u32) := by kernel_rfl
theorem ty4 : Tryz.prog.underlying 4 = some .bool := by kernel_rfl
theorem cl87 : Tryz.prog.cellsOf 87 = 1 := by kernel_rfl
theorem cl42 : Tryz.prog.cellsOf 42 = 1 := by kernel_rfl
theorem cl36 : Tryz.prog.cellsOf 36 = 4 := by kernel_rfl
theorem cl34 : Tryz.prog.cellsOf 34 = 2 := by kernel_rfl
theorem cl32 : Tryz.prog.cellsOf 32 = 1 := by kernel_rfl
theorem cl4 : Tryz.prog.cellsOf 4 = 1 := by kernel_rfl
noncomputable def flds (t : TypeId) : Array Field := match Tryz.prog.underlying t with
  | some (.struct fs) => fs
  | _ => #[]
noncomputable def fldT (t : TypeId) (i : Nat) : Option (TypeId × Nat) := ((flds t)[i]?).map fun f => (f.type, f.offset)
theorem ty36 : Tryz.prog.underlying 36 = some (.struct (flds 36)) := by kernel_rfl
theorem ty34 : Tryz.prog.underlying 34 = some (.struct (flds 34)) := by kernel_rfl
theorem f36_0 : fldT 36 0 = some (34, 0) := by kernel_rfl
theorem f36_1 : fldT 36 1 = some (34, 2) := by kernel_rfl
theorem f34_0 : fldT 34 0 = some (4, 0) := by kernel_rfl
theorem f34_1 : fldT 34 1 = some (32, 1) := by kernel_rfl
theorem fld_get {t : TypeId} {i : Nat} {p : TypeId × Nat} (h : fldT t i = some p) : ∃ f : Field, (flds t)[i]? = some f ∧ f.type = p.1 ∧ f.offset = p.2 := by
  unfold fldT at h
  cases hf : (flds t)[i]? with
  | none => rw [hf] at h; cases h
  | some f => rw [hf] at h; cases h; exact ⟨f, rfl, rfl, rfl⟩
variable {H : Type} {enc : TypeId × Value → H} {W : World}
theorem cell_lt {a : Addr} {v : Value} (h : W.cell? a = some v) : a.block < W.heap.size := by
  unfold World.cell? at h
  rcases Nat.lt_or_ge a.block W.heap.size with hl | hl
  · exact hl
  · rw [Array.getElem?_eq_none hl] at h
    simp at h
theorem cellAt_u32s {l : List Nat} {i j : Nat} {u : AV} (h : cellAt (u32s l) i j = some u) : j = 0 ∧ i < l.length ∧ u = .int .u32 (nth l i : Nat) := by
  unfold cellAt u32s at h
  rw [List.getElem?_map] at h
  cases hi : l[i]? with
  | none => rw [hi] at h; cases h
  | some y =>
    rw [hi] at h
    have hl := (List.getElem?_eq_some_iff.1 hi).1
    cases j with
    | zero =>
      cases h
      refine ⟨rfl, hl, ?_⟩
      unfold nth
      rw [List.getD_eq_getElem?_getD, hi]; rfl
    | succ k => cases h
theorem read_mag {fuel : Nat} {c : Value} {x : DataW H × List MemPlace} (h : DataW.trod enc Tryz.prog W 0 (fun _ => true) true fuel 32 [c] = some x) : ∃ l, Lb l ∧ VR W (fun _ => False) (lim l) c := by
  rcases Go.ChangeShapes.open_ints ty32 ty87 cl87 h with ⟨hc, _⟩ | ⟨a, len, cap, zs, hc, _, hl, hm, hz, _, hcell, hwf⟩
  · simp only [List.cons.injEq, and_true] at hc
    subst hc
    exact ⟨[], fun y hy => (by cases hy), .sl0 1 none 0⟩
  · simp only [List.cons.injEq, and_true] at hc
    subst hc
    simp at hz
    rcases Nat.eq_zero_or_pos len with h0 | h0
    · subst h0
      exact ⟨[], fun y hy => (by cases hy), .sl0 1 (some a) cap⟩
    · have h00 := hcell 0 (by omega)
      have hsp := World.cell?_spot h00
      have hbl := cell_lt h00
      obtain ⟨b, o, sp⟩ := a
      simp [Addr.add] at hsp hbl
      subst hsp
      have hzl : ∀ i, i < len → 0 ≤ zs.getD i 0 ∧ zs.getD i 0 ≤ 4294967295 := fun i hi => by
        have : zs.getD i 0 = zs[i]'(by omega) := by rw [List.getD_eq_getElem?_getD, List.getElem?_eq_getElem (by omega)]; rfl
        rw [this]
        exact Go.bounds_u32 (hwf _ (List.getElem_mem _))
      refine ⟨(List.range len).map fun i => (zs.getD i 0).toNat, fun y hy => ?_, ?_⟩
      · obtain ⟨i, hi, rfl⟩ := List.mem_map.1 hy
        have := hzl i (List.mem_range.1 hi)
        omega
      · have e : ((List.range len).map fun i => (zs.getD i 0).toNat).length = len := by simp
        have := VR.sl (w := W) (F := fun _ => False) 1 (u32s ((List.range len).map fun i => (zs.getD i 0).toNat)) b o cap (fun i _ => .int .u32 (zs.getD i 0)) (by simp) hbl (by simp; exact hl) (by
          intro v hv
          obtain ⟨y, _, rfl⟩ := List.mem_map.1 hv
          rfl) ?_ ?_
        · rw [u32s_length, e] at this
          exact this
        · intro i j u hu
          obtain ⟨rfl, q1, rfl⟩ := cellAt_u32s hu
          rw [e] at q1
          have := hzl i q1
          have hn : nth ((List.range len).map fun i => (zs.getD i 0).toNat) i = (zs.getD i 0).toNat := by
            unfold nth
            rw [List.getD_eq_getElem?_getD, List.getElem?_map, List.getElem?_range q1]
            rfl
          rw [hn, Int.toNat_of_nonneg this.1]
          exact .int _ _
        · intro i j u hu
          obtain ⟨rfl, q1, rfl⟩ := cellAt_u32s hu
          rw [e] at q1
          have := hcell i (by omega)
          rcases Nat.eq_zero_or_pos i with h' | h'
          · subst h'; simpa [Addr.add] using this
          · have h'' : i ≠ 0 := by omega
            simpa [Addr.add, h''] using this
set_option maxRecDepth 100000
theorem read_int {fuel : Nat} {cs : List Value} {x : DataW H × List MemPlace} (h : DataW.trod enc Tryz.prog W 0 (fun _ => true) true fuel 34 cs = some x) : ∃ n l c, cs = [.bool n, c] ∧ Lb l ∧ VR W (fun _ => False) (lim l) c := by
  obtain ⟨xs, n, _, rfl, hl, hlen, hf⟩ := DataW.trod_struct ty34 h
  rw [cl34] at hl
  obtain ⟨c0, c1, rfl⟩ : ∃ c0 c1, cs = [c0, c1] := by
    match cs, hl with
    | [c0, c1], _ => exact ⟨c0, c1, rfl⟩
  obtain ⟨f0, g1, g2, g3⟩ := fld_get f34_0
  obtain ⟨f1, k1, k2, k3⟩ := fld_get f34_1
  have h0 := hf 0 f0 g1
  have h1 := hf 1 f1 k1
  simp only at g2 g3 k2 k3
  rw [g2, g3, cl4] at h0
  rw [k2, k3, cl32] at h1
  have hs : xs.length = 2 := by rw [hlen]; kernel_rfl
  obtain ⟨b, hb, _⟩ := DataW.trod_bool ty4 (h0.trans (List.getElem?_eq_getElem (by omega)))
  obtain ⟨l, hl1, hl2⟩ := read_mag (h1.trans (List.getElem?_eq_getElem (by omega)))
  simp at hb
  exact ⟨b, l, c1, by rw [hb], hl1, hl2⟩
theorem read_rat {fuel : Nat} {cs : List Value} {x : DataW H × List MemPlace} (h : DataW.trod enc Tryz.prog W 0 (fun _ => true) true fuel 36 cs = some x) : ∃ r : RR, r.Lb ∧ cs.length = 4 ∧ ∀ (j : Nat) (u : AV), r.av.cells[j]? = some u → ∃ c, cs[j]? = some c ∧ VR W (fun _ => False) u c := by
  obtain ⟨xs, n, _, rfl, hl, hlen, hf⟩ := DataW.trod_struct ty36 h
  rw [cl36] at hl
  obtain ⟨c0, c1, c2, c3, rfl⟩ : ∃ c0 c1 c2 c3, cs = [c0, c1, c2, c3] := by
    match cs, hl with
    | [c0, c1, c2, c3], _ => exact ⟨c0, c1, c2, c3, rfl⟩
  obtain ⟨f0, g1, g2, g3⟩ := fld_get f36_0
  obtain ⟨f1, k1, k2, k3⟩ := fld_get f36_1
  have h0 := hf 0 f0 g1
  have h1 := hf 1 f1 k1
  simp only at g2 g3 k2 k3
  rw [g2, g3, cl34] at h0
  rw [k2, k3, cl34] at h1
  have hs : xs.length = 2 := by rw [hlen]; kernel_rfl
  obtain ⟨n1, l1, d1, e1, b1, v1⟩ := read_int (h0.trans (List.getElem?_eq_getElem (by omega)))
  obtain ⟨n2, l2, d2, e2, b2, v2⟩ := read_int (h1.trans (List.getElem?_eq_getElem (by omega)))
  simp at e1 e2
  obtain ⟨rfl, rfl⟩ := e1
  obtain ⟨rfl, rfl⟩ := e2
  refine ⟨⟨n1, l1, n2, l2⟩, ⟨b1, b2⟩, rfl, fun j u hu => ?_⟩
  match j, hu with
  | 0, hu => cases hu; exact ⟨_, rfl, .bool _⟩
  | 1, hu => cases hu; exact ⟨_, rfl, v1⟩
  | 2, hu => cases hu; exact ⟨_, rfl, .bool _⟩
  | 3, hu => cases hu; exact ⟨_, rfl, v2⟩
  | k + 4, hu => cases hu
end Go.Av
end
section
/- The arguments of a statement: rows and matrices. -/
namespace Go.Av
open Go.Proofs
variable {H : Type} {enc : TypeId × Value → H} {W : World}
theorem choose_fun {α : Type} [Inhabited α] {n : Nat} {p : Nat → α → Prop} (h : ∀ i, i < n → ∃ a, p i a) : ∃ f : Nat → α, ∀ i, i < n → p i (f i) := by
  classical
  exact ⟨fun i => if hi : i < n then Classical.choose (h i hi) else default, fun i hi => by
    simp only [dif_pos hi]
    exact Classical.choose_spec (h i hi)⟩
theorem addr_add2 (b o i j : Nat) : ((⟨b, o, none⟩ : Addr).add i).add j = ⟨b, o + (i + j), none⟩ := by
  by_cases hi : i = 0
  · subst hi
    by_cases hj : j = 0
    · subst hj; simp [Addr.add]
    · simp [Addr.add, hj]
  · by_cases hj : j = 0
    · subst hj; simp [Addr.add, hi]
    · simp [Addr.add, hi, hj, Nat.add_assoc]
theorem read_row {fuel : Nat} {c : Value} {x : DataW H × List MemPlace} (h : DataW.trod enc Tryz.prog W 0 (fun _ => true) true fuel 42 [c] = some x) : ∃ r : List RR, (∀ y ∈ r, y.Lb) ∧ VR W (fun _ => False) (rowAV r) c := by
  rcases Go.Deep.open_slice ty42 h with ⟨hc, _⟩ | ⟨a, len, cap, m, n, D, Pl, hc, _, hl, hm, hmm, _, hx⟩
  · simp only [List.cons.injEq, and_true] at hc
    subst hc
    exact ⟨[], fun y hy => (by cases hy), .sl0 4 none 0⟩
  · simp only [List.cons.injEq, and_true] at hc
    subst hc
    simp at hmm
    subst hmm
    rcases Nat.eq_zero_or_pos len with h0 | h0
    · subst h0
      exact ⟨[], fun y hy => (by cases hy), .sl0 4 (some a) m⟩
    · rw [cl36] at hx
      obtain ⟨C, hC⟩ := choose_fun (α := List Value) (p := fun i cs => W.cells? 0 (a.add (i * 4)) 4 = some cs ∧ DataW.trod enc Tryz.prog W 0 (fun _ => true) true n 36 cs = some (D i, Pl i)) (n := len) (fun i hi => hx i (by omega))
      obtain ⟨R, hR⟩ := choose_fun (α := RR) (n := len) (fun i hi => read_rat (hC i hi).2)
      have hcell : ∀ i, i < len → ∀ j, j < 4 → W.cell? ((a.add (i * 4)).add j) = (C i)[j]? := fun i hi => (World.cells?_some (hC i hi).1).2.2
      obtain ⟨c00, hc00, _⟩ := (hR 0 h0).2.2 0 (.bool (R 0).n1) rfl
      have h00 := (hcell 0 h0 0 (by omega)).trans hc00
      have hsp := World.cell?_spot h00
      have hbl := cell_lt h00
      obtain ⟨b, o, sp⟩ := a
      simp [Addr.add] at hsp hbl
      subst hsp
      have hcellAt : ∀ i j u, cellAt (rrs ((List.range len).map R)) i j = some u → i < len ∧ (R i).av.cells[j]? = some u := by
        intro i j u hu
        unfold cellAt rrs at hu
        rw [List.map_map, List.getElem?_map] at hu
        by_cases hi : i < len
        · rw [List.getElem?_range hi] at hu
          exact ⟨hi, hu⟩
        · rw [List.getElem?_eq_none (by simp; omega)] at hu
          cases hu
      refine ⟨(List.range len).map R, fun y hy => ?_, ?_⟩
      · obtain ⟨i, hi, rfl⟩ := List.mem_map.1 hy
        exact (hR i (List.mem_range.1 hi)).1
      · have := VR.sl (w := W) (F := fun _ => False) 4 (rrs ((List.range len).map R)) b o m (fun i j => ((C i)[j]?).getD (.bool false)) (by simp) hbl (by simp; exact hl) (by
          intro v hv
          obtain ⟨y, _, rfl⟩ := List.mem_map.1 hv
          rfl) (fun i j u hu => by
            obtain ⟨hi, hu⟩ := hcellAt i j u hu
            obtain ⟨c, q1, q2⟩ := (hR i hi).2.2 j u hu
            rw [q1]; exact q2) (fun i j u hu => by
            obtain ⟨hi, hu⟩ := hcellAt i j u hu
            obtain ⟨c, q1, q2⟩ := (hR i hi).2.2 j u hu
            have hj : j < 4 := by
              have := (List.getElem?_eq_some_iff.1 q1).1
              rw [(hR i hi).2.1] at this; exact this
            have := hcell i hi j hj
            rw [addr_add2, q1] at this
            rw [this, q1]; rfl)
        rw [rrs_length, List.length_map, List.length_range] at this
        exact this
theorem read_mat {fuel : Nat} {c : Value} {x : DataW H × List MemPlace} (h : DataW.trod enc Tryz.prog W 0 (fun _ => true) true fuel 22 [c] = some x) : ∃ m : List (List RR), LbM m ∧ VR W (fun _ => False) (matAV m) c := by
  rcases Go.Deep.open_slice1 ty22 cl42 h with ⟨hc, _⟩ | ⟨a, len, cap, m, n, V, D, Pl, hc, _, hl, hm, hmm, _, hx⟩
  · simp only [List.cons.injEq, and_true] at hc
    subst hc
    exact ⟨[], fun y hy => (by cases hy), .sl0 1 none 0⟩
  · simp only [List.cons.injEq, and_true] at hc
    subst hc
    simp at hmm
    subst hmm
    rcases Nat.eq_zero_or_pos len with h0 | h0
    · subst h0
      exact ⟨[], fun y hy => (by cases hy), .sl0 1 (some a) m⟩
    · obtain ⟨R, hR⟩ := choose_fun (α := List RR) (n := len) (fun i hi => read_row (hx i (by omega)).2)
      have h00 := (hx 0 (by omega)).1
      have hsp := World.cell?_spot h00
      have hbl := cell_lt h00
      obtain ⟨b, o, sp⟩ := a
      simp [Addr.add] at hsp hbl
      subst hsp
      have hcellAt : ∀ i j u, cellAt (((List.range len).map R).map rowAV) i j = some u → i < len ∧ j = 0 ∧ u = rowAV (R i) := by
        intro i j u hu
        unfold cellAt at hu
        rw [List.map_map, List.getElem?_map] at hu
        by_cases hi : i < len
        · rw [List.getElem?_range hi] at hu
          cases j with
          | zero => cases hu; exact ⟨hi, rfl, rfl⟩
          | succ k => cases hu
        · rw [List.getElem?_eq_none (by simp; omega)] at hu
          cases hu
      refine ⟨(List.range len).map R, fun y hy => ?_, ?_⟩
      · obtain ⟨i, hi, rfl⟩ := List.mem_map.1 hy
        exact (hR i (List.mem_range.1 hi)).1
      · have := VR.sl (w := W) (F := fun _ => False) 1 (((List.range len).map R).map rowAV) b o m (fun i _ => V i) (by simp) hbl (by simp; exact hl) (by
          intro v hv
          obtain ⟨y, _, rfl⟩ := List.mem_map.1 hv
          rfl) (fun i j u hu => by
            obtain ⟨hi, rfl, rfl⟩ := hcellAt i j u hu
            exact (hR i hi).2) (fun i j u hu => by
            obtain ⟨hi, rfl, rfl⟩ := hcellAt i j u hu
            have := (hx i (by omega)).1
            rcases Nat.eq_zero_or_pos i with h' | h'
            · subst h'; simpa [Addr.add] using this
            · have h'' : i ≠ 0 := by omega
              simpa [Addr.add, h''] using this)
        rw [List.length_map, List.length_map, List.length_range] at this
        exact this
/-- A statement over one matrix: true, whatever the matrix; all that was there stays. -/
theorem call_mat {f : FuncId} (hf : ∀ m, LbM m → ACall Tryz.prog f [matAV m] Mem.emp fun v mm => v = .bool true ∧ mm = Mem.emp) {c : Value} {m : List (List RR)} (hm : LbM m) (hv : VR W (fun _ => False) (matAV m) c) :
    Calls Tryz.prog f #[c] W fun e W' => e = .returned (.bool true) ∧ RowKit.Below W.heap.size W W' := by
  have hO : Own (fun _ => False) Mem.emp = fun _ => False := by funext b; simp [Own, Mem.emp]
  refine ((hf m hm).2 W (fun _ => False) #[c] (fun b hb => hb.elim) (fun b x hx => by cases hx) ?_).mono ?_
  · rw [hO]
    refine ⟨rfl, fun j u v hu hv' => ?_⟩
    match j, hu with
    | 0, hu => cases hu; cases hv'; exact hv
    | k + 1, hu => cases hu
  · rintro e W' ⟨v, cv, g', rfl, ⟨rfl, _⟩, _, hvr, hg, _⟩
    cases hvr
    exact ⟨rfl, ⟨hg.os, hg.tape, hg.output, hg.size, fun k hk => hg.block k hk (by simp [Mem.emp])⟩⟩
end Go.Av
end
section
/- Statements over two arguments. -/
namespace Go.Av
open Go.Proofs
variable {H : Type} {enc : TypeId × Value → H} {W : World}
theorem call_two {f : FuncId} {x y : AV} (hf : ACall Tryz.prog f [x, y] Mem.emp fun v mm => v = .bool true ∧ mm = Mem.emp) {c c' : Value} (hx : VR W (fun _ => False) x c) (hy : VR W (fun _ => False) y c') :
    Calls Tryz.prog f #[c, c'] W fun e W' => e = .returned (.bool true) ∧ RowKit.Below W.heap.size W W' := by
  have hO : Own (fun _ => False) Mem.emp = fun _ => False := by funext b; simp [Own, Mem.emp]
  refine (hf.2 W (fun _ => False) #[c, c'] (fun b hb => hb.elim) (fun b x hx => by cases hx) ?_).mono ?_
  · rw [hO]
    refine ⟨rfl, fun j u v hu hv' => ?_⟩
    match j, hu with
    | 0, hu => cases hu; cases hv'; exact hx
    | 1, hu => cases hu; cases hv'; exact hy
    | k + 2, hu => cases hu
  · rintro e W' ⟨v, cv, g', rfl, ⟨rfl, _⟩, _, hvr, hg, _⟩
    cases hvr
    exact ⟨rfl, ⟨hg.os, hg.tape, hg.output, hg.size, fun k hk => hg.block k hk (by simp [Mem.emp])⟩⟩
end Go.Av
end
section
/- The reference: Rank, Kernel. -/
namespace Go.Av
open Go.Proofs
theorem whole7_call (n : Int) (h1 : -9223372036854775808 ≤ n) (h2 : n < 9223372036854775808) : ACall Tryz.prog 60 [.int .i64 n] Mem.emp fun v m => v = (ofQ (intQ n)).av ∧ m = Mem.emp := by
  have ho := of2_call n 1 h1 h2 (by omega) (by omega) (by omega)
  have e : Rat.divInt n 1 = intQ n := rfl
  rw [e, resQ] at ho
  generalize intQ n = q at *
  unfold qAV at ho
  unfold RR.av ofQ
  simp only
  refine acall_S Tryz.func60 rfl rfl 11 rfl (Nat.le_of_ble_eq_true rfl) ?_
  (repeat refine AW.seq_k fun K hK => ?_)
  refine AW.rg ?_
  simp [argsL]
  try (refine hK _ rfl ?_; clear hK; clear K)
  refine Fresh.intro fun b2 hb2 => ?_
  refine hK _ rfl ?_
  clear hK
  clear K
  (repeat refine AW.seq_k fun K hK => ?_)
  refine AW.rg ?_
  simp
  try (refine hK _ rfl ?_; clear hK; clear K)
  refine CallK.val ho ?_
  simp
  refine Fresh.intro fun b3 hb3 => ?_
  simp only [set_none2, emp_at, and_true] at hb3
  try simp [hb3]
  refine hK _ rfl ?_
  clear hK
  clear K
  (repeat refine AW.seq_k fun K hK => ?_)
  refine AW.rg ?_
  simp [hb3]
  try (refine hK _ rfl ?_; clear hK; clear K)
  exact AW.ret (ret_views (vs := [.agg [.bool (decide (q.num < 0)), lim (dig q.num.natAbs), .bool false, lim (dig q.den)]]) [.agg [.bool (decide (q.num < 0)), lim (dig q.num.natAbs), .bool false, lim (dig q.den)]] (by simp [hb3]) (by simp) ⟨rfl, rfl⟩)
theorem rank7_call (m : List (List RR)) (hm : LbM m) : ACall Tryz.prog 33 [matAV m] Mem.emp fun v mm => v = .tup [.int .i64 ((redR m).2.2.length : Nat), .int .i64 (redR m).1] ∧ mm = Mem.emp := by
  have hr := reduce7_call m hm
  generalize redR m = z at *
  obtain ⟨e, Y, ps⟩ := z
  simp only at hr
  refine acall_S Tryz.func33 rfl rfl 16 rfl (Nat.le_of_ble_eq_true rfl) ?_
  (repeat refine AW.seq_k fun K hK => ?_)
  refine AW.rg ?_
  simp [argsL]
  try (refine hK _ rfl ?_; clear hK; clear K)
  (repeat refine AW.seq_k fun K hK => ?_)
  refine AW.rg ?_
  simp
  try (refine hK _ rfl ?_; clear hK; clear K)
  refine CallK.val hr ?_
  simp
  refine hK _ rfl ?_
  clear hK
  clear K
  (repeat refine AW.seq_k fun K hK => ?_)
  refine AW.rg ?_
  simp
  try (refine hK _ rfl ?_; clear hK; clear K)
  exact AW.ret (ret_views [.int .i64 (ps.length : Nat), .int .i64 e] rfl ⟨.same _, .same _, trivial⟩ ⟨rfl, rfl⟩)
theorem among_call (l : List Nat) (n : Nat) (hl : l.length < 2^40) : ACall Tryz.prog 73 [.sl 1 (ints l), .int .i64 n] Mem.emp fun v m => v = .bool (decide (n ∈ l)) ∧ m = Mem.emp := by
  refine acall_S Tryz.func73 rfl rfl 18 rfl (Nat.le_of_ble_eq_true rfl) ?_
  (repeat refine AW.seq_k fun K hK => ?_)
  refine AW.rg ?_
  simp [argsL]
  try (refine hK _ rfl ?_; clear hK; clear K)
  refine AW.seq_ex (ι := Unit) (fun _ => []) (fun _ => Mem.emp) (fun _ => n ∉ l) ?_ ?_
  · (repeat refine AW.seq_k fun K hK => ?_)
    refine AW.rg ?_
    simp
    try (refine hK _ rfl ?_; clear hK; clear K)
    refine AW.block (AW.loopS (ι := Nat) (fun i => [(0, .sl 1 (ints l)), (1, .int .i64 n), (5, .int .i64 (i : Nat))]) (fun _ => Mem.emp) (fun i => i ≤ l.length ∧ ∀ k, k < i → l.getD k 0 ≠ n) (fun i => l.length - i) 0 ⟨by simp, by simp⟩ rfl (by simp) ?_)
    rintro i ⟨g1, g2⟩
    (repeat refine AW.seq_k fun K hK => ?_)
    refine AW.rg ?_
    simp
    try (refine hK _ rfl ?_; clear hK; clear K)
    (repeat refine AW.seq ?_)
    refine AW.cs (fun hi => ?_) (fun hi => ?_) rfl <;> (try simp at hi)
    · refine AW.skip ?_
      try simp
      refine hK _ rfl ?_
      clear hK
      clear K
      have w1 : IntKind.i64.wrap ((i + 1 : Nat) : Int) = ((i + 1 : Nat) : Int) := wi (by omega)
      have e1 : l.getD i 0 = l[i] := by rw [List.getD_eq_getElem?_getD, List.getElem?_eq_getElem hi]; rfl
      refine AW.seq_ex (ι := Unit) (fun _ => [(0, .sl 1 (ints l)), (1, .int .i64 n), (5, .int .i64 (i : Nat))]) (fun _ => Mem.emp) (fun _ => l[i] ≠ n) ?_ ?_
      · (repeat refine AW.seq ?_)
        refine AW.block ?_
        (repeat refine AW.seq_k fun K hK => ?_)
        refine AW.rg ?_
        simp [hi]
        try (refine hK _ rfl ?_; clear hK; clear K)
        by_cases h0 : l[i] = n
        · refine AW.yes ?_ (by simp [h0])
          (repeat refine AW.seq_k fun K hK => ?_)
          refine AW.rg ?_
          simp
          try (refine hK _ rfl ?_; clear hK; clear K)
          have hmem : n ∈ l := by rw [← h0]; exact List.getElem_mem hi
          exact AW.ret (ret_views (vs := [.bool true]) [.bool true] (by simp) (by simp) ⟨by simp [Av.oneOrTup, hmem], rfl⟩)
        · refine AW.no ?_ (by simp [h0])
          exact AW.skip ⟨(), h0, by simp⟩
      rintro _ h0
      (repeat refine AW.seq_k fun K hK => ?_)
      refine AW.rg ?_
      simp [-Int.natCast_add, w1]
      try (refine hK _ rfl ?_; clear hK; clear K)
      refine ⟨⟨hi, fun k hk => ?_⟩, by omega⟩
      rcases Nat.lt_succ_iff_lt_or_eq.1 hk with h | rfl
      · exact g2 k h
      · rw [← List.getD_eq_getElem?_getD, e1]; exact h0
    · refine AW.exit ?_
      try simp
      intro hmem
      obtain ⟨k, hk, e⟩ := List.mem_iff_getElem.1 hmem
      refine g2 k (by omega) ?_
      rw [List.getD_eq_getElem?_getD, List.getElem?_eq_getElem hk]; exact e
  rintro _ hno
  (repeat refine AW.seq_k fun K hK => ?_)
  refine AW.rg ?_
  simp
  try (refine hK _ rfl ?_; clear hK; clear K)
  exact AW.ret (ret_views (vs := [.bool false]) [.bool false] (by simp) (by simp) ⟨by simp [Av.oneOrTup, hno], rfl⟩)
/-- A vector of zeros: nothing, or a block. -/
def ZerV (n : Nat) (v : AV) (M : Mem) : Prop := (n = 0 ∧ v = .nil ∧ M = Mem.emp) ∨ ∃ b, v = .osl b 4 0 n ∧ M = Mem.emp.set b ⟨36, 4, rrs (List.replicate n (ofQ 0))⟩
theorem zeros_call (n : Nat) (hn : n < 2^30) : ACall Tryz.prog 74 [.int .i64 n] Mem.emp (ZerV n) := by
  have hw := whole7_call 0 (by omega) (by omega)
  rw [intQ_zero] at hw
  refine acall_S Tryz.func74 rfl rfl 15 rfl (Nat.le_of_ble_eq_true rfl) ?_
  (repeat refine AW.seq_k fun K hK => ?_)
  refine AW.rg ?_
  simp [argsL]
  try (refine hK _ rfl ?_; clear hK; clear K)
  (repeat refine AW.seq_k fun K hK => ?_)
  refine AW.rg ?_
  simp
  try (refine hK _ rfl ?_; clear hK; clear K)
  refine AW.seq_ex (ι := AV × Mem) (fun z => [(3, z.1)]) (fun z => z.2) (fun z => ZerV n z.1 z.2) ?_ ?_
  · (repeat refine AW.seq_k fun K hK => ?_)
    refine AW.rg ?_
    simp
    try (refine hK _ rfl ?_; clear hK; clear K)
    refine AW.block (AW.loopS (ι := Nat × AV × Mem) (fun z => [(0, .int .i64 n), (3, z.2.1), (4, .int .i64 (z.1 : Nat))]) (fun z => z.2.2) (fun z => z.1 ≤ n ∧ ZerV z.1 z.2.1 z.2.2) (fun z => n - z.1) (0, .nil, Mem.emp) ⟨by simp, .inl ⟨rfl, rfl, rfl⟩⟩ rfl (by simp) ?_)
    rintro ⟨i, v, M⟩ ⟨g1, g2⟩
    simp only at g1 g2
    (repeat refine AW.seq_k fun K hK => ?_)
    refine AW.rg ?_
    simp
    try (refine hK _ rfl ?_; clear hK; clear K)
    (repeat refine AW.seq ?_)
    refine AW.cs (fun hi => ?_) (fun hi => ?_) rfl <;> (try simp at hi)
    · refine AW.skip ?_
      try simp
      refine hK _ rfl ?_
      clear hK
      clear K
      have w1 : IntKind.i64.wrap ((i + 1 : Nat) : Int) = ((i + 1 : Nat) : Int) := wi (by omega)
      refine AW.seq_ex (ι := AV × Mem) (fun z => [(0, .int .i64 n), (3, z.1), (4, .int .i64 (i : Nat))]) (fun z => z.2) (fun z => ZerV (i + 1) z.1 z.2) ?_ ?_
      · (repeat refine AW.seq ?_)
        refine AW.block ?_
        rcases g2 with ⟨z1, z2, z3⟩ | ⟨b0, z2, z3⟩
        · subst z1 z2 z3
          (repeat refine AW.seq_k fun K hK => ?_)
          refine AW.rgR [12] ?_
          simp
          try (refine hK _ rfl ?_; clear hK; clear K)
          refine CallK.val hw ?_
          simp
          exact ⟨by unfold maxLen; omega, Fresh.intro fun b hb => ⟨_, _, .inr ⟨b, rfl, rfl⟩, rfl, rfl⟩⟩
        · subst z2 z3
          (repeat refine AW.seq_k fun K hK => ?_)
          refine AW.rgR [12] ?_
          simp
          try (refine hK _ rfl ?_; clear hK; clear K)
          refine CallK.val hw ?_
          simp
          exact ⟨by omega, by unfold maxLen; omega, Fresh.intro fun b hb => ⟨_, _, .inr ⟨b, rfl, rfl⟩, by rw [List.replicate_succ']; simp [rrs], rfl⟩⟩
      rintro ⟨v, M⟩ hs
      (repeat refine AW.seq_k fun K hK => ?_)
      refine AW.rg ?_
      simp [-Int.natCast_add, w1]
      try (refine hK _ rfl ?_; clear hK; clear K)
      exact ⟨i + 1, v, M, ⟨hi, hs⟩, by omega, by simp⟩
    · refine AW.exit ?_
      try simp
      have : i = n := by omega
      subst this
      exact ⟨v, M, g2, rfl, rfl⟩
  rintro ⟨v, M⟩ hs
  simp only at hs
  (repeat refine AW.seq_k fun K hK => ?_)
  refine AW.rg ?_
  simp
  try (refine hK _ rfl ?_; clear hK; clear K)
  refine AW.ret (ret_mem rfl ?_ hs)
  rcases hs with ⟨_, _, z3⟩ | ⟨b, _, z3⟩
  · intro b y hy
    rw [z3] at hy; cases hy
  · rw [z3]
    exact OnesM.set (fun c y hy => by cases hy) b (rrs_ok _)
theorem zeros_pos (n : Nat) (h0 : 0 < n) (hn : n < 2^30) : ACall Tryz.prog 74 [.int .i64 n] Mem.emp fun v m => ∃ b x, (v = .osl b 4 0 n ∧ x = ⟨36, 4, rrs (List.replicate n (ofQ 0))⟩) ∧ m = Mem.emp.set b x := by
  refine (zeros_call n hn).mono ?_
  rintro v m (⟨h, _⟩ | ⟨b, h1, h2⟩)
  · omega
  · exact ⟨b, _, ⟨h1, rfl⟩, h2⟩
/-- A list that grows, alone in memory. -/
structure LstO (M : Mem) (ty : TypeId) (z : Nat) (ov : AV) (ob : List Nat) (l : List AV) : Prop where
  lst : LstV M ty z ov ob l
  only : OnlyM M ob
section
variable {M : Mem} {ov : AV} {ty : TypeId} {z : Nat} {ob : List Nat} {l : List AV}
theorem LstO.start (ty : TypeId) (z : Nat) : LstO Mem.emp ty z .nil [] [] := ⟨.inl ⟨rfl, rfl, rfl⟩, fun _ h => absurd rfl h⟩
theorem LstO.ones (h : LstO M ty z ov ob l) (hl : ∀ v ∈ l, v.cells.all AV.one = true) : OnesM M := by
  intro b y hy
  have hb := h.only b (by rw [hy]; simp)
  rcases h.lst with ⟨_, h1, _⟩ | ⟨b', h1, _, h3⟩
  · rw [h1] at hb; cases hb
  · rw [h1] at hb
    simp at hb
    subst hb
    rw [h3] at hy; cases hy
    exact hl
theorem LstO.push0 (h : LstO M ty z .nil [] []) (b : Nat) (v : AV) : LstO (M.set b ⟨ty, z, [v]⟩) ty z (.osl b z 0 1) [b] [v] :=
  ⟨.inr ⟨b, rfl, rfl, by simp⟩, (h.only.sub fun a ha => by cases ha).set (by simp) _⟩
theorem LstO.push1 {b0 : Nat} (h : LstO M ty z (.osl b0 z 0 l.length) [b0] l) (b : Nat) (v : AV) : LstO ((M.del b0).set b ⟨ty, z, l ++ [v]⟩) ty z (.osl b z 0 (l.length + 1)) [b] (l ++ [v]) := by
  refine ⟨.inr ⟨b, rfl, by simp, by simp⟩, OnlyM.set (l := [b]) (fun a ha => ?_) (by simp) _⟩
  by_cases h1 : a = b0
  · subst h1; exact absurd (if_pos rfl) ha
  · have e : (M.del b0) a = M a := if_neg h1
    rw [e] at ha
    have := h.only a ha
    simp at this
    exact absurd this h1
end
theorem redR_col {m : List (List RR)} (hm : LbM m) (h0 : (redR m).1 = 0) : (mrow m 0).length ≤ 64 ∧ m.length ≤ 64 ∧ ∃ Y ps, redR m = (0, Y, ps) ∧ colGood m.length (mrow m 0).length (mrow m 0).length (Y, ps) ∧ ps.Pairwise (· < ·) := by
  have hck : chk m = 0 := by
    by_cases h : chk m = 0
    · exact h
    · unfold redR at h0; rw [if_pos h] at h0; exact absurd h0 h
  obtain ⟨h1, h2, h3, h4, h5⟩ := chk_emb hm hck
  have h5 : (mrow m 0).length ≤ 64 := by rw [unq_row, List.length_map] at h5; exact h5
  refine ⟨h5, h4, ?_⟩
  unfold redR at h0 ⊢
  rw [if_neg (by simp [hck])] at h0 ⊢
  cases hq : reduceQ (unq m) with
  | none => rw [hq] at h0; exact absurd h0 (by simp)
  | some z =>
    have e0 : (mrow (unq m) 0).length = (mrow m 0).length := by rw [unq_row, List.length_map]
    have k1 := reduce_keep (n := m.length) (w := (mrow m 0).length) ⟨h2, e0 ▸ h3, unq_length m⟩ hq
    rw [e0] at k1
    refine ⟨z.1, z.2, rfl, k1, ?_⟩
    exact cols_sorted (n := m.length) (w := (mrow m 0).length) (z0 := (unq m, [])) ⟨⟨h2, e0 ▸ h3, unq_length m⟩, by simp, by simp, by simp⟩ (by simp) hq
structure KerS7 where
  M : Mem
  ov : AV
  ob : List Nat
def InvK7 (Y : List (List Rat)) (ps : List Nat) (w j : Nat) (s : KerS7) : Prop := LstO s.M 42 1 s.ov s.ob ((emb (kerP Y ps w j)).map rowAV)
theorem rowAV_ones (X : List (List Rat)) : ∀ v ∈ (emb X).map rowAV, v.cells.all AV.one = true := by
  intro v hv
  obtain ⟨r, _, rfl⟩ := List.mem_map.1 hv
  rfl
theorem kernel7_call (m : List (List RR)) (hm : LbM m) : ACall Tryz.prog 35 [matAV m] Mem.emp fun v mm => v = .tup [matAV (emb (kerR m).2), .int .i64 (kerR m).1] ∧ mm = Mem.emp := by
  have hr := reduce7_call m hm
  have hwid := columns_call m
  by_cases h0 : (redR m).1 = 0
  · have hK : kerR m = (0, kerP (redR m).2.1 (redR m).2.2 (mrow m 0).length (mrow m 0).length) := if_neg (by simp [h0])
    obtain ⟨h5, h4, Y, ps, hred, ⟨⟨y1, y2, y3⟩, y4, y5, y6⟩, y7⟩ := redR_col hm h0
    simp only at y1 y2 y3 y4 y5 y6
    rw [hK]
    rw [hred] at hr ⊢
    simp only at hr ⊢
    clear hK
    generalize hw : (mrow m 0).length = w at *
    have hone := whole7_call 1 (by omega) (by omega)
    have hzero := whole7_call 0 (by omega) (by omega)
    rw [intQ_one] at hone
    rw [intQ_zero] at hzero
    refine acall_S Tryz.func35 rfl rfl 71 rfl (Nat.le_of_ble_eq_true rfl) ?_
    (repeat refine AW.seq_k fun K hK => ?_)
    refine AW.rg ?_
    simp [argsL]
    try (refine hK _ rfl ?_; clear hK; clear K)
    (repeat refine AW.seq_k fun K hK => ?_)
    refine AW.rg ?_
    simp
    try (refine hK _ rfl ?_; clear hK; clear K)
    refine CallK.val hr ?_
    simp
    refine hK _ rfl ?_
    clear hK
    clear K
    (repeat refine AW.seq_k fun K hK => ?_)
    refine AW.rg ?_
    simp
    try (refine hK _ rfl ?_; clear hK; clear K)
    refine AW.no ?_ rfl
    refine AW.skip ?_
    try simp
    refine hK _ rfl ?_
    clear hK
    clear K
    (repeat refine AW.seq_k fun K hK => ?_)
    refine AW.rg ?_
    simp
    try (refine hK _ rfl ?_; clear hK; clear K)
    refine AW.seq_ex (ι := KerS7) (fun z => [(7, z.ov)]) (fun z => z.M) (fun z => InvK7 Y ps w w z) ?_ ?_
    · (repeat refine AW.seq_k fun K hK => ?_)
      refine AW.rg ?_
      simp
      try (refine hK _ rfl ?_; clear hK; clear K)
      refine AW.block (AW.loopS (ι := Nat × KerS7) (fun z => [(0, matAV m), (4, matAV (emb Y)), (5, .sl 1 (ints ps)), (7, z.2.ov), (8, .int .i64 (z.1 : Nat))]) (fun z => z.2.M) (fun z => z.1 ≤ w ∧ InvK7 Y ps w z.1 z.2) (fun z => w - z.1) (0, ⟨Mem.emp, .nil, []⟩) ⟨by simp, LstO.start _ _⟩ rfl (by simp) ?_)
      rintro ⟨j, M, ov, ob⟩ ⟨g1, g2⟩
      simp only at g1 g2
      simp only
      (repeat refine AW.seq_k fun K hK => ?_)
      refine AW.rg ?_
      simp
      try (refine hK _ rfl ?_; clear hK; clear K)
      refine CallK.val hwid ?_
      simp
      refine hK _ rfl ?_
      clear hK
      clear K
      (repeat refine AW.seq ?_)
      refine AW.cs (fun hj => ?_) (fun hj => ?_) rfl <;> (try simp at hj)
      · refine AW.skip ?_
        try simp
        refine hK _ rfl ?_
        clear hK
        clear K
        have w1 : IntKind.i64.wrap ((j + 1 : Nat) : Int) = ((j + 1 : Nat) : Int) := wi (by omega)
        have ham := among_call ps j (by omega)
        refine AW.seq_ex (ι := KerS7) (fun s => [(0, matAV m), (4, matAV (emb Y)), (5, .sl 1 (ints ps)), (7, s.ov), (8, .int .i64 (j : Nat))]) (fun s => s.M) (fun s => InvK7 Y ps w (j + 1) s) ?_ ?_
        · (repeat refine AW.seq ?_)
          refine AW.block ?_
          (repeat refine AW.seq_k fun K hK => ?_)
          refine AW.rg ?_
          simp
          try (refine hK _ rfl ?_; clear hK; clear K)
          refine CallK.val ham ?_
          simp
          refine hK _ rfl ?_
          clear hK
          clear K
          by_cases hnm : j ∈ ps
          · refine AW.yes ?_ (by simp [hnm])
            refine AW.exit ?_
            try simp
            refine ⟨⟨M, ov, ob⟩, ?_, by simp⟩
            unfold InvK7
            rw [kerP_succ, if_pos hnm]
            exact g2
          · refine AW.no ?_ (by simp [hnm])
            refine AW.skip ?_
            try simp
            refine hK _ rfl ?_
            clear hK
            clear K
            have hz := zeros_pos w (by omega) (by omega)
            (repeat refine AW.seq_k fun K hK => ?_)
            refine AW.rg ?_
            simp
            try (refine hK _ rfl ?_; clear hK; clear K)
            refine CallK.val hwid ?_
            simp
            refine CallK.make hz ?_
            rintro bv _ _ ⟨rfl, rfl⟩ hbv _
            simp
            refine hK _ rfl ?_
            clear hK
            clear K
            (repeat refine AW.seq_k fun K hK => ?_)
            refine AW.rg ?_
            simp
            try (refine hK _ rfl ?_; clear hK; clear K)
            refine CallK.val hone ?_
            simp [hj]
            refine hK _ rfl ?_
            clear hK
            clear K
            generalize hv0 : (List.replicate w (0 : Rat)).set j 1 = v0 at *
            have hv0l : v0.length = w := by rw [← hv0]; simp
            have hv0e : (rrs (List.replicate w (ofQ 0))).set j (ofQ 1).av = rrs (v0.map ofQ) := by
              rw [rrs_set, ← hv0, List.map_set, List.map_replicate]
            refine AW.seq_ex (ι := Unit) (fun _ => [(0, matAV m), (4, matAV (emb Y)), (5, .sl 1 (ints ps)), (7, ov), (8, .int .i64 (j : Nat)), (9, .osl bv 4 0 w)]) (fun _ => M.set bv ⟨36, 4, rrs ((kerV Y ps w j).map ofQ)⟩) (fun _ => True) ?_ ?_
            · (repeat refine AW.seq_k fun K hK => ?_)
              refine AW.rg ?_
              simp
              try (refine hK _ rfl ?_; clear hK; clear K)
              refine AW.block (AW.loopS (ι := Nat) (fun k => [(0, matAV m), (4, matAV (emb Y)), (5, .sl 1 (ints ps)), (7, ov), (8, .int .i64 (j : Nat)), (9, .osl bv 4 0 w), (10, .int .i64 (k : Nat))]) (fun k => M.set bv ⟨36, 4, rrs ((kerF Y ps j k v0).map ofQ)⟩) (fun k => k ≤ ps.length) (fun k => ps.length - k) 0 (by simp) ?_ (by simp) ?_)
              · rw [rrs_set] at hv0e
                rw [hv0e]
                rfl
              rintro k q1
              (repeat refine AW.seq_k fun K hK => ?_)
              refine AW.rg ?_
              simp
              try (refine hK _ rfl ?_; clear hK; clear K)
              (repeat refine AW.seq ?_)
              refine AW.cs (fun hk => ?_) (fun hk => ?_) rfl <;> (try simp at hk)
              · refine AW.skip ?_
                try simp
                refine hK _ rfl ?_
                clear hK
                clear K
                have hkY : k < Y.length := by omega
                have hkE : k < (emb Y).length := by rw [emb_length]; exact hkY
                have hlk : (mrow (emb Y) k).length = w := by rw [emb_row, List.length_map]; exact y2 k hkY
                have hjl : j < (mrow Y k).length := by rw [y2 k hkY]; exact hj
                have hel : rr (mrow (emb Y) k) j = ofQ (qel Y k j) := by rw [emb_row, rr_map hjl]; rfl
                have hgd : Good (qel Y k j) := y1.at hjl
                obtain ⟨n1, n2⟩ := good_neg hgd
                have hpk : ps.getD k 0 = ps[k] := by rw [List.getD_eq_getElem?_getD, List.getElem?_eq_getElem hk]; rfl
                have hpw : ps[k] < w := y6 _ (List.getElem_mem hk)
                have hlf : (kerF Y ps j k v0).length = w := by rw [kerF_length, hv0l]
                have w3 : IntKind.i64.wrap ((k + 1 : Nat) : Int) = ((k + 1 : Nat) : Int) := wi (by omega)
                have hsub := sub2_call 0 (qel Y k j) good_zero hgd
                rw [n1] at hsub
                simp only [resQ] at hsub
                have hkn : kerF Y ps j (k + 1) v0 = (kerF Y ps j k v0).set (ps.getD k 0) (-(qel Y k j)) := rfl
                rw [hpk] at hkn
                generalize -(qel Y k j) = nq at *
                have hones : OnesM (M.set bv ⟨36, 4, rrs ((kerF Y ps j k v0).map ofQ)⟩) := (g2.ones (rowAV_ones _)).set bv (rrs_ok ((kerF Y ps j k v0).map ofQ))
                refine AW.seq_ex (ι := Unit) (fun _ => [(0, matAV m), (4, matAV (emb Y)), (5, .sl 1 (ints ps)), (7, ov), (8, .int .i64 (j : Nat)), (9, .osl bv 4 0 w), (10, .int .i64 (k : Nat))]) (fun _ => M.set bv ⟨36, 4, rrs ((kerF Y ps j (k + 1) v0).map ofQ)⟩) (fun _ => True) ?_ ?_
                · (repeat refine AW.seq ?_)
                  refine AW.block ?_
                  (repeat refine AW.seq_k fun K hK => ?_)
                  refine AW.rd [1,2,3,4,5,6,7,0,8,9,10,11,12,13,14] mix ?_
                  simp [hkE, hlk, hj, hel]
                  try (refine hK _ rfl ?_; clear hK; clear K)
                  refine CallK.val hzero ?_
                  simp
                  refine CallK.val hsub ?_
                  simp [qAV]
                  refine Fresh.intro fun b11 hb11 => ?_
                  refine hK _ rfl ?_
                  clear hK
                  clear K
                  refine AW.turn [(0, matAV m), (4, matAV (emb Y)), (5, .sl 1 (ints ps)), (7, ov), (8, .int .i64 (j : Nat)), (9, .osl bv 4 0 w), (10, .int .i64 (k : Nat)), (11, .rptr [.bool (ofQ nq).n1, lim (ofQ nq).l1, .bool (ofQ nq).n2, lim (ofQ nq).l2]), (12, .int .i64 0)] (M.set bv ⟨36, 4, rrs ((kerF Y ps j k v0).map ofQ)⟩) (Recast.drop hb11 hones) ?_ ?_
                  · simp
                    exact view_temp hb11
                  (repeat refine AW.seq_k fun K hK => ?_)
                  refine AW.rg ?_
                  simp
                  try (refine hK _ rfl ?_; clear hK; clear K)
                  refine AW.no ?_ rfl
                  refine AW.skip ?_
                  try simp
                  refine hK _ rfl ?_
                  clear hK
                  clear K
                  (repeat refine AW.seq_k fun K hK => ?_)
                  refine AW.rd [0, 1, 2, 3, 4, 5, 6, 7] mix ?_
                  simp [hk, hpk, hpw, hlf]
                  try (refine hK _ rfl ?_; clear hK; clear K)
                  rw [hkn, List.map_set, ← rrs_set]
                  rfl
                rintro _ _
                (repeat refine AW.seq_k fun K hK => ?_)
                refine AW.rg ?_
                simp [-Int.natCast_add, w3]
                try (refine hK _ rfl ?_; clear hK; clear K)
                exact ⟨k + 1, hk, by omega, rfl, rfl⟩
              · refine AW.exit ?_
                try simp
                have : k = ps.length := by omega
                subst this
                unfold kerV; rw [hv0]
            rintro _ _
            refine AW.turn [(0, matAV m), (4, matAV (emb Y)), (5, .sl 1 (ints ps)), (7, ov), (8, .int .i64 (j : Nat)), (9, rowAV ((kerV Y ps w j).map ofQ))] M (Recast.drop hbv (g2.ones (rowAV_ones _))) ?_ ?_
            · simp
              exact view_row (Mem.set_same _ _ _) hbv (by rw [List.length_map, kerV_length])
            have hfin : ∀ s : KerS7, LstO s.M 42 1 s.ov s.ob ((emb (kerP Y ps w j)).map rowAV ++ [rowAV ((kerV Y ps w j).map ofQ)]) → InvK7 Y ps w (j + 1) s := by
              intro s h3
              unfold InvK7
              rw [kerP_succ, if_neg hnm]
              simpa [emb] using h3
            have hll : ((emb (kerP Y ps w j)).map rowAV).length ≤ j := by
              rw [List.length_map, emb_length]
              unfold kerP
              rw [List.length_map]
              exact Nat.le_trans (List.length_filter_le _ _) (by simp)
            unfold InvK7 at g2
            simp only at g2
            generalize (emb (kerP Y ps w j)).map rowAV = l at *
            rcases g2.lst with ⟨z1, z2, z3⟩ | ⟨b0, z2, z3, z4⟩
            · subst z1 z2 z3
              (repeat refine AW.seq_k fun K hK => ?_)
              refine AW.rgR [68] ?_
              simp
              try (refine hK _ rfl ?_; clear hK; clear K)
              exact ⟨by unfold maxLen; omega, Fresh.intro fun b hb => ⟨⟨_, _, [b]⟩, hfin _ (g2.push0 b _), rfl, rfl⟩⟩
            · subst z2 z3
              have hl2 : l.length < 2^40 := by omega
              (repeat refine AW.seq_k fun K hK => ?_)
              refine AW.rgR [68] ?_
              simp [z4]
              try (refine hK _ rfl ?_; clear hK; clear K)
              exact ⟨by omega, by unfold maxLen; omega, Fresh.intro fun b hb => ⟨⟨_, _, [b]⟩, hfin _ (g2.push1 b _), rfl, rfl⟩⟩
        rintro ⟨M, ov, ob⟩ hs
        (repeat refine AW.seq_k fun K hK => ?_)
        refine AW.rg ?_
        simp [-Int.natCast_add, w1]
        try (refine hK _ rfl ?_; clear hK; clear K)
        exact ⟨j + 1, ⟨M, ov, ob⟩, ⟨hj, hs⟩, by omega, by simp⟩
      · refine AW.exit ?_
        try simp
        have : j = w := by omega
        subst this
        exact ⟨⟨M, ov, ob⟩, g2, by simp⟩
    rintro ⟨M, ov, ob⟩ g1
    (repeat refine AW.seq_k fun K hK => ?_)
    refine AW.rg ?_
    simp
    try (refine hK _ rfl ?_; clear hK; clear K)
    have hv := g1.lst.view (M' := Mem.emp) (fun _ _ => rfl)
    exact AW.ret (ret_views [matAV (emb (kerP Y ps w w)), .int .i64 0] rfl ⟨hv, .same _, trivial⟩ ⟨rfl, rfl⟩)
  · have hK : kerR m = ((redR m).1, []) := if_pos h0
    rw [hK]
    generalize redR m = z at *
    obtain ⟨e, Y, ps⟩ := z
    simp only at h0 hr ⊢
    refine acall_S Tryz.func35 rfl rfl 71 rfl (Nat.le_of_ble_eq_true rfl) ?_
    (repeat refine AW.seq_k fun K hK => ?_)
    refine AW.rg ?_
    simp [argsL]
    try (refine hK _ rfl ?_; clear hK; clear K)
    (repeat refine AW.seq_k fun K hK => ?_)
    refine AW.rg ?_
    simp
    try (refine hK _ rfl ?_; clear hK; clear K)
    refine CallK.val hr ?_
    simp
    refine hK _ rfl ?_
    clear hK
    clear K
    (repeat refine AW.seq_k fun K hK => ?_)
    refine AW.rg ?_
    simp [h0]
    try (refine hK _ rfl ?_; clear hK; clear K)
    refine AW.yes ?_ rfl
    (repeat refine AW.seq_k fun K hK => ?_)
    refine AW.rg ?_
    simp
    try (refine hK _ rfl ?_; clear hK; clear K)
    exact AW.ret (ret_views [matAV [], .int .i64 e] rfl ⟨.nilsl 1, .same _, trivial⟩ ⟨rfl, rfl⟩)
end Go.Av
end
section
/- Solving: what is computed; the matrix with one more column. -/
namespace Go.Av
open Go.Proofs
def wideP (X : List (List Rat)) (b : List Rat) : Nat → List (List Rat)
  | 0 => X
  | i + 1 => (wideP X b i).set i (mrow X i ++ [qat b i])
def wideQ (X : List (List Rat)) (b : List Rat) : List (List Rat) := wideP X b X.length
theorem wideP_length (X : List (List Rat)) (b : List Rat) : ∀ i, (wideP X b i).length = X.length
  | 0 => rfl
  | i + 1 => by unfold wideP; rw [List.length_set, wideP_length]
theorem wideP_row (X : List (List Rat)) (b : List Rat) (k : Nat) (hk : k < X.length) : ∀ i, i ≤ X.length → mrow (wideP X b i) k = if k < i then mrow X k ++ [qat b k] else mrow X k
  | 0, _ => by rw [if_neg (by omega)]; rfl
  | i + 1, h => by
    unfold wideP
    rw [mrow_set (by rw [wideP_length]; omega), wideP_row X b k hk i (by omega)]
    by_cases e : k = i
    · subst e; rw [if_pos rfl, if_pos (by omega)]
    · rw [if_neg e]
      by_cases h1 : k < i
      · rw [if_pos h1, if_pos (by omega)]
      · rw [if_neg h1, if_neg (by omega)]
theorem good_snoc {r : List Rat} {x : Rat} (h : rowGood r) (hx : Good x) : rowGood (r ++ [x]) := fun q hq => by
  rcases List.mem_append.1 hq with hq | hq
  · exact h q hq
  · simp at hq; subst hq; exact hx
theorem wideQ_good {X : List (List Rat)} {b : List Rat} {n w : Nat} (h : matGood n w X) (hb : rowGood b) (hl : b.length = n) : matGood n (w + 1) (wideQ X b) := by
  have hX := h.2.2
  have hr : ∀ k, k < n → mrow (wideQ X b) k = mrow X k ++ [qat b k] := fun k hk => by unfold wideQ; rw [wideP_row X b k (by omega) _ (Nat.le_refl _), if_pos (by omega)]
  have hlen : (wideQ X b).length = n := by unfold wideQ; rw [wideP_length, hX]
  refine ⟨fun r hr' => ?_, fun k hk => ?_, hlen⟩
  · obtain ⟨k, hk, e⟩ := List.mem_iff_getElem.1 hr'
    have : mrow (wideQ X b) k = r := by rw [mrow_eq hk, e]
    rw [hlen] at hk
    rw [← this, hr k hk]
    exact good_snoc (h.row hk).1 (hb.at (by omega))
  · rw [hlen] at hk
    rw [hr k hk, List.length_append, (h.row hk).2]; rfl
def solF (Y : List (List Rat)) (ps : List Nat) (w : Nat) : Nat → List Rat → List Rat
  | 0, v => v
  | k + 1, v => (solF Y ps w k v).set (ps.getD k 0) (qel Y k w)
def solV (Y : List (List Rat)) (ps : List Nat) (w : Nat) : List Rat := solF Y ps w ps.length (List.replicate w 0)
theorem solF_length (Y : List (List Rat)) (ps : List Nat) (w : Nat) (v : List Rat) : ∀ k, (solF Y ps w k v).length = v.length
  | 0 => rfl
  | k + 1 => by unfold solF; rw [List.length_set, solF_length]
theorem solV_length (Y : List (List Rat)) (ps : List Nat) (w : Nat) : (solV Y ps w).length = w := by unfold solV; rw [solF_length]; simp
theorem solF_good {Y : List (List Rat)} {ps : List Nat} {w : Nat} {v : List Rat} (hv : rowGood v) (hq : ∀ k, k < ps.length → Good (qel Y k w)) : ∀ k, k ≤ ps.length → rowGood (solF Y ps w k v)
  | 0, _ => hv
  | k + 1, h => good_set (solF_good hv hq k (by omega)) _ (hq k h)
def okV (b : List RR) : Prop := ∀ i, i < b.length → (rr b i).ok = true
open Classical in
/-- The error, is there a solution, the solution. -/
noncomputable def solR (m : List (List RR)) (b : List RR) : Int × Bool × List Rat :=
  if chk m ≠ 0 then (chk m, false, []) else if b.length ≠ m.length then (1, false, []) else if ¬ okV b then (1, false, []) else if (mrow m 0).length = 64 then (2, false, []) else
  match reduceQ (wideQ (unq m) (b.map RR.q)) with
  | none => (2, false, [])
  | some z => if (mrow m 0).length ∈ z.2 then (0, false, []) else (0, true, solV z.1 z.2 (mrow m 0).length)
theorem rrs_app (r : List RR) (x : RR) : rrs (r ++ [x]) = rrs r ++ [x.av] := by simp [rrs]
theorem hdrs_put {bs : List Nat} {rows : List (List RR)} (i : Nat) (b' : Nat) (r : List RR) : hdrs (bs.set i b') (rows.set i r) = (hdrs bs rows).set i (.osl b' 4 0 r.length) := by
  unfold hdrs
  refine List.ext_getElem? fun k => ?_
  rw [List.getElem?_zipWith, List.getElem?_set, List.getElem?_set, List.getElem?_set, List.length_zipWith]
  by_cases e : i = k
  · subst e
    simp only [if_true]
    by_cases h1 : i < bs.length <;> by_cases h2 : i < rows.length <;> simp [h1, h2] <;> omega
  · simp only [if_neg e]
    rw [List.getElem?_zipWith]
theorem RefM.grow {M : Mem} {B : Nat} {bs : List Nat} {X : List (List Rat)} (h : RefM M B bs X) {i : Nat} (hi : i < X.length) {b' : Nat} (hb' : (M.del (nb bs i)) b' = none) (r : List Rat) :
    RefM (((M.del (nb bs i)).set b' ⟨36, 4, rrs (r.map ofQ)⟩).set B ⟨42, 1, (hdrs bs (emb X)).set i (.osl b' 4 0 r.length)⟩) B (bs.set i b') (X.set i r) := by
  have hiE : i < (emb X).length := by rw [emb_length]; exact hi
  have hib : i < bs.length := by rw [h.1.len]; exact hiE
  have hni := h.1.ne hiE
  have hdel : ∀ a, a ≠ nb bs i → (M.del (nb bs i)) a = M a := fun a ha => if_neg ha
  have hB' : B ≠ b' := by
    rintro rfl
    rw [hdel _ (Ne.symm hni), h.1.top] at hb'; cases hb'
  have hk' : ∀ k, k < (emb X).length → k ≠ i → nb bs k ≠ nb bs i ∧ nb bs k ≠ b' := fun k hk hki => by
    have h1 : nb bs k ≠ nb bs i := fun e => hki (nb_inj h.1.nd (by rw [h.1.len]; exact hk) hib e)
    refine ⟨h1, fun e => ?_⟩
    rw [← e, hdel _ h1, h.1.row k hk] at hb'; cases hb'
  refine ⟨⟨?_, ?_, fun k hk => ?_, ?_, ?_⟩, fun a ha => ?_⟩
  · rw [emb_set, hdrs_put, List.length_map]; simp
  · rw [List.length_set, emb_set, List.length_set]; exact h.1.len
  · rw [emb_set, List.length_set] at hk
    rw [nb_set hib, emb_set, mrow_set hiE]
    simp only [set_at]
    by_cases e : k = i
    · rw [if_pos e, if_pos e, if_neg (Ne.symm hB'), if_pos rfl]
    · obtain ⟨h1, h2⟩ := hk' k hk e
      rw [if_neg e, if_neg e, if_neg (h.1.ne hk), if_neg h2, hdel _ h1]
      exact h.1.row k hk
  · unfold List.Nodup
    rw [List.pairwise_iff_getElem]
    intro x y hx hy hxy
    rw [← nb_eq hx, ← nb_eq hy, nb_set hib, nb_set hib]
    rw [List.length_set, h.1.len] at hx hy
    by_cases e1 : x = i
    · rw [if_pos e1, if_neg (by omega)]
      exact Ne.symm (hk' y hy (by omega)).2
    · rw [if_neg e1]
      by_cases e2 : y = i
      · rw [if_pos e2]; exact (hk' x hx e1).2
      · rw [if_neg e2]
        intro e
        have := nb_inj h.1.nd (by rw [h.1.len]; exact hx) (by rw [h.1.len]; exact hy) e
        omega
  · intro hm
    rcases List.mem_or_eq_of_mem_set hm with hm | e
    · exact h.1.nB hm
    · exact hB' e
  · simp only [set_at] at ha
    by_cases e1 : a = B
    · simp [e1]
    · rw [if_neg e1] at ha
      by_cases e2 : a = b'
      · rw [e2]
        refine List.mem_cons_of_mem _ ?_
        have := nb_mem (bs := bs.set i b') (i := i) (by rw [List.length_set]; exact hib)
        rwa [nb_set hib, if_pos rfl] at this
      · rw [if_neg e2] at ha
        have e3 : a ≠ nb bs i := by rintro rfl; exact ha (if_pos rfl)
        rw [hdel _ e3] at ha
        have := h.2 a ha
        rcases List.mem_cons.1 this with e4 | hm
        · exact absurd e4 e1
        · obtain ⟨k, hk, e⟩ := List.mem_iff_getElem.1 hm
          have hki : k ≠ i := by
            rintro rfl
            exact e3 (by rw [← e, nb_eq hk])
          refine List.mem_cons_of_mem _ ?_
          have := nb_mem (bs := bs.set i b') (i := k) (by rw [List.length_set]; exact hk)
          rwa [nb_set hib, if_neg hki, nb_eq hk, e] at this
end Go.Av
end
section
/- The reference: below. -/
namespace Go.Av
open Go.Proofs
theorem below_row {n j t : Nat} {M M' : List (List Rat)} (hn : M.length = n) (hi : j + 1 + t < n) (he : belowStep n j t M = some M') : mrow M' j = mrow M j := by
  unfold belowStep at he
  split at he
  · cases he; rfl
  · cases hf : divQ (qel M (j + 1 + t) j) (qel M j j) with
    | none => rw [hf] at he; cases he
    | some f =>
      rw [hf] at he
      replace he : (iterO (belowRow (mrow M j) f j) (n - j) (mrow M (j + 1 + t))).map (M.set (j + 1 + t)) = some M' := he
      cases hm : iterO (belowRow (mrow M j) f j) (n - j) (mrow M (j + 1 + t)) with
      | none => rw [hm] at he; cases he
      | some row =>
        rw [hm] at he
        cases he
        rw [mrow_set (by omega), if_neg (by omega)]
set_option maxHeartbeats 1000000
theorem below_call (M0 : Mem) (B : Nat) (bs : List Nat) (X : List (List Rat)) (n j : Nat) (hM : RefM M0 B bs X) (hG : matGood n n X) (hj : j < n) (hdq : qel X j j ≠ 0) (hn : n ≤ 64) :
    ACall Tryz.prog 61 [.osl B 1 0 n, .int .i64 j] M0 (clearOut B bs (belowQ n j X)) := by
  have w0 : IntKind.i64.wrap ((j + 1 : Nat) : Int) = ((j + 1 : Nat) : Int) := wi (by omega)
  refine acall_S Tryz.func61 rfl rfl 61 rfl (Nat.le_of_ble_eq_true rfl) ?_
  (repeat refine AW.seq_k fun K hK => ?_)
  refine AW.rg ?_
  simp [argsL]
  try (refine hK _ rfl ?_; clear hK; clear K)
  refine AW.seq_ex (ι := Mem × List (List Rat)) (fun _ => []) (fun z => z.1) (fun z => RefM z.1 B bs z.2 ∧ belowQ n j X = some z.2) ?_ ?_
  · (repeat refine AW.seq_k fun K hK => ?_)
    refine AW.rg ?_
    simp [-Int.natCast_add, w0]
    try (refine hK _ rfl ?_; clear hK; clear K)
    refine AW.block (AW.loopS (ι := Nat × Mem × List (List Rat)) (fun z => [(0, .osl B 1 0 n), (1, .int .i64 j), (5, .int .i64 ((j + 1 + z.1 : Nat) : Int))]) (fun z => z.2.1) (fun z => z.1 ≤ n - (j + 1) ∧ RefM z.2.1 B bs z.2.2 ∧ iterO (belowStep n j) z.1 X = some z.2.2 ∧ matGood n n z.2.2 ∧ mrow z.2.2 j = mrow X j) (fun z => n - z.1) (0, M0, X) ⟨by simp, hM, rfl, hG, rfl⟩ rfl (by simp [-Int.natCast_add]) ?_)
    rintro ⟨t, M, Y⟩ ⟨g1, g2, g3, g4, g5⟩
    simp only at g1 g2 g3 g4 g5
    simp only
    generalize hi' : j + 1 + t = i at *
    (repeat refine AW.seq_k fun K hK => ?_)
    refine AW.rg ?_
    simp [-Int.natCast_add]
    try (refine hK _ rfl ?_; clear hK; clear K)
    (repeat refine AW.seq ?_)
    refine AW.cs (fun hi => ?_) (fun hi => ?_) rfl <;> (try simp at hi)
    · refine AW.skip ?_
      try simp [-Int.natCast_add]
      refine hK _ rfl ?_
      clear hK
      clear K
      have w1 : IntKind.i64.wrap ((i + 1 : Nat) : Int) = ((i + 1 : Nat) : Int) := wi (by omega)
      have hiE : i < (emb Y).length := by rw [emb_length, g4.2.2]; exact hi
      have hjE : j < (emb Y).length := by rw [emb_length, g4.2.2]; exact hj
      have hli : (mrow (emb Y) i).length = n := by rw [emb_row, List.length_map]; exact (g4.row hi).2
      have hlj : (mrow (emb Y) j).length = n := by rw [emb_row, List.length_map]; exact (g4.row hj).2
      have hji : j < (mrow Y i).length := by rw [(g4.row hi).2]; exact hj
      have hjj : j < (mrow Y j).length := by rw [(g4.row hj).2]; exact hj
      have ef : rr (mrow (emb Y) i) j = ofQ (qel Y i j) := by rw [emb_row, rr_map hji]; rfl
      have ed : rr (mrow (emb Y) j) j = ofQ (qel Y j j) := by rw [emb_row, rr_map hjj]; rfl
      have gf : Good (qel Y i j) := g4.1.at hji
      have gd : Good (qel Y j j) := g4.1.at hjj
      have hd0 : qel Y j j ≠ 0 := by unfold qel; rw [g5]; exact hdq
      have hsg := rsign2_call (ofQ (qel Y i j)) (ofQ_lb _)
      rw [signR_ofQ gf] at hsg
      have hst : iterO (belowStep n j) (t + 1) X = belowStep n j t Y := by rw [iterO_succ, g3]; rfl
      have hrow : ∀ Y', belowStep n j t Y = some Y' → mrow Y' j = mrow X j := fun Y' h => by rw [below_row g4.2.2 (by omega) h, g5]
      have hBi := g2.1.row i hiE
      have hBj := g2.1.row j hjE
      refine AW.seq_ex (ι := Mem × List (List Rat)) (fun _ => [(0, .osl B 1 0 n), (1, .int .i64 j), (5, .int .i64 (i : Nat))]) (fun z => z.1) (fun z => RefM z.1 B bs z.2 ∧ iterO (belowStep n j) (t + 1) X = some z.2 ∧ matGood n n z.2 ∧ mrow z.2 j = mrow X j) ?_ ?_
      · (repeat refine AW.seq ?_)
        refine AW.block ?_
        (repeat refine AW.seq_k fun K hK => ?_)
        refine AW.rg ?_
        simp [-Int.natCast_add, hi, g2.1.top, ↓g2.1.get hiE, hBi, hli, hj, ef]
        try (refine hK _ rfl ?_; clear hK; clear K)
        refine CallK.val hsg ?_
        simp
        refine hK _ rfl ?_
        clear hK
        clear K
        (repeat refine AW.seq ?_)
        refine AW.cs (fun h0 => ?_) (fun h0 => ?_) rfl <;> (try simp at h0)
        · refine AW.exit ?_
          try simp [-Int.natCast_add]
          refine ⟨Y, g2, ?_, g4, g5⟩
          rw [hst]
          unfold belowStep
          rw [hi', if_pos (signQ_zero.1 h0)]
        · refine AW.skip ?_
          try simp [-Int.natCast_add]
          refine hK _ rfl ?_
          clear hK
          clear K
          have hne0 : qel Y i j ≠ 0 := fun h => h0 (signQ_zero.2 h)
          have hdv := div2_call (qel Y i j) (qel Y j j) gf gd hd0
          have hbs : belowStep n j t Y = (divQ (qel Y i j) (qel Y j j)).bind fun f => (iterO (belowRow (mrow Y j) f j) (n - j) (mrow Y i)).map (Y.set i) := by
            unfold belowStep; rw [hi', if_neg hne0]
          cases hq : divQ (qel Y i j) (qel Y j j) with
          | none =>
            rw [hq] at hdv hbs
            simp only [resQ] at hdv
            have hno : iterO (belowStep n j) (t + 1) X = none := by rw [hst, hbs]; rfl
            have hX : belowQ n j X = none := iterO_none' hno (m := n - (j + 1)) (by omega)
            rw [hX]
            (repeat refine AW.seq_k fun K hK => ?_)
            refine AW.rdT [] [] [] [B, nb bs i, nb bs j] [0, 1, 2, 3, 4, 5, 6, 7, 8, 9, 10, 11, 12, 13, 14, 15, 16, 17, 18, 19, 20] mix (by simp [hi, hj, g2.1.top, ↓g2.1.get hiE, ↓g2.1.get hjE, hBi, hBj, hli, hlj, ef, ed]) (by simp [hi, hj, g2.1.top, ↓g2.1.get hiE, ↓g2.1.get hjE, hBi, hBj, hli, hlj, ef, ed]) (by simp [hi, hj, g2.1.top, ↓g2.1.get hiE, ↓g2.1.get hjE, hBi, hBj, hli, hlj, ef, ed]) (by simp [hi, hj, g2.1.top, ↓g2.1.get hiE, ↓g2.1.get hjE, hBi, hBj, hli, hlj, ef, ed]) (by simp [hi, hj, g2.1.top, ↓g2.1.get hiE, ↓g2.1.get hjE, hBi, hBj, hli, hlj, ef, ed]) ?_
            simp [-Int.natCast_add, hi, hj, g2.1.top, ↓g2.1.get hiE, ↓g2.1.get hjE, hBi, hBj, hli, hlj, ef, ed]
            try (refine hK _ rfl ?_; clear hK; clear K)
            refine CallK.val hdv ?_
            simp [zeroRat]
            refine Fresh.intro fun b6 hb6 => ?_
            refine hK _ rfl ?_
            clear hK
            clear K
            refine AW.turn [(7, .int .i64 2)] M (Recast.drop hb6 g2.ones) (by simp) ?_
            (repeat refine AW.seq_k fun K hK => ?_)
            refine AW.rg ?_
            simp [-Int.natCast_add]
            try (refine hK _ rfl ?_; clear hK; clear K)
            refine AW.yes ?_ rfl
            (repeat refine AW.seq_k fun K hK => ?_)
            refine AW.rg ?_
            simp [-Int.natCast_add]
            try (refine hK _ rfl ?_; clear hK; clear K)
            exact AW.ret (ret_mem rfl g2.ones ⟨rfl, g2.ones⟩)
          | some f =>
            rw [hq] at hdv hbs
            simp only [resQ] at hdv
            replace hbs : belowStep n j t Y = (iterO (belowRow (mrow Y j) f j) (n - j) (mrow Y i)).map (Y.set i) := hbs
            (repeat refine AW.seq_k fun K hK => ?_)
            refine AW.rdT [] [] [] [B, nb bs i, nb bs j] [0, 1, 2, 3, 4, 5, 6, 7, 8, 9, 10, 11, 12, 13, 14, 15, 16, 17, 18, 19, 20] mix (by simp [hi, hj, g2.1.top, ↓g2.1.get hiE, ↓g2.1.get hjE, hBi, hBj, hli, hlj, ef, ed]) (by simp [hi, hj, g2.1.top, ↓g2.1.get hiE, ↓g2.1.get hjE, hBi, hBj, hli, hlj, ef, ed]) (by simp [hi, hj, g2.1.top, ↓g2.1.get hiE, ↓g2.1.get hjE, hBi, hBj, hli, hlj, ef, ed]) (by simp [hi, hj, g2.1.top, ↓g2.1.get hiE, ↓g2.1.get hjE, hBi, hBj, hli, hlj, ef, ed]) (by simp [hi, hj, g2.1.top, ↓g2.1.get hiE, ↓g2.1.get hjE, hBi, hBj, hli, hlj, ef, ed]) ?_
            simp [-Int.natCast_add, hi, hj, g2.1.top, ↓g2.1.get hiE, ↓g2.1.get hjE, hBi, hBj, hli, hlj, ef, ed]
            try (refine hK _ rfl ?_; clear hK; clear K)
            refine CallK.val hdv ?_
            simp [qAV]
            refine Fresh.intro fun b6 hb6 => ?_
            refine hK _ rfl ?_
            clear hK
            clear K
            refine AW.turn [(0, .osl B 1 0 n), (1, .int .i64 j), (5, .int .i64 (i : Nat)), (6, .rptr [.bool (ofQ f).n1, lim (ofQ f).l1, .bool (ofQ f).n2, lim (ofQ f).l2]), (7, .int .i64 0)] M (Recast.drop hb6 g2.ones) ?_ ?_
            · simp
              exact view_temp hb6
            (repeat refine AW.seq_k fun K hK => ?_)
            refine AW.rg ?_
            simp [-Int.natCast_add]
            try (refine hK _ rfl ?_; clear hK; clear K)
            refine AW.no ?_ rfl
            refine AW.skip ?_
            try simp [-Int.natCast_add]
            refine hK _ rfl ?_
            clear hK
            clear K
            have hne : nb bs i ≠ nb bs j := fun h => absurd (nb_inj g2.1.nd (by rw [g2.1.len]; exact hiE) (by rw [g2.1.len]; exact hjE) h) (by omega)
            have hsub := subtract_call (nb bs i) (nb bs j) (mrow Y i) (mrow Y j) f n j hne (g4.row hi).1 (g4.row hi).2 (g4.row hj).1 (g4.row hj).2 (good_div hd0 hq) (by omega) hn
            have hMi := hBi
            have hMr := hBj
            rw [emb_row] at hMi hMr
            rw [← only_two hMi hMr hne] at hsub
            have nBi := g2.1.ne hiE
            have nBr := g2.1.ne hjE
            (repeat refine AW.seq_k fun K hK => ?_)
            refine AW.rdT [] [6] [] [B] [0, 1, 2, 3, 4, 5, 6, 7, 8, 9, 10, 11] mix (by simp [hi, hj, g2.1.top, ↓g2.1.get hiE, ↓g2.1.get hjE, hli, hlj]) (by simp [hi, hj, g2.1.top, ↓g2.1.get hiE, ↓g2.1.get hjE, hli, hlj]) (by simp [hi, hj, g2.1.top, ↓g2.1.get hiE, ↓g2.1.get hjE, hli, hlj]) (by simp [hi, hj, g2.1.top, ↓g2.1.get hiE, ↓g2.1.get hjE, hli, hlj]) (by simp [hi, hj, g2.1.top, ↓g2.1.get hiE, ↓g2.1.get hjE, hli, hlj]) ?_
            simp [-Int.natCast_add, hi, hj, g2.1.top, ↓g2.1.get hiE, ↓g2.1.get hjE, hli, hlj]
            try (refine hK _ rfl ?_; clear hK; clear K)
            refine CallK.hand [nb bs i, nb bs j] (by simp [nBi, nBr]) hsub ?_
            intro v g hv hf
            cases hit : iterO (belowRow (mrow Y j) f j) (n - j) (mrow Y i) with
            | none =>
              rw [hit] at hv hbs
              obtain ⟨rfl, k2, k3⟩ := hv
              have hno : iterO (belowStep n j) (t + 1) X = none := by rw [hst, hbs]; rfl
              have hX : belowQ n j X = none := iterO_none' hno (m := n - (j + 1)) (by omega)
              have hones : OnesM (M.back [nb bs i, nb bs j] g) := back_ones g2.ones k2
              generalize M.back [nb bs i, nb bs j] g = M' at *
              simp
              refine hK _ rfl ?_
              clear hK
              clear K
              (repeat refine AW.seq_k fun K hK => ?_)
              refine AW.rg ?_
              simp [-Int.natCast_add]
              try (refine hK _ rfl ?_; clear hK; clear K)
              refine AW.yes ?_ rfl
              (repeat refine AW.seq_k fun K hK => ?_)
              refine AW.rg ?_
              simp [-Int.natCast_add]
              try (refine hK _ rfl ?_; clear hK; clear K)
              rw [hX]
              exact AW.ret (ret_mem rfl hones ⟨rfl, hones⟩)
            | some row =>
              rw [hit] at hv hbs
              obtain ⟨rfl, rfl⟩ := hv
              rw [back_two hMr hne]
              simp
              refine hK _ rfl ?_
              clear hK
              clear K
              (repeat refine AW.seq_k fun K hK => ?_)
              refine AW.rg ?_
              simp [-Int.natCast_add]
              try (refine hK _ rfl ?_; clear hK; clear K)
              refine AW.no ?_ rfl
              refine AW.skip ?_
              try simp [-Int.natCast_add]
              have hrg := iter_keep (p := fun row => rowGood row ∧ row.length = n) (fun k s t hs hst => rowStep_keep (fun q k x hx => good_less hx) hs hst) (g4.row hi) hit
              exact ⟨Y.set i row, g2.setRow (by rw [g4.2.2]; exact hi) (by rw [hrg.2, (g4.row hi).2]), by rw [hst, hbs]; rfl, g4.set i hrg, hrow _ hbs⟩
      rintro ⟨M, Y⟩ ⟨q1, q2, q3, q4⟩
      (repeat refine AW.seq_k fun K hK => ?_)
      refine AW.rg ?_
      simp [-Int.natCast_add, w1]
      try (refine hK _ rfl ?_; clear hK; clear K)
      exact ⟨t + 1, M, ⟨by omega, Y, q1, q2, q3, q4⟩, by omega, rfl, by omega⟩
    · refine AW.exit ?_
      try simp [-Int.natCast_add]
      have : t = n - (j + 1) := by omega
      subst this
      exact ⟨Y, g2, g3⟩
  rintro ⟨M, Y⟩ ⟨g2, g3⟩
  simp only at g2 g3
  simp only
  rw [g3]
  (repeat refine AW.seq_k fun K hK => ?_)
  refine AW.rg ?_
  simp
  try (refine hK _ rfl ?_; clear hK; clear K)
  exact AW.ret (ret_mem rfl g2.ones ⟨rfl, g2⟩)
end Go.Av
end
section
/- The reference: Det. -/
namespace Go.Av
open Go.Proofs
theorem swapL_self {α : Type} {l : List (List α)} {j : Nat} (h : j < l.length) : swapL l j j = l := by
  unfold swapL
  rw [mrow_eq h, List.set_getElem_self, List.set_getElem_self]
theorem RefM.swap {M : Mem} {B : Nat} {bs : List Nat} {X : List (List Rat)} (h : RefM M B bs X) {i r : Nat} (hi : i < X.length) (hr : r < X.length) :
    RefM (M.set B ⟨42, 1, ((hdrs bs (emb X)).set i (.osl (nb bs r) 4 0 (mrow (emb X) r).length)).set r (.osl (nb bs i) 4 0 (mrow (emb X) i).length)⟩) B (swapB bs i r) (swapL X i r) := by
  have hiE : i < (emb X).length := by rw [emb_length]; exact hi
  have hrE : r < (emb X).length := by rw [emb_length]; exact hr
  have hb : ∀ b, b ∈ swapB bs i r ↔ b ∈ bs := fun b => swapB_mem (by rw [h.1.len]; exact hiE) (by rw [h.1.len]; exact hrE) b
  refine ⟨by rw [emb_swap]; exact h.1.swap hiE hrE, fun b hb' => ?_⟩
  have := (h.2.set (by simp) _) b hb'
  simpa [hb] using this
def D2 (M : Mem) (b6 b2 : Nat) (d : Rat) : Mem := (M.set b6 ⟨36, 4, [(ofQ d).av]⟩).set b2 ⟨36, 4, [.agg [.bool false, .nil, .bool false, .nil]]⟩
section
variable {M : Mem} {B b6 b2 : Nat} {d : Rat}
theorem D2_set (h1 : B ≠ b6) (h2 : B ≠ b2) (x : Blk) : (D2 M b6 b2 d).set B x = D2 (M.set B x) b6 b2 d := by
  unfold D2; funext k; simp only [set_at]
  by_cases e : k = B
  · subst e; simp [h1, h2]
  · simp [e]
theorem D2_other (h1 : B ≠ b6) (h2 : B ≠ b2) : D2 M b6 b2 d B = M B := by unfold D2; simp [h1, h2]
theorem D2_at (h : b6 ≠ b2) : D2 M b6 b2 d b6 = some ⟨36, 4, [(ofQ d).av]⟩ ∧ D2 M b6 b2 d b2 = some ⟨36, 4, [.agg [.bool false, .nil, .bool false, .nil]]⟩ := by unfold D2; simp [h]
theorem D2_d (h : b6 ≠ b2) (d' : Rat) : (D2 M b6 b2 d).set b6 ⟨36, 4, [(ofQ d').av]⟩ = D2 M b6 b2 d' := by
  unfold D2; funext k; simp only [set_at]
  by_cases e : k = b6
  · subst e; simp [h]
  · simp [e]
theorem D2_ones (h : OnesM M) : OnesM (D2 M b6 b2 d) := by
  unfold D2
  refine OnesM.set (OnesM.set h b6 fun v hv => ?_) b2 fun v hv => ?_
  · simp at hv; subst hv; rfl
  · simp at hv; subst hv; rfl
theorem D2_only {l : List Nat} (h6 : b6 ∉ l) (h2 : b2 ∉ l) : (D2 M b6 b2 d).only l = M.only l := mem_two h6 h2
theorem D2_back {l : List Nat} {g : Mem} (h6 : b6 ∉ l) (h2 : b2 ∉ l) (k6 : g b6 = none) (k2 : g b2 = none) : (D2 M b6 b2 d).back l g = D2 (M.back l g) b6 b2 d := by
  unfold D2; rw [back_set h2 k2, back_set h6 k6]
end
theorem RefM.mat2 {M : Mem} {B : Nat} {bs : List Nat} {X : List (List Rat)} {b6 b2 : Nat} {d : Rat} (h : RefM M B bs X) (h6 : b6 ∉ B :: bs) (h2 : b2 ∉ B :: bs) : MatM (D2 M b6 b2 d) B bs (emb X) := by
  simp only [List.mem_cons, not_or] at h6 h2
  exact (h.1.other h6.1 h6.2 _).other h2.1 h2.2 _
theorem RefM.fresh {M : Mem} {B : Nat} {bs : List Nat} {X : List (List Rat)} (h : RefM M B bs X) {b : Nat} (hb : M b = none) : b ∉ B :: bs := by
  intro hm
  rcases List.mem_cons.1 hm with rfl | hm
  · rw [h.1.top] at hb; cases hb
  · obtain ⟨k, hk, e⟩ := List.mem_iff_getElem.1 hm
    rw [← nb_eq hk] at e
    have := h.1.row k (by rw [← h.1.len]; exact hk)
    rw [e, hb] at this; cases this
theorem emp_back (g : Mem) : Mem.emp.back [] g = g := by
  funext k
  cases hk : g k with
  | some y => exact back_some hk
  | none => rw [back_out hk (by simp)]; rfl
def OffL (b : Nat) (l : List Nat) : Prop := b ∉ l
structure DS7 where
  X : List (List Rat)
  d : Rat
  M : Mem
  bs : List Nat
def InvD7 (n : Nat) (X0 : List (List Rat)) (B b6 b2 j : Nat) (s : DS7) : Prop :=
  detIter n X0 j = some (some (s.X, s.d)) ∧ matGood n n s.X ∧ Good s.d ∧ RefM s.M B s.bs s.X ∧ OffL b6 (B :: s.bs) ∧ OffL b2 (B :: s.bs)
theorem iter_keepB {n j : Nat} {X : List (List Rat)} (hj : j < n) (hG : matGood n n X) : ∀ {Y : List (List Rat)}, belowQ n j X = some Y → matGood n n Y := by
  have key : ∀ (t : Nat) (Y : List (List Rat)), t ≤ n - (j + 1) → iterO (belowStep n j) t X = some Y → matGood n n Y := by
    intro t
    induction t with
    | zero => intro Y _ h; cases h; exact hG
    | succ t ih =>
      intro Y ht h
      rw [iterO_succ] at h
      cases hs : iterO (belowStep n j) t X with
      | none => rw [hs] at h; cases h
      | some Z => rw [hs] at h; exact below_keep (by omega) (ih Z (by omega) hs) h
  intro Y h
  exact key _ Y (Nat.le_refl _) h
set_option maxHeartbeats 1000000
theorem det7_call (m : List (List RR)) (hm : LbM m) : ACall Tryz.prog 24 [matAV m] Mem.emp fun v mm => v = .tup [(detR m).2.av, .int .i64 (detR m).1] ∧ mm = Mem.emp := by
  have hck := check2_call m hm
  have hwid := columns_call m
  by_cases h0 : chk m = 0
  · obtain ⟨h1, h2, h3, h4, h5⟩ := chk_emb hm h0
    rw [h0] at hck
    by_cases hsq : m.length = (mrow m 0).length
    · have hR : detR m = match detQ m.length (unq m) with
        | none => (2, badR)
        | some q => (0, ofQ q) := by unfold detR; rw [if_neg (by simp [h0]), if_neg (by simp [← hsq])] <;> rfl
      have hlen := unq_length m
      have hcl := copied_call m h4 (fun r hr => by
        obtain ⟨i, hi, rfl⟩ := mem_row hr
        have := h3 i (by rw [hlen]; exact hi)
        rw [unq_row, List.length_map] at this
        omega)
      have hw0 : (mrow (unq m) 0).length = m.length := by rw [unq_row, List.length_map, hsq]
      rw [hw0] at h3 h5
      rw [hR]
      clear hR hw0
      rw [← hsq] at hwid
      clear hsq
      generalize unq m = X0 at *
      generalize hn : m.length = n at *
      have hone := whole7_call 1 (by omega) (by omega)
      have hzero := whole7_call 0 (by omega) (by omega)
      rw [intQ_one] at hone
      rw [intQ_zero] at hzero
      have hX0 : matGood n n X0 := ⟨h2, h3, hlen⟩
      rw [h1] at hcl hwid hck ⊢
      clear hm h0 h1 h2 h3 hlen
      have hE : (emb X0).length = n := by rw [emb_length]; exact hX0.2.2
      refine acall_S Tryz.func24 rfl rfl 97 rfl (Nat.le_of_ble_eq_true rfl) ?_
      (repeat refine AW.seq_k fun K hK => ?_)
      refine AW.rg ?_
      simp [argsL]
      try (refine hK _ rfl ?_; clear hK; clear K)
      refine Fresh.intro fun b2 hb2 => ?_
      refine hK _ rfl ?_
      clear hK
      clear K
      (repeat refine AW.seq_k fun K hK => ?_)
      refine AW.rg ?_
      simp
      try (refine hK _ rfl ?_; clear hK; clear K)
      refine CallK.val hck ?_
      simp
      refine hK _ rfl ?_
      clear hK
      clear K
      (repeat refine AW.seq_k fun K hK => ?_)
      refine AW.rg ?_
      simp
      try (refine hK _ rfl ?_; clear hK; clear K)
      refine AW.no ?_ rfl
      refine AW.skip ?_
      try simp
      refine hK _ rfl ?_
      clear hK
      clear K
      (repeat refine AW.seq_k fun K hK => ?_)
      refine AW.rg ?_
      simp
      try (refine hK _ rfl ?_; clear hK; clear K)
      refine CallK.val hwid ?_
      simp [hE]
      refine hK _ rfl ?_
      clear hK
      clear K
      refine AW.no ?_ rfl
      refine AW.skip ?_
      try simp
      refine hK _ rfl ?_
      clear hK
      clear K
      (repeat refine AW.seq_k fun K hK => ?_)
      refine AW.rg ?_
      simp
      try (refine hK _ rfl ?_; clear hK; clear K)
      refine CallK.news hcl ?_
      rintro v g ⟨bs0, hcop⟩ hf
      simp
      refine hK _ rfl ?_
      clear hK
      clear K
      (repeat refine AW.seq_k fun K hK => ?_)
      refine AW.rg ?_
      simp
      try (refine hK _ rfl ?_; clear hK; clear K)
      refine CallK.val hone ?_
      simp
      refine Fresh.intro fun b6 hb6 => ?_
      refine hK _ rfl ?_
      clear hK
      clear K
      have hgb2 : g b2 = none := by
        cases h : g b2 with
        | none => rfl
        | some y => have := (hf b2 (by rw [h]; simp)).1; simp at this
      rw [back_set (by simp) hgb2, emp_back] at hb6 ⊢
      have h62 : b6 ≠ b2 := by rintro rfl; simp at hb6
      have hg6 : g b6 = none := by simpa [h62] using hb6
      rw [show (g.set b2 ⟨36, 4, [.agg [.bool false, .nil, .bool false, .nil]]⟩).set b6 ⟨36, 4, [(ofQ 1).av]⟩ = D2 g b6 b2 1 from set_comm' _ _ _ (Ne.symm h62)]
      clear hf hb6
      rcases hcop with ⟨c1, c2, rfl, rfl⟩ | ⟨B, rfl, c2, c3⟩
      · have hn0 : n = 0 := by rw [← hE, c1]; rfl
        subst hn0
        refine AW.seq_ex (ι := Unit) (fun _ => [(2, .ptr b2 4 0 0), (6, .ptr b6 4 0 0)]) (fun _ => D2 Mem.emp b6 b2 1) (fun _ => True) ?_ ?_
        · (repeat refine AW.seq_k fun K hK => ?_)
          refine AW.rg ?_
          simp
          try (refine hK _ rfl ?_; clear hK; clear K)
          refine AW.block (AW.loopS (ι := Nat) (fun i => [(2, .ptr b2 4 0 0), (5, .nil), (6, .ptr b6 4 0 0), (7, .int .i64 0)]) (fun _ => D2 Mem.emp b6 b2 1) (fun _ => True) (fun _ => 0) 0 trivial rfl (by simp) ?_)
          rintro i -
          (repeat refine AW.seq_k fun K hK => ?_)
          refine AW.rg ?_
          simp
          try (refine hK _ rfl ?_; clear hK; clear K)
          refine AW.no ?_ rfl
          refine AW.exit ?_
          try simp
        rintro _ -
        (repeat refine AW.seq_k fun K hK => ?_)
        refine AW.rg ?_
        simp [(D2_at (M := Mem.emp) (d := 1) h62).1, (D2_at (M := Mem.emp) (d := 1) h62).2]
        try (refine hK _ rfl ?_; clear hK; clear K)
        exact AW.ret (ret_rr (b := b2) (ofQ 1) rfl rfl (by simp; rfl) rfl ⟨rfl, rfl⟩)
      · rw [hE]
        have hR0 : RefM g B bs0 X0 := ⟨c2, c3⟩
        have n6 := hR0.fresh hg6
        have n2 := hR0.fresh hgb2
        refine AW.seq_ex (ι := DS7) (fun s => [(2, .ptr b2 4 0 0), (5, .osl B 1 0 n), (6, .ptr b6 4 0 0)]) (fun s => D2 s.M b6 b2 s.d) (fun s => InvD7 n X0 B b6 b2 n s) ?_ ?_
        · (repeat refine AW.seq_k fun K hK => ?_)
          refine AW.rg ?_
          simp
          try (refine hK _ rfl ?_; clear hK; clear K)
          refine AW.block (AW.loopS (ι := Nat × DS7) (fun z => [(2, .ptr b2 4 0 0), (5, .osl B 1 0 n), (6, .ptr b6 4 0 0), (7, .int .i64 (z.1 : Nat))]) (fun z => D2 z.2.M b6 b2 z.2.d) (fun z => z.1 ≤ n ∧ InvD7 n X0 B b6 b2 z.1 z.2) (fun z => n - z.1) (0, ⟨X0, 1, g, bs0⟩) ⟨by simp, rfl, hX0, good_one, hR0, n6, n2⟩ rfl (by simp) ?_)
          rintro ⟨j, X, d, M, bs⟩ ⟨i0, i1, i2, i3, i4, i5, i6⟩
          simp only at i0 i1 i2 i3 i4 i5 i6
          simp only
          clear hR0 n6 n2 hgb2 hg6 c2 c3
          (repeat refine AW.seq_k fun K hK => ?_)
          refine AW.rg ?_
          simp
          try (refine hK _ rfl ?_; clear hK; clear K)
          (repeat refine AW.seq ?_)
          refine AW.cs (fun hj => ?_) (fun hj => ?_) rfl <;> (try simp at hj)
          · refine AW.skip ?_
            try simp
            refine hK _ rfl ?_
            clear hK
            clear K
            have w1 : IntKind.i64.wrap ((j + 1 : Nat) : Int) = ((j + 1 : Nat) : Int) := wi (by omega)
            refine AW.seq_ex (ι := DS7) (fun s => [(2, .ptr b2 4 0 0), (5, .osl B 1 0 n), (6, .ptr b6 4 0 0), (7, .int .i64 (j : Nat))]) (fun s => D2 s.M b6 b2 s.d) (fun s => InvD7 n X0 B b6 b2 (j + 1) s) ?_ ?_
            · (repeat refine AW.seq ?_)
              refine AW.block ?_
              have hXn : X.length = n := i2.2.2
              have hp := pivot7_call (emb X) (lb_emb X) n j j (dim_emb i2.2.1) hj (by rw [emb_length]; omega) (by omega) (by omega)
              rw [pivR_emb i2.1 i2.2.1 hj] at hp
              have hvw := (i4.mat2 (d := d) i5 i6).view
              rw [emb_length, hXn] at hvw
              have hnx := detIter_succ i1
              (repeat refine AW.seq_k fun K hK => ?_)
              refine AW.rg ?_
              simp
              try (refine hK _ rfl ?_; clear hK; clear K)
              refine CallK.borrow [matAV (emb X), .int .i64 j, .int .i64 j] ⟨hvw, .same _, .same _, trivial⟩ hp ?_
              rintro _ rfl
              refine ⟨rfl, ?_⟩
              simp
              refine hK _ rfl ?_
              clear hK
              clear K
              cases hpq : pivQ X j j with
              | none =>
                have hnx : detIter n X0 (j + 1) = some none := by rw [hnx]; unfold detCol; simp only [hpq]
                rw [detQ_zero hnx (by omega)]
                unfold pivI
                (repeat refine AW.seq_k fun K hK => ?_)
                refine AW.rg ?_
                simp
                try (refine hK _ rfl ?_; clear hK; clear K)
                refine AW.yes ?_ rfl
                (repeat refine AW.seq_k fun K hK => ?_)
                refine AW.rg ?_
                simp
                try (refine hK _ rfl ?_; clear hK; clear K)
                refine CallK.val hzero ?_
                simp [(D2_at (M := M) (d := d) h62).2]
                refine hK _ rfl ?_
                clear hK
                clear K
                exact AW.ret (ret_rr (b := b2) (ofQ 0) rfl rfl (by simp) rfl ⟨rfl, rfl⟩)
              | some i =>
                obtain ⟨p1, p2, p3⟩ := pivQ_some hpq
                rw [hXn] at p1
                have hnx : detIter n X0 (j + 1) = (detD (decide (i ≠ j)) d (qel (swapL X i j) j j)).bind fun d => (belowQ n j (swapL X i j)).map fun M => some (M, d) := by rw [hnx]; unfold detCol; simp only [hpq]
                have hG1 := i2.swap p1 hj
                have hdq : qel (swapL X i j) j j ≠ 0 := by
                  unfold qel; rw [mrow_swap (by omega) (by omega), if_pos rfl]; exact p3
                unfold pivI
                (repeat refine AW.seq_k fun K hK => ?_)
                refine AW.rg ?_
                simp
                try (refine hK _ rfl ?_; clear hK; clear K)
                refine AW.no ?_ (by simp)
                refine AW.skip ?_
                try simp
                refine hK _ rfl ?_
                clear hK
                clear K
                refine AW.seq_ex (ι := Mem × List Nat × Rat) (fun _ => [(2, .ptr b2 4 0 0), (5, .osl B 1 0 n), (6, .ptr b6 4 0 0), (7, .int .i64 (j : Nat))]) (fun z => D2 z.1 b6 b2 z.2.2) (fun z => RefM z.1 B z.2.1 (swapL X i j) ∧ Good z.2.2 ∧ (∀ x, detD (decide (i ≠ j)) d x = mulQ z.2.2 x) ∧ OffL b6 (B :: z.2.1) ∧ OffL b2 (B :: z.2.1)) ?_ ?_
                · by_cases hij : i = j
                  · subst hij
                    (repeat refine AW.seq_k fun K hK => ?_)
                    refine AW.rg ?_
                    simp
                    try (refine hK _ rfl ?_; clear hK; clear K)
                    refine AW.no ?_ (by simp)
                    refine AW.skip ?_
                    try simp
                    refine ⟨M, bs, d, ⟨by rw [swapL_self (by omega)]; exact i4, i3, fun x => by unfold detD; simp, i5, i6⟩, by simp⟩
                  · have hB6 : B ≠ b6 := fun e => i5 (show b6 ∈ B :: bs by simp [e])
                    have hB2 : B ≠ b2 := fun e => i6 (show b2 ∈ B :: bs by simp [e])
                    have hiE : i < (emb X).length := by rw [emb_length]; omega
                    have hjE : j < (emb X).length := by rw [emb_length]; omega
                    have hhl := hdrs_length i4.1.len
                    rw [emb_length, hXn] at hhl
                    have hlr : ∀ k, k < n → (mrow (emb X) k).length = n := fun k hk => by rw [emb_row, List.length_map]; exact (i2.row hk).2
                    have gi := i4.1.get hiE
                    have gj := i4.1.get hjE
                    have hsw := i4.swap (i := i) (r := j) (by omega) (by omega)
                    rw [hlr i p1] at gi hsw
                    rw [hlr j hj] at gj hsw
                    have hDB : ∀ M' : Mem, ∀ d, D2 M' b6 b2 d B = M' B := fun M' d => D2_other hB6 hB2
                    (repeat refine AW.seq_k fun K hK => ?_)
                    refine AW.rg ?_
                    simp [hij]
                    try (refine hK _ rfl ?_; clear hK; clear K)
                    refine AW.yes ?_ rfl
                    (repeat refine AW.seq_k fun K hK => ?_)
                    refine AW.rg ?_
                    simp [p1, hDB, i4.1.top, ↓gi]
                    try (refine hK _ rfl ?_; clear hK; clear K)
                    (repeat refine AW.seq_k fun K hK => ?_)
                    refine AW.rg ?_
                    simp [p1, hj, hDB, i4.1.top, ↓gj, hhl]
                    try (refine hK _ rfl ?_; clear hK; clear K)
                    (repeat refine AW.seq_k fun K hK => ?_)
                    refine AW.rg ?_
                    simp [hj, hDB, hhl, p1]
                    try (refine hK _ rfl ?_; clear hK; clear K)
                    rw [D2_set hB6 hB2]
                    generalize M.set B ⟨42, 1, ((hdrs bs (emb X)).set i (.osl (nb bs j) 4 0 n)).set j (.osl (nb bs i) 4 0 n)⟩ = M1 at *
                    obtain ⟨n1, n2⟩ := good_neg i3
                    have hsub := sub2_call 0 d good_zero i3
                    rw [n1] at hsub
                    simp only [resQ] at hsub
                    have hmem : ∀ b, b ∈ B :: swapB bs i j ↔ b ∈ B :: bs := fun b => by
                      simp only [List.mem_cons, swapB_mem (show i < bs.length by rw [i4.1.len]; exact hiE) (show j < bs.length by rw [i4.1.len]; exact hjE)]
                    have hdd : ∀ x, detD (decide (i ≠ j)) d x = mulQ (-d) x := fun x => by
                      unfold detD; rw [if_pos (by simp [hij]), n1]; rfl
                    generalize -d = nd at *
                    obtain ⟨t1, t2⟩ := D2_at (M := M1) (d := d) h62
                    (repeat refine AW.seq_k fun K hK => ?_)
                    refine AW.rdT [] [] [] [b6] [1,0,2,3,4,5,6,7,8] mix (by simp [t1]) (by simp [t1]) (by simp [t1]) (by simp [t1]) (by simp [t1]) ?_
                    simp [t1]
                    try (refine hK _ rfl ?_; clear hK; clear K)
                    refine CallK.val hzero ?_
                    simp
                    refine CallK.val hsub ?_
                    simp [qAV]
                    refine Fresh.intro fun b10 hb10 => ?_
                    refine hK _ rfl ?_
                    clear hK
                    clear K
                    refine AW.turn [(2, .ptr b2 4 0 0), (5, .osl B 1 0 n), (6, .ptr b6 4 0 0), (7, .int .i64 (j : Nat)), (10, .rptr [.bool (ofQ nd).n1, lim (ofQ nd).l1, .bool (ofQ nd).n2, lim (ofQ nd).l2]), (11, .int .i64 0)] (D2 M1 b6 b2 d) (Recast.drop hb10 (D2_ones hsw.ones)) ?_ ?_
                    · simp
                      exact view_temp hb10
                    (repeat refine AW.seq_k fun K hK => ?_)
                    refine AW.rg ?_
                    simp
                    try (refine hK _ rfl ?_; clear hK; clear K)
                    refine AW.no ?_ rfl
                    refine AW.skip ?_
                    try simp
                    refine hK _ rfl ?_
                    clear hK
                    clear K
                    (repeat refine AW.seq_k fun K hK => ?_)
                    refine AW.rg ?_
                    simp [t1]
                    try (refine hK _ rfl ?_; clear hK; clear K)
                    refine ⟨M1, swapB bs i j, nd, ⟨hsw, n2, by simpa using hdd, fun h => i5 ((hmem _).1 h), fun h => i6 ((hmem _).1 h)⟩, ?_⟩
                    exact D2_d h62 nd
                rintro ⟨M1, bs1, d1⟩ ⟨k1, k2, k3, k4, k5⟩
                simp only at k1 k2 k3 k4 k5
                simp only
                rw [k3] at hnx
                generalize swapL X i j = X1 at *
                have hX1 : X1.length = n := hG1.2.2
                have hB6 : B ≠ b6 := fun e => k4 (show b6 ∈ B :: bs1 by simp [e])
                have hB2 : B ≠ b2 := fun e => k5 (show b2 ∈ B :: bs1 by simp [e])
                have hjE : j < (emb X1).length := by rw [emb_length]; omega
                have hlj : (mrow (emb X1) j).length = n := by rw [emb_row, List.length_map]; exact (hG1.row hj).2
                have hjl : j < (mrow X1 j).length := by rw [(hG1.row hj).2]; exact hj
                have ej : rr (mrow (emb X1) j) j = ofQ (qel X1 j j) := by rw [emb_row, rr_map hjl]; rfl
                have gj := k1.1.get hjE
                rw [hlj] at gj
                have hrj := k1.1.row j hjE
                have nj6 : nb bs1 j ≠ b6 := fun e => k4 (show b6 ∈ B :: bs1 from e ▸ List.mem_cons_of_mem _ (nb_mem (by rw [k1.1.len]; exact hjE)))
                have nj2 : nb bs1 j ≠ b2 := fun e => k5 (show b2 ∈ B :: bs1 from e ▸ List.mem_cons_of_mem _ (nb_mem (by rw [k1.1.len]; exact hjE)))
                have hDB : D2 M1 b6 b2 d1 B = M1 B := D2_other hB6 hB2
                have hDj : D2 M1 b6 b2 d1 (nb bs1 j) = M1 (nb bs1 j) := D2_other nj6 nj2
                have hgj : Good (qel X1 j j) := hG1.1.at hjl
                have hmul := mul2_call d1 (qel X1 j j) k2 hgj
                obtain ⟨t1, t2⟩ := D2_at (M := M1) (d := d1) h62
                cases hq : mulQ d1 (qel X1 j j) with
                | none =>
                  rw [hq] at hmul hnx
                  rw [detQ_none (show detIter n X0 (j + 1) = none from hnx) (by omega)]
                  simp only [resQ] at hmul
                  (repeat refine AW.seq_k fun K hK => ?_)
                  refine AW.rdT [] [] [] [b6, B, nb bs1 j] [0, 1, 2, 3, 4, 5, 6, 7, 8, 9, 10, 11, 12, 13, 14] mix (by simp [hj, t1, hDB, hDj, k1.1.top, ↓gj, hrj, hlj, ej]) (by simp [hj, t1, hDB, hDj, k1.1.top, ↓gj, hrj, hlj, ej]) (by simp [hj, t1, hDB, hDj, k1.1.top, ↓gj, hrj, hlj, ej]) (by simp [hj, t1, hDB, hDj, k1.1.top, ↓gj, hrj, hlj, ej]) (by simp [hj, t1, hDB, hDj, k1.1.top, ↓gj, hrj, hlj, ej]) ?_
                  simp [hj, t1, hDB, hDj, k1.1.top, ↓gj, hrj, hlj, ej]
                  try (refine hK _ rfl ?_; clear hK; clear K)
                  refine CallK.val hmul ?_
                  simp [zeroRat]
                  refine Fresh.intro fun b12 hb12 => ?_
                  refine hK _ rfl ?_
                  clear hK
                  clear K
                  refine AW.turn [(2, .ptr b2 4 0 0), (13, .int .i64 2)] (D2 M1 b6 b2 d1) (Recast.drop hb12 (D2_ones k1.ones)) (by simp) ?_
                  (repeat refine AW.seq_k fun K hK => ?_)
                  refine AW.rg ?_
                  simp
                  try (refine hK _ rfl ?_; clear hK; clear K)
                  refine AW.yes ?_ rfl
                  (repeat refine AW.seq_k fun K hK => ?_)
                  refine AW.rg ?_
                  simp [t2]
                  try (refine hK _ rfl ?_; clear hK; clear K)
                  exact AW.ret (ret_rat (b := b2) (.bool false) (lim []) (.bool false) (lim []) rfl rfl (by simp) rfl ⟨.same _, .nilsl 1, .same _, .nilsl 1, trivial⟩ ⟨rfl, rfl⟩)
                | some d2 =>
                  rw [hq] at hmul hnx
                  replace hnx : detIter n X0 (j + 1) = (belowQ n j X1).map fun M => some (M, d2) := hnx
                  simp only [resQ] at hmul
                  (repeat refine AW.seq_k fun K hK => ?_)
                  refine AW.rdT [] [] [] [b6, B, nb bs1 j] [0, 1, 2, 3, 4, 5, 6, 7, 8, 9, 10, 11, 12, 13, 14] mix (by simp [hj, t1, hDB, hDj, k1.1.top, ↓gj, hrj, hlj, ej]) (by simp [hj, t1, hDB, hDj, k1.1.top, ↓gj, hrj, hlj, ej]) (by simp [hj, t1, hDB, hDj, k1.1.top, ↓gj, hrj, hlj, ej]) (by simp [hj, t1, hDB, hDj, k1.1.top, ↓gj, hrj, hlj, ej]) (by simp [hj, t1, hDB, hDj, k1.1.top, ↓gj, hrj, hlj, ej]) ?_
                  simp [hj, t1, hDB, hDj, k1.1.top, ↓gj, hrj, hlj, ej]
                  try (refine hK _ rfl ?_; clear hK; clear K)
                  refine CallK.val hmul ?_
                  simp [qAV]
                  refine Fresh.intro fun b12 hb12 => ?_
                  refine hK _ rfl ?_
                  clear hK
                  clear K
                  refine AW.turn [(2, .ptr b2 4 0 0), (5, .osl B 1 0 n), (6, .ptr b6 4 0 0), (7, .int .i64 (j : Nat)), (12, .rptr [.bool (ofQ d2).n1, lim (ofQ d2).l1, .bool (ofQ d2).n2, lim (ofQ d2).l2]), (13, .int .i64 0)] (D2 M1 b6 b2 d1) (Recast.drop hb12 (D2_ones k1.ones)) ?_ ?_
                  · simp
                    exact view_temp hb12
                  (repeat refine AW.seq_k fun K hK => ?_)
                  refine AW.rg ?_
                  simp
                  try (refine hK _ rfl ?_; clear hK; clear K)
                  refine AW.no ?_ rfl
                  refine AW.skip ?_
                  try simp
                  refine hK _ rfl ?_
                  clear hK
                  clear K
                  (repeat refine AW.seq_k fun K hK => ?_)
                  refine AW.rg ?_
                  simp [t1]
                  try (refine hK _ rfl ?_; clear hK; clear K)
                  rw [show (D2 M1 b6 b2 d1).set b6 ⟨36, 4, [.agg [.bool (ofQ d2).n1, lim (ofQ d2).l1, .bool (ofQ d2).n2, lim (ofQ d2).l2]]⟩ = D2 M1 b6 b2 d2 from D2_d h62 d2]
                  have hbl := below_call _ B bs1 X1 n j ⟨k1.1.only (l := B :: bs1) fun b hb => by simpa using hb, onlyM_only M1 (B :: bs1)⟩ hG1 hj hdq h4
                  rw [← D2_only (d := d2) k4 k5] at hbl
                  (repeat refine AW.seq_k fun K hK => ?_)
                  refine AW.rg ?_
                  simp
                  try (refine hK _ rfl ?_; clear hK; clear K)
                  refine CallK.hand (B :: bs1) (by simp) hbl ?_
                  intro v g hv hf
                  obtain ⟨u1, u2⟩ := D2_at (M := M1) (d := d2) h62
                  have hg6 : g b6 = none := by
                    cases h : g b6 with
                    | none => rfl
                    | some y =>
                      rcases hf b6 (by rw [h]; simp) with h' | ⟨h', _⟩
                      · exact absurd h' k4
                      · rw [u1] at h'; cases h'
                  have hg2 : g b2 = none := by
                    cases h : g b2 with
                    | none => rfl
                    | some y =>
                      rcases hf b2 (by rw [h]; simp) with h' | ⟨h', _⟩
                      · exact absurd h' k5
                      · rw [u2] at h'; cases h'
                  rw [D2_back k4 k5 hg6 hg2]
                  cases hb : belowQ n j X1 with
                  | none =>
                    rw [hb] at hv hnx
                    obtain ⟨rfl, _⟩ := hv
                    have hno := detQ_none (show detIter n X0 (j + 1) = none from hnx) (by omega)
                    simp
                    refine hK _ rfl ?_
                    clear hK
                    clear K
                    (repeat refine AW.seq_k fun K hK => ?_)
                    refine AW.rg ?_
                    simp
                    try (refine hK _ rfl ?_; clear hK; clear K)
                    refine AW.yes ?_ rfl
                    rw [hno]
                    (repeat refine AW.seq_k fun K hK => ?_)
                    refine AW.rg ?_
                    simp [(D2_at (M := M1.back (B :: bs1) g) (d := d2) h62).2]
                    try (refine hK _ rfl ?_; clear hK; clear K)
                    exact AW.ret (ret_rat (b := b2) (.bool false) (lim []) (.bool false) (lim []) rfl rfl (by simp) rfl ⟨.same _, .nilsl 1, .same _, .nilsl 1, trivial⟩ ⟨rfl, rfl⟩)
                  | some Y =>
                    rw [hb] at hv hnx
                    obtain ⟨rfl, hv⟩ := hv
                    simp
                    refine hK _ rfl ?_
                    clear hK
                    clear K
                    (repeat refine AW.seq_k fun K hK => ?_)
                    refine AW.rg ?_
                    simp
                    try (refine hK _ rfl ?_; clear hK; clear K)
                    refine AW.no ?_ rfl
                    refine AW.skip ?_
                    try simp
                    have hYk : matGood n n Y := iter_keepB hj hG1 hb
                    exact ⟨⟨Y, d2, g, bs1⟩, ⟨hnx, hYk, good_mul hq, hv, k4, k5⟩, by rw [back_self k1.2]⟩
            rintro ⟨X, d, M, bs⟩ hs
            (repeat refine AW.seq_k fun K hK => ?_)
            refine AW.rg ?_
            simp [-Int.natCast_add, w1]
            try (refine hK _ rfl ?_; clear hK; clear K)
            exact ⟨j + 1, ⟨X, d, M, bs⟩, ⟨hj, hs⟩, by omega, by simp⟩
          · refine AW.exit ?_
            try simp
            have : j = n := by omega
            subst this
            exact ⟨⟨X, d, M, bs⟩, ⟨i1, i2, i3, i4, i5, i6⟩, by simp⟩
        rintro ⟨X, d, M, bs⟩ ⟨i1, i2, i3, i4, i5, i6⟩
        simp only at i1 i2 i3 i4 i5 i6
        simp only
        rw [detQ_some i1]
        (repeat refine AW.seq_k fun K hK => ?_)
        refine AW.rg ?_
        simp [(D2_at (M := M) (d := d) h62).1, (D2_at (M := M) (d := d) h62).2]
        try (refine hK _ rfl ?_; clear hK; clear K)
        exact AW.ret (ret_rr (b := b2) (ofQ d) rfl rfl (by simp; rfl) rfl ⟨rfl, rfl⟩)
    · have hR : detR m = (1, badR) := by unfold detR; rw [if_neg (by simp [h0]), if_pos hsq]
      rw [hR]
      refine acall_S Tryz.func24 rfl rfl 97 rfl (Nat.le_of_ble_eq_true rfl) ?_
      (repeat refine AW.seq_k fun K hK => ?_)
      refine AW.rg ?_
      simp [argsL]
      try (refine hK _ rfl ?_; clear hK; clear K)
      refine Fresh.intro fun b2 hb2 => ?_
      refine hK _ rfl ?_
      clear hK
      clear K
      (repeat refine AW.seq_k fun K hK => ?_)
      refine AW.rg ?_
      simp
      try (refine hK _ rfl ?_; clear hK; clear K)
      refine CallK.val hck ?_
      simp
      refine hK _ rfl ?_
      clear hK
      clear K
      (repeat refine AW.seq_k fun K hK => ?_)
      refine AW.rg ?_
      simp
      try (refine hK _ rfl ?_; clear hK; clear K)
      refine AW.no ?_ rfl
      refine AW.skip ?_
      try simp
      refine hK _ rfl ?_
      clear hK
      clear K
      (repeat refine AW.seq_k fun K hK => ?_)
      refine AW.rg ?_
      simp
      try (refine hK _ rfl ?_; clear hK; clear K)
      refine CallK.val hwid ?_
      simp
      refine hK _ rfl ?_
      clear hK
      clear K
      refine AW.yes ?_ (by simp [hsq])
      (repeat refine AW.seq_k fun K hK => ?_)
      refine AW.rg ?_
      simp
      try (refine hK _ rfl ?_; clear hK; clear K)
      exact AW.ret (ret_rat (b := b2) (.bool false) (lim []) (.bool false) (lim []) rfl rfl (by simp) rfl ⟨.same _, .nilsl 1, .same _, .nilsl 1, trivial⟩ ⟨rfl, rfl⟩)
  · have hR : detR m = (chk m, badR) := by unfold detR; rw [if_pos h0]
    rw [hR]
    generalize chk m = e at *
    refine acall_S Tryz.func24 rfl rfl 97 rfl (Nat.le_of_ble_eq_true rfl) ?_
    (repeat refine AW.seq_k fun K hK => ?_)
    refine AW.rg ?_
    simp [argsL]
    try (refine hK _ rfl ?_; clear hK; clear K)
    refine Fresh.intro fun b2 hb2 => ?_
    refine hK _ rfl ?_
    clear hK
    clear K
    (repeat refine AW.seq_k fun K hK => ?_)
    refine AW.rg ?_
    simp
    try (refine hK _ rfl ?_; clear hK; clear K)
    refine CallK.val hck ?_
    simp
    refine hK _ rfl ?_
    clear hK
    clear K
    (repeat refine AW.seq_k fun K hK => ?_)
    refine AW.rg ?_
    simp [h0]
    try (refine hK _ rfl ?_; clear hK; clear K)
    refine AW.yes ?_ rfl
    (repeat refine AW.seq_k fun K hK => ?_)
    refine AW.rg ?_
    simp
    try (refine hK _ rfl ?_; clear hK; clear K)
    exact AW.ret (ret_rat (b := b2) (.bool false) (lim []) (.bool false) (lim []) rfl rfl (by simp) rfl ⟨.same _, .nilsl 1, .same _, .nilsl 1, trivial⟩ ⟨rfl, rfl⟩)
end Go.Av
end
section
/- Solve: the program. -/
namespace Go.Av
open Go.Proofs
theorem okV_emb {b : List RR} (hb : ∀ x ∈ b, x.Lb) (h : okV b) : b = (b.map RR.q).map ofQ ∧ rowGood (b.map RR.q) := by
  have hok : ∀ x ∈ b, Good x.q ∧ x = ofQ x.q := fun x hx => by
    obtain ⟨j, hj, rfl⟩ := mem_rr hx
    exact ok_good (hb _ hx) (h j hj)
  refine ⟨?_, fun q hq => ?_⟩
  · rw [List.map_map]
    conv => lhs; rw [← List.map_id b]
    exact List.map_congr_left fun x hx => (hok x hx).2
  · obtain ⟨x, hx, rfl⟩ := List.mem_map.1 hq
    exact (hok x hx).1
theorem rr_q {b : List RR} {i : Nat} (hi : i < b.length) : qat (b.map RR.q) i = (rr b i).q := by
  unfold qat
  rw [List.getD_eq_getElem?_getD, List.getElem?_map, List.getElem?_eq_getElem hi, rr_eq hi]
  rfl
theorem last_mem {ps : List Nat} {w : Nat} (h : ps.Pairwise (· < ·)) (hw : ∀ p ∈ ps, p ≤ w) (h0 : ps ≠ []) : ps.getD (ps.length - 1) 0 = w ↔ w ∈ ps := by
  have hl : 0 < ps.length := by cases ps with | nil => exact absurd rfl h0 | cons a l => simp
  have hg : ps.getD (ps.length - 1) 0 = ps[ps.length - 1] := by rw [List.getD_eq_getElem?_getD, List.getElem?_eq_getElem (by omega)]; rfl
  constructor
  · intro e
    rw [← e, hg]; exact List.getElem_mem _
  · intro hm
    obtain ⟨k, hk, e⟩ := List.mem_iff_getElem.1 hm
    by_cases hkl : k = ps.length - 1
    · subst hkl; rw [hg, e]
    · have := List.pairwise_iff_getElem.1 h k (ps.length - 1) hk (by omega) (by omega)
      have h2 := hw _ (List.getElem_mem (show ps.length - 1 < ps.length by omega))
      omega
theorem recast_tmp {M : Mem} {b1 n b' B : Nat} {x y z : Blk} (h1 : M b1 = none) (ho : OnesM (((M.del n).set b' y).set B z)) : Recast ((((M.set b1 x).del n).set b' y).set B z) (((M.del n).set b' y).set B z) := by
  refine Recast.sub fun a u hu => ⟨?_, ho a u hu⟩
  simp only [set_at] at hu ⊢
  by_cases e1 : a = B
  · rw [if_pos e1] at hu ⊢; exact hu
  · rw [if_neg e1] at hu ⊢
    by_cases e2 : a = b'
    · rw [if_pos e2] at hu ⊢; exact hu
    · rw [if_neg e2] at hu ⊢
      have hu : (if a = n then none else M a) = some u := hu
      show (if a = n then none else (M.set b1 x) a) = some u
      by_cases e3 : a = n
      · rw [if_pos e3] at hu; cases hu
      · rw [if_neg e3] at hu ⊢
        rw [Mem.set_other _ _ (by rintro rfl; rw [h1] at hu; cases hu)]
        exact hu
structure SolS where
  M : Mem
  bs : List Nat
def InvSo (B : Nat) (X : List (List Rat)) (b : List RR) (i : Nat) (s : SolS) : Prop :=
  RefM s.M B s.bs (wideP X (b.map RR.q) i) ∧ ∀ k, k < i → (rr b k).ok = true
def solOut (Z : Int × Bool × List Rat) : AV := .tup [rowAV (Z.2.2.map ofQ), .bool Z.2.1, .int .i64 Z.1]
set_option maxHeartbeats 1000000
open Classical in
theorem solveL_call (m : List (List RR)) (b : List RR) (hm : LbM m) (hb : ∀ x ∈ b, x.Lb) : ACall Tryz.prog 42 [matAV m, rowAV b] Mem.emp fun v mm => v = solOut (solR m b) ∧ mm = Mem.emp := by
  have hck := check_call m hm
  have hwid := width_call m
  by_cases h0 : chk m = 0
  · rw [h0] at hck
    by_cases h1 : b.length = m.length
    · obtain ⟨a1, a2, a3, a4, a5⟩ := chk_emb hm h0
      have hla := unq_length m
      have ea : (mrow (unq m) 0).length = (mrow m 0).length := by rw [unq_row, List.length_map]
      have hcl := clone_call m (by rw [a1]; exact short_emb a2) (by omega) (fun r hr => by
        obtain ⟨i, hi, rfl⟩ := mem_row hr
        have := a3 i (by rw [hla]; exact hi)
        rw [unq_row, List.length_map] at this
        omega)
      have hR : solR m b = if ¬ okV b then ((1 : Int), false, ([] : List Rat)) else if (mrow m 0).length = 64 then (2, false, []) else
          match reduceQ (wideQ (unq m) (b.map RR.q)) with
          | none => (2, false, [])
          | some z => if (mrow m 0).length ∈ z.2 then (0, false, []) else (0, true, solV z.1 z.2 (mrow m 0).length) := by
        unfold solR; rw [if_neg (by simp [h0]), if_neg (by simp [h1])] <;> rfl
      rw [ea] at a3 a5
      generalize (mrow m 0).length = w at *
      generalize hX : unq m = X at *
      subst a1
      rw [emb_length] at *
      generalize hn : X.length = n at *
      have hG : matGood n w X := ⟨a2, a3, hn⟩
      refine acall_S Tryz.func42 rfl rfl 103 rfl (Nat.le_of_ble_eq_true rfl) ?_
      (repeat refine AW.seq_k fun K hK => ?_)
      refine AW.rg ?_
      simp [argsL]
      try (refine hK _ rfl ?_; clear hK; clear K)
      (repeat refine AW.seq_k fun K hK => ?_)
      refine AW.rg ?_
      simp
      try (refine hK _ rfl ?_; clear hK; clear K)
      refine CallK.val hck ?_
      simp
      refine hK _ rfl ?_
      clear hK
      clear K
      (repeat refine AW.seq_k fun K hK => ?_)
      refine AW.rg ?_
      simp
      try (refine hK _ rfl ?_; clear hK; clear K)
      refine AW.no ?_ rfl
      refine AW.skip ?_
      try simp
      refine hK _ rfl ?_
      clear hK
      clear K
      (repeat refine AW.seq_k fun K hK => ?_)
      refine AW.rg ?_
      simp [emb_length, hn, h1]
      try (refine hK _ rfl ?_; clear hK; clear K)
      refine AW.no ?_ rfl
      refine AW.skip ?_
      try simp
      refine hK _ rfl ?_
      clear hK
      clear K
      (repeat refine AW.seq_k fun K hK => ?_)
      refine AW.rg ?_
      simp
      try (refine hK _ rfl ?_; clear hK; clear K)
      refine CallK.news hcl ?_
      rintro _ g ⟨B, bs0, rfl, g1, g2⟩ _
      rw [emp_back]
      simp
      refine hK _ rfl ?_
      clear hK
      clear K
      refine AW.seq_ex (ι := SolS) (fun s => [(0, matAV (emb X)), (8, .osl B 1 0 n)]) (fun s => s.M) (fun s => InvSo B X b n s) ?_ ?_
      · (repeat refine AW.seq_k fun K hK => ?_)
        refine AW.rg ?_
        simp [h1]
        try (refine hK _ rfl ?_; clear hK; clear K)
        refine AW.block (AW.loopS (ι := Nat × SolS) (fun z => [(0, matAV (emb X)), (1, rowAV b), (8, .osl B 1 0 n), (29, rowAV b), (30, .int .i64 (n : Nat)), (31, .int .i64 (z.1 : Nat))]) (fun z => z.2.M) (fun z => z.1 ≤ n ∧ InvSo B X b z.1 z.2) (fun z => n - z.1) (0, ⟨g, bs0⟩) ⟨by simp, ⟨g1, g2⟩, by simp⟩ rfl (by simp) ?_)
        rintro ⟨i, M, bs⟩ ⟨k1, k2, k3⟩
        simp only at k1 k2 k3
        simp only
        (repeat refine AW.seq_k fun K hK => ?_)
        refine AW.rg ?_
        simp
        try (refine hK _ rfl ?_; clear hK; clear K)
        (repeat refine AW.seq ?_)
        refine AW.cs (fun hi => ?_) (fun hi => ?_) rfl <;> (try simp at hi)
        · refine AW.skip ?_
          try simp
          have w1 : IntKind.i64.wrap ((i + 1 : Nat) : Int) = ((i + 1 : Nat) : Int) := wi (by omega)
          have hib : i < b.length := by omega
          have hmb : rr b i ∈ b := by rw [rr_eq hib]; exact List.getElem_mem hib
          have hvl := rvalid_call (rr b i) (hb _ hmb)
          refine AW.seq_ex (ι := Mem × SolS) (fun _ => [(0, matAV (emb X)), (1, rowAV b), (8, .osl B 1 0 n), (29, rowAV b), (30, .int .i64 (n : Nat)), (31, .int .i64 (i : Nat))]) (fun z => z.1) (fun z => InvSo B X b (i + 1) z.2 ∧ Recast z.1 z.2.M) ?_ ?_
          · (repeat refine AW.seq ?_)
            refine AW.block ?_
            (repeat refine AW.seq_k fun K hK => ?_)
            refine AW.rg ?_
            simp [hib]
            try (refine hK _ rfl ?_; clear hK; clear K)
            refine Fresh.intro fun b10 hb10 => ?_
            refine hK _ rfl ?_
            clear hK
            clear K
            refine AW.turn [(0, matAV (emb X)), (1, rowAV b), (8, .osl B 1 0 n), (9, .int .i64 (i : Nat)), (10, .rptr [.bool (rr b i).n1, lim (rr b i).l1, .bool (rr b i).n2, lim (rr b i).l2]), (29, rowAV b), (30, .int .i64 (n : Nat)), (31, .int .i64 (i : Nat))] M (Recast.drop hb10 k2.ones) ?_ ?_
            · simp
              exact view_temp hb10
            (repeat refine AW.seq_k fun K hK => ?_)
            refine AW.rg ?_
            simp
            try (refine hK _ rfl ?_; clear hK; clear K)
            refine CallK.val hvl ?_
            simp
            refine hK _ rfl ?_
            clear hK
            clear K
            cases hv : (rr b i).ok with
            | false =>
              refine AW.yes ?_ rfl
              (repeat refine AW.seq_k fun K hK => ?_)
              refine AW.rg ?_
              simp
              try (refine hK _ rfl ?_; clear hK; clear K)
              have hno : ¬ okV b := fun h => by have := h i hib; rw [hv] at this; cases this
              rw [hR, if_pos hno]
              exact AW.ret (ret_views [rowAV [], .bool false, .int .i64 1] rfl ⟨.nilsl 4, .same _, .same _, trivial⟩ ⟨rfl, rfl⟩)
            | true =>
              refine AW.no ?_ rfl
              refine AW.skip ?_
              try simp
              refine hK _ rfl ?_
              clear hK
              clear K
              have hsh : shortR (rr b i) := by rw [(ok_good (hb _ hmb) hv).2]; exact short_good (ok_good (hb _ hmb) hv).1
              have hown := own_call (rr b i) hsh.1 hsh.2
              have hWl := wideP_length X (b.map RR.q) i
              have hiE : i < (emb (wideP X (b.map RR.q) i)).length := by rw [emb_length, hWl]; omega
              have hrow : mrow (wideP X (b.map RR.q) i) i = mrow X i := by rw [wideP_row X _ i (by omega) i (by omega), if_neg (by omega)]
              have hgi := k2.1.get hiE
              have hri := k2.1.row i hiE
              have hxl : (mrow X i).length = w := (hG.row hi).2
              have hlE : (mrow (emb (wideP X (b.map RR.q) i)) i).length = w := by rw [emb_row, hrow, List.length_map, hxl]
              rw [hlE] at hgi
              rw [emb_row, hrow] at hri
              have hni := k2.1.ne hiE
              have hbi : i < bs.length := by rw [k2.1.len]; exact hiE
              have hxR : ((mrow X i).map ofQ).length = w := by rw [List.length_map, hxl]
              have hq : rr b i = ofQ (qat (b.map RR.q) i) := by rw [rr_q hib]; exact (ok_good (hb _ hmb) hv).2
              have hhl : (hdrs bs (emb (wideP X (b.map RR.q) i))).length = n := by rw [hdrs_length k2.1.len, emb_length, hWl, hn]
              have hgrow : ∀ b', (M.del (nb bs i)) b' = none → RefM (((M.del (nb bs i)).set b' ⟨36, 4, rrs ((mrow X i ++ [qat (b.map RR.q) i]).map ofQ)⟩).set B ⟨42, 1, (hdrs bs (emb (wideP X (b.map RR.q) i))).set i (.osl b' 4 0 (w + 1))⟩) B (bs.set i b') (wideP X (b.map RR.q) (i + 1)) := fun b' h => by
                have := k2.grow (i := i) (by rw [hWl]; omega) h (mrow X i ++ [qat (b.map RR.q) i])
                rw [List.length_append, hxl] at this
                exact this
              have htop := k2.1.top
              generalize hdrs bs (emb (wideP X (b.map RR.q) i)) = H at *
              (repeat refine AW.seq_k fun K hK => ?_)
              refine AW.rdT [] [10] [] [B] [0,1,2,3,4,5,6,7,8,9,10,11] mix (by simp [hi, htop, hgi, hri, hlE]) (by simp [hi, htop, hgi, hri, hlE]) (by simp [hi, htop, hgi, hri, hlE]) (by simp [hi, htop, hgi, hri, hlE]) (by simp [hi, htop, hgi, hri, hlE]) ?_
              simp [hi, htop, hgi, hri, hlE]
              try (refine hK _ rfl ?_; clear hK; clear K)
              refine CallK.val hown ?_
              simp [hi, htop, hgi, hri, hlE, hni, hhl]
              refine Fresh.introD fun b1 hb1 hb1B => ?_
              have nb1 : nb bs i ≠ b1 := by rintro rfl; rw [hri] at hb1; cases hb1
              rw [if_neg nb1]
              refine ⟨_, rfl, by simp [hxR], by simp [hxR]; omega, by simp [hxR]; unfold maxLen; omega, Fresh.introD fun b' hb' hb'B => ?_⟩
              have nB : B ≠ b' := Ne.symm hb'B
              rw [if_neg nB, if_neg (Ne.symm hni), if_neg (Ne.symm hb1B)]
              have hb2 : (M.del (nb bs i)) b' = none := by
                have hb' : (if b' = nb bs i then none else (M.set b1 ⟨36, 4, [(rr b i).av]⟩) b') = none := hb'
                show (if b' = nb bs i then none else M b') = none
                by_cases e : b' = nb bs i
                · rw [if_pos e]
                · rw [if_neg e] at hb' ⊢
                  simp only [set_at] at hb'
                  by_cases e2 : b' = b1
                  · rw [if_pos e2] at hb'; cases hb'
                  · rwa [if_neg e2] at hb'
              have hgr := hgrow b' hb2
              rw [List.map_append, List.map_singleton, rrs_app, ← hq] at hgr
              refine ⟨_, rfl, rfl, ?_⟩
              rw [rrs_length, hxR]
              simp only [hgi, optK_some]
              refine ⟨⟨_, bs.set i b'⟩, ⟨hgr, fun k hk => ?_⟩, recast_tmp hb1 hgr.ones⟩
              rcases Nat.lt_succ_iff_lt_or_eq.1 hk with h | rfl
              · exact k3 k h
              · exact hv
          rintro ⟨M', M, bs⟩ ⟨hs, hrc⟩
          refine AW.turn [(0, matAV (emb X)), (1, rowAV b), (8, .osl B 1 0 n), (29, rowAV b), (30, .int .i64 (n : Nat)), (31, .int .i64 (i : Nat))] M hrc (by simp) ?_
          (repeat refine AW.seq_k fun K hK => ?_)
          refine AW.rg ?_
          simp [-Int.natCast_add, w1]
          try (refine hK _ rfl ?_; clear hK; clear K)
          exact ⟨i + 1, ⟨M, bs⟩, ⟨hi, hs⟩, by omega, by simp⟩
        · refine AW.exit ?_
          try simp
          have : i = n := by omega
          subst this
          exact ⟨⟨M, bs⟩, ⟨k2, k3⟩, by simp⟩
      rintro ⟨M, bs⟩ ⟨k2, k3⟩
      simp only at k2 k3
      simp only
      have hok : okV b := fun i hi => k3 i (by omega)
      obtain ⟨hbe, hbg⟩ := okV_emb hb hok
      rw [if_neg (by simp [hok])] at hR
      have hbl : (b.map RR.q).length = n := by rw [List.length_map, h1]
      generalize b.map RR.q = bq at *
      have hW := wideQ_good hG hbg hbl
      have hwq : wideP X bq n = wideQ X bq := by unfold wideQ; rw [hn]
      rw [hwq] at k2
      generalize wideQ X bq = Wq at *
      (repeat refine AW.seq_k fun K hK => ?_)
      refine AW.rg ?_
      simp
      try (refine hK _ rfl ?_; clear hK; clear K)
      refine CallK.val hwid ?_
      simp
      refine hK _ rfl ?_
      clear hK
      clear K
      by_cases hw : w = 64
      · rw [if_pos hw] at hR
        rw [hR]
        (repeat refine AW.seq_k fun K hK => ?_)
        refine AW.rg ?_
        simp [hw]
        try (refine hK _ rfl ?_; clear hK; clear K)
        refine AW.yes ?_ rfl
        (repeat refine AW.seq_k fun K hK => ?_)
        refine AW.rg ?_
        simp
        try (refine hK _ rfl ?_; clear hK; clear K)
        exact AW.ret (ret_views [rowAV [], .bool false, .int .i64 2] rfl ⟨.nilsl 4, .same _, .same _, trivial⟩ ⟨rfl, rfl⟩)
      · rw [if_neg hw] at hR
        (repeat refine AW.seq_k fun K hK => ?_)
        refine AW.rg ?_
        simp [hw]
        try (refine hK _ rfl ?_; clear hK; clear K)
        refine AW.no ?_ rfl
        refine AW.skip ?_
        try simp
        refine hK _ rfl ?_
        clear hK
        clear K
        (repeat refine AW.seq_k fun K hK => ?_)
        refine AW.rg ?_
        simp
        try (refine hK _ rfl ?_; clear hK; clear K)
        refine Fresh.intro fun c hc => ?_
        refine hK _ rfl ?_
        clear hK
        clear K
        have hfr := k2.fresh hc
        simp only [List.mem_cons, not_or] at hfr
        have hRd : RedM (M.set c ⟨61, 1, [.agg [.int .i64 0]]⟩) c B bs (emb Wq) (.agg [.int .i64 0]) .nil [] [] :=
          ⟨k2.1.other hfr.1 hfr.2 _, by simp, .inl ⟨rfl, rfl, rfl⟩, by simpa using (k2.2.sub fun a ha => List.mem_cons_of_mem _ ha).set (by simp) _, hfr.1, hfr.2, by simp, by simp, by simp⟩
        have hWl : Wq.length = n := hW.2.2
        have hw' : 0 < n → (mrow Wq 0).length = w + 1 := fun h => (hW.row h).2
        have hdm : dimM Wq (mrow Wq 0).length := fun k hk => by
          rw [hWl] at hk
          rw [(hW.row hk).2, hw' (by omega)]
        have hw40 : (mrow Wq 0).length < 2^40 := by
          rcases Nat.eq_zero_or_pos n with h | h
          · rw [List.eq_nil_of_length_eq_zero (hWl.trans h)]; simp [mrow]
          · rw [hw' h]; omega
        have hrd := nreduce_call _ c B bs Wq _ _ hRd rfl hW.1 hdm rfl (by omega) hw40
        rw [hWl] at hrd
        (repeat refine AW.seq_k fun K hK => ?_)
        refine AW.rg ?_
        simp
        try (refine hK _ rfl ?_; clear hK; clear K)
        refine CallK.whole (by simp) hrd ?_
        rintro v M' ⟨x', q1, q2, q3⟩
        simp
        refine hK _ rfl ?_
        clear hK
        clear K
        cases hq : reduceQ Wq with
        | none =>
          rw [hq] at q3 hR
          have hx' : x'.cells = [.int .i64 2] := q3
          rw [hR]
          (repeat refine AW.seq_k fun K hK => ?_)
          refine AW.rg ?_
          simp [q1, hx']
          try (refine hK _ rfl ?_; clear hK; clear K)
          refine AW.yes ?_ rfl
          (repeat refine AW.seq_k fun K hK => ?_)
          refine AW.rdA c [0, 1, 2, 3, 4, 5, 6] mix (by simp [q1, hx']) ?_
          simp [q1, hx']
          try (refine hK _ rfl ?_; clear hK; clear K)
          exact AW.ret (ret_views [rowAV [], .bool false, .int .i64 2] rfl ⟨.nilsl 4, .same _, .same _, trivial⟩ ⟨rfl, rfl⟩)
        | some z =>
          obtain ⟨Y, ps⟩ := z
          rw [hq] at q3 hR
          obtain ⟨q3, bs', pb, q4⟩ := q3
          have hx' : x'.cells = [.int .i64 0] := q3
          simp only at hR
          have hcol := reduce_keep (n := n) (w := (mrow Wq 0).length) ⟨hW.1, hdm, hWl⟩ hq
          have hsrt := cols_sorted (n := n) (w := (mrow Wq 0).length) (z0 := (Wq, [])) ⟨⟨hW.1, hdm, hWl⟩, by simp, by simp, by simp⟩ (by simp) hq
          obtain ⟨⟨y1, y2, y3⟩, y4, y5, y6⟩ := hcol
          simp only at y1 y2 y3 y4 y5 y6 hsrt
          have hle : ∀ p ∈ ps, p ≤ w := fun p hp => by
            have := y6 p hp
            rcases Nat.eq_zero_or_pos n with h | h
            · have : ps.length = 0 := by omega
              rw [List.eq_nil_of_length_eq_zero this] at hp; cases hp
            · rw [hw' h] at this; omega
          (repeat refine AW.seq_k fun K hK => ?_)
          refine AW.rg ?_
          simp [q1, hx']
          try (refine hK _ rfl ?_; clear hK; clear K)
          refine AW.no ?_ rfl
          refine AW.skip ?_
          try simp
          refine hK _ rfl ?_
          clear hK
          clear K
          have hv := q4.mat.view
          rw [emb_length, y3] at hv
          refine AW.toEmp [(8, matAV (emb Y)), (11, .int .i64 w), (13, .sl 1 (ints ps))] (by simp; exact ⟨hv, q4.piv.view⟩) ?_
          by_cases hwp : w ∈ ps
          · rw [if_pos hwp] at hR
            rw [hR]
            have hne : ps ≠ [] := by rintro rfl; cases hwp
            have hl0 : 0 < ps.length := by cases ps with | nil => exact absurd rfl hne | cons a l => simp
            have hlast := (last_mem hsrt hle hne).2 hwp
            have w2 : IntKind.i64.wrap ((ps.length : Int) - 1) = ((ps.length - 1 : Nat) : Int) := by rw [show ((ps.length : Int) - 1) = ((ps.length - 1 : Nat) : Int) by omega]; exact wi (by omega)
            have hl1 : ps.length - 1 < ps.length := by omega
            have hg : ps.getD (ps.length - 1) 0 = ps[ps.length - 1] := by rw [List.getD_eq_getElem?_getD, List.getElem?_eq_getElem hl1]; rfl
            rw [hg] at hlast
            (repeat refine AW.seq_k fun K hK => ?_)
            refine AW.rg ?_
            simp [hl0, w2, hl1]
            try (refine hK _ rfl ?_; clear hK; clear K)
            refine AW.yes ?_ (by simp [hlast])
            (repeat refine AW.seq_k fun K hK => ?_)
            refine AW.rg ?_
            simp
            try (refine hK _ rfl ?_; clear hK; clear K)
            exact AW.ret (ret_views [rowAV [], .bool false, .int .i64 0] rfl ⟨.nilsl 4, .same _, .same _, trivial⟩ ⟨rfl, rfl⟩)
          · rw [if_neg hwp] at hR
            rw [hR]
            have hlt : ∀ p ∈ ps, p < w := fun p hp => by
              have := hle p hp
              rcases Nat.lt_or_eq_of_le this with h | h
              · exact h
              · subst h; exact absurd hp hwp
            refine AW.seq_ex (ι := Unit) (fun _ => [(8, matAV (emb Y)), (11, .int .i64 w), (13, .sl 1 (ints ps))]) (fun _ => Mem.emp) (fun _ => True) ?_ ?_
            · by_cases hne : ps = []
              · subst hne
                (repeat refine AW.seq_k fun K hK => ?_)
                refine AW.rg ?_
                simp
                try (refine hK _ rfl ?_; clear hK; clear K)
                refine AW.no ?_ rfl
                refine AW.skip ?_
                try simp
              · have hl0 : 0 < ps.length := by cases ps with | nil => exact absurd rfl hne | cons a l => simp
                have w2 : IntKind.i64.wrap ((ps.length : Int) - 1) = ((ps.length - 1 : Nat) : Int) := by rw [show ((ps.length : Int) - 1) = ((ps.length - 1 : Nat) : Int) by omega]; exact wi (by omega)
                have hl1 : ps.length - 1 < ps.length := by omega
                have hlast := mt (last_mem hsrt hle hne).1 hwp
                have hg : ps.getD (ps.length - 1) 0 = ps[ps.length - 1] := by rw [List.getD_eq_getElem?_getD, List.getElem?_eq_getElem hl1]; rfl
                rw [hg] at hlast
                (repeat refine AW.seq_k fun K hK => ?_)
                refine AW.rg ?_
                simp [hl0, w2, hl1]
                try (refine hK _ rfl ?_; clear hK; clear K)
                refine AW.no ?_ (by simp [hlast])
                refine AW.skip ?_
                try simp
            rintro _ -
            have hvec := vector_call w (by omega)
            (repeat refine AW.seq_k fun K hK => ?_)
            refine AW.rg ?_
            simp
            try (refine hK _ rfl ?_; clear hK; clear K)
            refine CallK.make hvec ?_
            rintro bv _ _ ⟨rfl, rfl⟩ hbv _
            simp
            refine hK _ rfl ?_
            clear hK
            clear K
            refine AW.seq_ex (ι := Unit) (fun _ => [(14, .osl bv 4 0 w)]) (fun _ => Mem.emp.set bv ⟨36, 4, rrs ((solV Y ps w).map ofQ)⟩) (fun _ => True) ?_ ?_
            · (repeat refine AW.seq_k fun K hK => ?_)
              refine AW.rg ?_
              simp
              try (refine hK _ rfl ?_; clear hK; clear K)
              refine AW.block (AW.loopS (ι := Nat) (fun k => [(8, matAV (emb Y)), (11, .int .i64 w), (14, .osl bv 4 0 w), (84, .sl 1 (ints ps)), (85, .int .i64 ps.length), (86, .int .i64 (k : Nat))]) (fun k => Mem.emp.set bv ⟨36, 4, rrs ((solF Y ps w k (List.replicate w 0)).map ofQ)⟩) (fun k => k ≤ ps.length) (fun k => ps.length - k) 0 (by simp) ?_ (by simp) ?_)
              · show Mem.emp.set bv _ = Mem.emp.set bv ⟨36, 4, rrs ((List.replicate w (0 : Rat)).map ofQ)⟩
                rw [List.map_replicate]
              rintro k g1
              (repeat refine AW.seq_k fun K hK => ?_)
              refine AW.rg ?_
              simp
              try (refine hK _ rfl ?_; clear hK; clear K)
              (repeat refine AW.seq ?_)
              refine AW.cs (fun hk => ?_) (fun hk => ?_) rfl <;> (try simp at hk)
              · refine AW.skip ?_
                try simp
                have w3 : IntKind.i64.wrap ((k + 1 : Nat) : Int) = ((k + 1 : Nat) : Int) := wi (by omega)
                have hkY : k < Y.length := by omega
                have hkE : k < (emb Y).length := by rw [emb_length]; exact hkY
                have hn0 : 0 < n := by omega
                have hlk : (mrow (emb Y) k).length = w + 1 := by rw [emb_row, List.length_map, y2 k hkY, hw' hn0]
                have hjl : w < (mrow Y k).length := by rw [y2 k hkY, hw' hn0]; omega
                have hel : rr (mrow (emb Y) k) w = ofQ (qel Y k w) := by rw [emb_row, rr_map hjl]; rfl
                have hpk : ps.getD k 0 = ps[k] := by rw [List.getD_eq_getElem?_getD, List.getElem?_eq_getElem hk]; rfl
                have hpw : ps[k] < w := hlt _ (List.getElem_mem hk)
                have hlf : (solF Y ps w k (List.replicate w 0)).length = w := by rw [solF_length]; simp
                have hkn : solF Y ps w (k + 1) (List.replicate w 0) = (solF Y ps w k (List.replicate w 0)).set ps[k] (qel Y k w) := by rw [← hpk]; rfl
                (repeat refine AW.seq ?_)
                refine AW.block ?_
                (repeat refine AW.seq_k fun K hK => ?_)
                refine AW.rg ?_
                simp [hk]
                try (refine hK _ rfl ?_; clear hK; clear K)
                (repeat refine AW.seq_k fun K hK => ?_)
                refine AW.rg ?_
                simp [-Int.natCast_add, hkE, hlk, hel, hpw, hlf]
                try (refine hK _ rfl ?_; clear hK; clear K)
                (repeat refine AW.seq_k fun K hK => ?_)
                refine AW.rg ?_
                simp [-Int.natCast_add, w3]
                try (refine hK _ rfl ?_; clear hK; clear K)
                refine ⟨k + 1, by omega, by omega, ?_, rfl⟩
                rw [hkn, List.map_set, ← rrs_set]
                rfl
              · refine AW.exit ?_
                try simp
                have : k = ps.length := by omega
                subst this
                rfl
            rintro _ -
            (repeat refine AW.seq_k fun K hK => ?_)
            refine AW.rg ?_
            simp
            try (refine hK _ rfl ?_; clear hK; clear K)
            exact AW.ret (ret_views [rowAV ((solV Y ps w).map ofQ), .bool true, .int .i64 0] rfl ⟨view_row (Mem.set_same _ _ _) rfl (by rw [List.length_map, solV_length]), .same _, .same _, trivial⟩ ⟨rfl, rfl⟩)
    · have hR : solR m b = (1, false, []) := by unfold solR; rw [if_neg (by simp [h0]), if_pos h1]
      rw [hR]
      refine acall_S Tryz.func42 rfl rfl 103 rfl (Nat.le_of_ble_eq_true rfl) ?_
      (repeat refine AW.seq_k fun K hK => ?_)
      refine AW.rg ?_
      simp [argsL]
      try (refine hK _ rfl ?_; clear hK; clear K)
      (repeat refine AW.seq_k fun K hK => ?_)
      refine AW.rg ?_
      simp
      try (refine hK _ rfl ?_; clear hK; clear K)
      refine CallK.val hck ?_
      simp
      refine hK _ rfl ?_
      clear hK
      clear K
      (repeat refine AW.seq_k fun K hK => ?_)
      refine AW.rg ?_
      simp
      try (refine hK _ rfl ?_; clear hK; clear K)
      refine AW.no ?_ rfl
      refine AW.skip ?_
      try simp
      refine hK _ rfl ?_
      clear hK
      clear K
      (repeat refine AW.seq_k fun K hK => ?_)
      refine AW.rg ?_
      simp
      try (refine hK _ rfl ?_; clear hK; clear K)
      refine AW.yes ?_ (by simp [h1])
      (repeat refine AW.seq_k fun K hK => ?_)
      refine AW.rg ?_
      simp
      try (refine hK _ rfl ?_; clear hK; clear K)
      exact AW.ret (ret_views [rowAV [], .bool false, .int .i64 1] rfl ⟨.nilsl 4, .same _, .same _, trivial⟩ ⟨rfl, rfl⟩)
  · have hR : solR m b = (chk m, false, []) := by unfold solR; rw [if_pos h0]
    rw [hR]
    generalize chk m = e at *
    refine acall_S Tryz.func42 rfl rfl 103 rfl (Nat.le_of_ble_eq_true rfl) ?_
    (repeat refine AW.seq_k fun K hK => ?_)
    refine AW.rg ?_
    simp [argsL]
    try (refine hK _ rfl ?_; clear hK; clear K)
    (repeat refine AW.seq_k fun K hK => ?_)
    refine AW.rg ?_
    simp
    try (refine hK _ rfl ?_; clear hK; clear K)
    refine CallK.val hck ?_
    simp
    refine hK _ rfl ?_
    clear hK
    clear K
    (repeat refine AW.seq_k fun K hK => ?_)
    refine AW.rg ?_
    simp [h0]
    try (refine hK _ rfl ?_; clear hK; clear K)
    refine AW.yes ?_ rfl
    (repeat refine AW.seq_k fun K hK => ?_)
    refine AW.rg ?_
    simp
    try (refine hK _ rfl ?_; clear hK; clear K)
    exact AW.ret (ret_views [rowAV [], .bool false, .int .i64 e] rfl ⟨.nilsl 4, .same _, .same _, trivial⟩ ⟨rfl, rfl⟩)
end Go.Av
end
