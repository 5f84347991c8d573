/- A part of the proof. -/
import Derived.Test.YtkcdcfcojmlnnaaGreatP5
set_option linter.all false
set_option exponentiation.threshold 5000
set_option maxRecDepth 10000
section
namespace Go.Av
open Go.Proofs
theorem sumN_add_split (k m : Nat) (g : Nat → Rat) : sumN (k + m) g = sumN k g + sumN m fun t => g (k + t) := by
  induction m with
  | zero => show sumN k g = sumN k g + 0; grind
  | succ m ih => rw [show k + (m + 1) = k + m + 1 by omega, sumN_succ, ih, sumN_succ]; grind
theorem sq_nonneg (a : Rat) : 0 ≤ a * a := by
  rcases Rat.le_total (a := 0) (b := a) with h | h
  · exact Rat.mul_nonneg h h
  · have : 0 ≤ (-a) * (-a) := Rat.mul_nonneg (by grind) (by grind)
    grind
theorem sumN_nonneg {n : Nat} {f : Nat → Rat} (h : ∀ i, i < n → 0 ≤ f i) : 0 ≤ sumN n f := by
  induction n with
  | zero => show (0 : Rat) ≤ 0; grind
  | succ n ih =>
    have h1 := ih fun i hi => h i (by omega)
    have h2 := h n (by omega)
    rw [sumN_succ]; grind
theorem sumN_zero_of {n : Nat} {f : Nat → Rat} (h : ∀ i, i < n → 0 ≤ f i) (h0 : sumN n f = 0) : ∀ i, i < n → f i = 0 := by
  induction n with
  | zero => intro i hi; omega
  | succ n ih =>
    have h1 := sumN_nonneg fun i hi => h i (by omega : i < n + 1) |> fun x => x
    have h2 := h n (by omega)
    have h3 : 0 ≤ sumN n f := sumN_nonneg fun i hi => h i (by omega)
    rw [sumN_succ] at h0
    have e1 : sumN n f = 0 := by grind
    have e2 : f n = 0 := by grind
    intro i hi
    by_cases e : i = n
    · rw [e]; exact e2
    · exact ih (fun i hi => h i (by omega)) e1 i (by omega)
theorem signQ_pos {q : Rat} : 0 < signQ q ↔ 0 < q := by
  have h0 := Rat.num_nonneg (q := q)
  have h1 := Rat.num_eq_zero (q := q)
  unfold signQ
  constructor
  · intro h
    split at h
    · omega
    · split at h
      · omega
      · rename_i a b
        have : 0 ≤ q := h0.1 (by omega)
        have : q ≠ 0 := fun e => b (h1.2 e)
        grind
  · intro h
    have a : 0 ≤ q.num := h0.2 (by grind)
    have b : q.num ≠ 0 := fun e => by have := h1.1 e; grind
    rw [if_neg (by omega), if_neg b]; decide
theorem signQ_neg {q : Rat} : signQ q < 0 ↔ q < 0 := by
  have h0 := Rat.num_nonneg (q := q)
  unfold signQ
  constructor
  · intro h
    split at h
    · rename_i a
      have : ¬ 0 ≤ q := fun e => by have := h0.2 e; omega
      grind
    · split at h <;> omega
  · intro h
    have : ¬ 0 ≤ q.num := fun e => by have := h0.1 e; grind
    rw [if_pos (by omega)]; decide
/-! ### Quadratic forms -/
def quadF (n : Nat) (M : Nat → Nat → Rat) (v : Nat → Rat) : Rat := sumN n fun a => sumN n fun b => M a b * v a * v b
theorem quadF_congr {n : Nat} {M M' : Nat → Nat → Rat} {v v' : Nat → Rat} (h : ∀ a b, a < n → b < n → M a b * v a * v b = M' a b * v' a * v' b) : quadF n M v = quadF n M' v' := sumN_congr fun a ha => sumN_congr fun b hb => h a b ha hb
theorem quadF_add (n : Nat) (U V : Nat → Nat → Rat) (v : Nat → Rat) : quadF n (fun a b => U a b + V a b) v = quadF n U v + quadF n V v := by
  unfold quadF
  rw [← sumN_add]
  refine sumN_congr fun a _ => ?_
  rw [← sumN_add]
  exact sumN_congr fun b _ => by grind
theorem quadF_one (n : Nat) (w : Rat) (f v : Nat → Rat) : quadF n (fun a b => w * f a * f b) v = w * (dotV n f v * dotV n f v) := by
  unfold quadF
  have e : ∀ a, sumN n (fun b => w * f a * f b * v a * v b) = w * dotV n f v * (f a * v a) := fun a => by
    rw [show (fun b => w * f a * f b * v a * v b) = fun b => (w * (f a * v a)) * (f b * v b) from funext fun b => by grind, sumN_mul]
    unfold dotV; grind
  rw [sumN_congr fun a _ => e a, sumN_mul]
  show w * dotV n f v * dotV n f v = _
  grind
theorem quadF_sum (n p : Nat) (G : Nat → Nat → Nat → Rat) (v : Nat → Rat) : quadF n (fun a b => sumN p fun k => G k a b) v = sumN p fun k => quadF n (G k) v := by
  induction p with
  | zero =>
    show quadF n (fun _ _ => 0) v = 0
    exact sumN_zero fun a _ => sumN_zero fun b _ => by grind
  | succ p ih =>
    rw [show (fun a b => sumN (p + 1) fun k => G k a b) = fun a b => (sumN p fun k => G k a b) + G p a b from rfl, quadF_add, ih]
    rfl
/-! ### The steps -/
theorem form_spec {n j : Nat} {l : List (List Rat)} {f : List Rat} (hj : j < n) (h : formQ n j l = some f) : f.length = n ∧ (∀ b, j < b → b < n → qat f b = qel l j b / qel l j j) ∧ qat f j = 1 ∧ ∀ b, b < j → qat f b = 0 := by
  obtain ⟨k1, k2, k3⟩ := rowIter (o := j + 1) (op := fun _ k => divQ (qat (mrow l j) k) (qel l j j)) (fun t r => rfl) (by rw [eQ_length]; omega) (show iterO (formStep (mrow l j) (qel l j j) j) (n - (j + 1)) (eQ n j) = some f from h)
  have he : ∀ b, qat (eQ n j) b = if b = j then 1 else 0 := fun b => by
    unfold eQ
    rw [qat_set (by simpa using hj), qat_rep]
  refine ⟨k1.trans (eQ_length n j), fun b h1 h2 => ?_, ?_, fun b hb => ?_⟩
  · have := k2 (b - (j + 1)) (by omega)
    rw [show j + 1 + (b - (j + 1)) = b by omega] at this
    exact divQ_eq this
  · rw [k3 j (by omega), he, if_pos rfl]
  · rw [k3 b (by omega), he, if_neg (by omega)]
theorem splits_spec {n j : Nat} {form : List Rat} : ∀ {s : Nat} {l l' : List (List Rat)}, j + 1 + s ≤ n → matGood n n l → iterO (splitStep n j form) s l = some l' → ∀ a b, b < n → qel l' a b = if j + 1 ≤ a ∧ a < j + 1 + s ∧ j + 1 ≤ b then qel l a b - qat form a * qel l j b else qel l a b
  | 0, l, l', _, h, he => by
    cases he
    intro a b _
    rw [if_neg (by omega)]
  | s + 1, l, l', hs, h, he => by
    rw [iterO_succ] at he
    cases hm : iterO (splitStep n j form) s l with
    | none => rw [hm] at he; cases he
    | some U =>
      rw [hm] at he
      obtain ⟨k1, k2⟩ := splits_keep (by omega) h hm
      have g := splits_spec (by omega) h hm
      replace he : (iterO (sqRow (mrow U j) (qat form (j + 1 + s)) j) (n - (j + 1)) (mrow U (j + 1 + s))).map (U.set (j + 1 + s)) = some l' := he
      cases hr : iterO (sqRow (mrow U j) (qat form (j + 1 + s)) j) (n - (j + 1)) (mrow U (j + 1 + s)) with
      | none => rw [hr] at he; cases he
      | some row =>
        rw [hr] at he
        cases he
        have hl : (mrow U (j + 1 + s)).length = n := (k1.row (by omega)).2
        obtain ⟨r1, r2, r3⟩ := rowIter (o := j + 1) (op := fun q k => lessQ q (qat (mrow U j) k) (qat form (j + 1 + s))) (fun t r => rfl) (by omega) hr
        intro a b hb
        rw [qel_set (by rw [k1.2.2]; omega)]
        by_cases e : a = j + 1 + s
        · rw [if_pos e]
          by_cases e2 : j + 1 ≤ b
          · rw [if_pos (by omega)]
            have := r2 (b - (j + 1)) (by omega)
            rw [show j + 1 + (b - (j + 1)) = b by omega] at this
            rw [lessQ_eq this, k2]
            have := g (j + 1 + s) b hb
            rw [if_neg (by omega)] at this
            rw [show qat (mrow U (j + 1 + s)) b = qel U (j + 1 + s) b from rfl, this, e]
            rfl
          · rw [if_neg (by omega), r3 b (by omega), e]
            have := g (j + 1 + s) b hb
            rw [if_neg (by omega)] at this
            exact this
        · rw [if_neg e, g a b hb]
          by_cases e2 : j + 1 ≤ a ∧ a < j + 1 + s ∧ j + 1 ≤ b
          · rw [if_pos e2, if_pos (by omega)]
          · rw [if_neg e2, if_neg (by omega)]
/-- The weights times the forms. -/
def formSum (ws : List Rat) (ff : List (List Rat)) (a b : Nat) : Rat := sumN ws.length fun k => qat ws k * qel ff k a * qel ff k b
structure SqInv (n j : Nat) (X : Nat → Nat → Rat) (l : List (List Rat)) (ws : List Rat) (fs : List (Option (List Rat))) : Prop where
  good : matGood n n l
  fl : fs.length = n
  sym : ∀ a b, j ≤ a → a < n → j ≤ b → b < n → qel l a b = qel l b a
  frm : ∀ i f, fs.getD i none = some f → i < j ∧ qat f i = 1 ∧ ∀ b, b < i → qat f b = 0
  eq : ∀ a b, a < n → b < n → X a b = formSum ws (fs.filterMap id) a b + if j ≤ a ∧ j ≤ b then qel l a b else 0
  pos : ∀ k, k < ws.length → 0 < qat ws k
  len : (fs.filterMap id).length = ws.length
theorem filter_set {fs : List (Option (List Rat))} {j : Nat} (hj : j < fs.length) (h : ∀ i, j ≤ i → fs.getD i none = none) (f : List Rat) : (fs.set j (some f)).filterMap id = fs.filterMap id ++ [f] := by
  have h0 : ∀ i, j ≤ i → (fs.drop i).filterMap id = [] := fun i hi => by
    rw [List.filterMap_eq_nil_iff]
    intro o ho
    obtain ⟨k, hk, e⟩ := List.mem_iff_getElem.1 ho
    rw [List.length_drop] at hk
    rw [List.getElem_drop] at e
    have := h (i + k) (by omega)
    rw [List.getD_eq_getElem?_getD, List.getElem?_eq_getElem (by omega), e] at this
    exact this
  have e1 : fs.filterMap id = (fs.take j).filterMap id := by
    conv => lhs; rw [← List.take_append_drop j fs]
    rw [List.filterMap_append, h0 j (Nat.le_refl _), List.append_nil]
  rw [List.set_eq_take_append_cons_drop, if_pos hj, List.filterMap_append, List.filterMap_cons, ← e1, h0 (j + 1) (by omega)]
  rfl
theorem formSum_snoc {ws : List Rat} {ff : List (List Rat)} {w : Rat} {f : List Rat} (h : ff.length = ws.length) (a b : Nat) : formSum (ws ++ [w]) (ff ++ [f]) a b = formSum ws ff a b + w * qat f a * qat f b := by
  unfold formSum
  rw [List.length_append, List.length_singleton, sumN_succ]
  congr 1
  · refine sumN_congr fun k hk => ?_
    rw [qat_snoc, if_pos hk]
    unfold qel
    rw [mrow_snoc' k, if_pos (by omega)]
  · rw [qat_snoc, if_neg (Nat.lt_irrefl _), if_pos rfl]
    unfold qel
    rw [mrow_snoc' ws.length, if_neg (by omega), if_pos h.symm]
theorem SqInv.go {n j : Nat} {X : Nat → Nat → Rat} {l : List (List Rat)} {ws : List Rat} {fs : List (Option (List Rat))} (h : SqInv n j X l ws fs) (hj : j < n) (hp : 0 < qel l j j) {z : List Rat × List (List Rat)} (hz : splitQ n j l = some z) : SqInv n (j + 1) X z.2 (ws ++ [qel l j j]) (fs.set j (some z.1)) := by
  have hk := split_keep hj h.good (by intro e; rw [e] at hp; revert hp; decide) hz
  unfold splitQ at hz
  cases hf : formQ n j l with
  | none => rw [hf] at hz; cases hz
  | some f =>
    rw [hf] at hz
    replace hz : (iterO (splitStep n j f) (n - (j + 1)) l).map (fun l' => (f, l')) = some z := hz
    cases hi : iterO (splitStep n j f) (n - (j + 1)) l with
    | none => rw [hi] at hz; cases hz
    | some l' =>
      rw [hi] at hz
      cases hz
      obtain ⟨f1, f2, f3, f4⟩ := form_spec hj hf
      have hs := splits_spec (by omega) h.good hi
      have hsp : ∀ a b, j < a → a < n → j < b → b < n → qel l' a b = qel l a b - qel l j a / qel l j j * qel l j b := fun a b h1 h2 h3 h4 => by
        rw [hs a b h4, if_pos (by omega), f2 a h1 h2]
      have hnone : ∀ i, j ≤ i → fs.getD i none = none := fun i hi => by
        cases hh : fs.getD i none with
        | none => rfl
        | some g => have := (h.frm i g hh).1; omega
      have hd : qel l j j ≠ 0 := by intro e; rw [e] at hp; revert hp; decide
      refine ⟨hk.2.2, by rw [List.length_set]; exact h.fl, fun a b h1 h2 h3 h4 => ?_, fun i g hg => ?_, fun a b ha hb => ?_, fun k hk => ?_, ?_⟩
      · rw [hsp a b (by omega) h2 (by omega) h4, hsp b a (by omega) h4 (by omega) h2, h.sym a b (by omega) h2 (by omega) h4]; grind
      · rw [List.getD_eq_getElem?_getD, List.getElem?_set] at hg
        by_cases e : j = i
        · rw [if_pos e, if_pos (by rw [h.fl]; exact hj)] at hg
          cases hg
          subst e
          exact ⟨by omega, f3, f4⟩
        · rw [if_neg e, ← List.getD_eq_getElem?_getD] at hg
          obtain ⟨g1, g2⟩ := h.frm i g hg
          exact ⟨by omega, g2⟩
      · rw [filter_set (by rw [h.fl]; exact hj) hnone, formSum_snoc h.len, h.eq a b ha hb]
        show _ + (if j ≤ a ∧ j ≤ b then qel l a b else 0) = _ + qel l j j * qat f a * qat f b + (if j + 1 ≤ a ∧ j + 1 ≤ b then qel l' a b else 0)
        by_cases ea : a < j
        · rw [if_neg (by omega), if_neg (by omega), f4 a ea]; grind
        · by_cases eb : b < j
          · rw [if_neg (by omega), if_neg (by omega), f4 b eb]; grind
          · rw [if_pos (by omega)]
            by_cases ea2 : a = j
            · rw [if_neg (by omega), ea2, f3]
              by_cases eb2 : b = j
              · rw [eb2, f3]; grind
              · rw [f2 b (by omega) hb]; grind
            · by_cases eb2 : b = j
              · rw [if_neg (by omega), eb2, f3, f2 a (by omega) ha, h.sym a j (by omega) ha (by omega) hj]; grind
              · rw [if_pos (by omega), f2 a (by omega) ha, f2 b (by omega) hb, hsp a b (by omega) ha (by omega) hb]; grind
      · rw [qat_snoc]
        by_cases e : k < ws.length
        · rw [if_pos e]; exact h.pos k e
        · have : k = ws.length := by rw [List.length_append, List.length_singleton] at hk; omega
          rw [if_neg e, if_pos this]; exact hp
      · rw [filter_set (by rw [h.fl]; exact hj) hnone, List.length_append, List.length_append, h.len]; rfl
theorem SqInv.skip {n j : Nat} {X : Nat → Nat → Rat} {l : List (List Rat)} {ws : List Rat} {fs : List (Option (List Rat))} (h : SqInv n j X l ws fs) (hj : j < n) (h0 : ∀ b, j ≤ b → b < n → qel l j b = 0) : SqInv n (j + 1) X l ws fs :=
  ⟨h.good, h.fl, fun a b h1 h2 h3 h4 => h.sym a b (by omega) h2 (by omega) h4, fun i f hf => ⟨by have := (h.frm i f hf).1; omega, (h.frm i f hf).2⟩, fun a b ha hb => by
    rw [h.eq a b ha hb]
    congr 1
    by_cases e : j + 1 ≤ a ∧ j + 1 ≤ b
    · rw [if_pos e, if_pos (by omega)]
    · rw [if_neg e]
      by_cases e2 : j ≤ a ∧ j ≤ b
      · rw [if_pos e2]
        by_cases e3 : a = j
        · rw [e3]; exact h0 b e2.2 hb
        · have : b = j := by omega
          rw [this, h.sym a j e2.1 ha (Nat.le_refl _) hj]; exact h0 a e2.1 ha
      · rw [if_neg e2], h.pos, h.len⟩
/-! ### The vector -/
theorem dot_eq {form v : List Rat} {i : Nat} : ∀ {m : Nat} {s : Rat}, iterO (dotStep form v i) m 0 = some s → s = sumN m fun t => qat form (i + 1 + t) * qat v (i + 1 + t)
  | 0, s, h => by cases h; rfl
  | m + 1, s, h => by
    rw [iterO_succ] at h
    cases hm : iterO (dotStep form v i) m 0 with
    | none => rw [hm] at h; cases h
    | some u =>
      rw [hm] at h
      replace h : (mulQ (qat form (i + 1 + m)) (qat v (i + 1 + m))).bind (addQ u) = some s := h
      cases hp : mulQ (qat form (i + 1 + m)) (qat v (i + 1 + m)) with
      | none => rw [hp] at h; cases h
      | some p => rw [hp] at h; rw [addQ_eq h, mulQ_eq hp, dot_eq hm]; rfl
theorem dot_split {n i : Nat} {f v : Nat → Rat} (hi : i < n) (h1 : f i = 1) (h0 : ∀ b, b < i → f b = 0) : dotV n f v = v i + sumN (n - (i + 1)) fun t => f (i + 1 + t) * v (i + 1 + t) := by
  unfold dotV
  conv => lhs; rw [show n = i + 1 + (n - (i + 1)) by omega]
  rw [sumN_add_split, sumN_succ, sumN_zero fun b hb => by rw [h0 b hb]; grind, h1]; grind
theorem ext_spec {n j : Nat} {fs : List (Option (List Rat))} (hj : j ≤ n) (hf : ∀ i f, fs.getD i none = some f → i < j ∧ qat f i = 1 ∧ ∀ b, b < i → qat f b = 0) : ∀ {t : Nat} {v v' : List Rat}, t ≤ j → v.length = n → iterO (extStep fs n j) t v = some v' →
    v'.length = n ∧ (∀ b, j ≤ b → qat v' b = qat v b) ∧ ∀ i f, j ≤ i + t → fs.getD i none = some f → dotV n (qat f) (qat v') = 0
  | 0, v, v', _, hl, h => by
    cases h
    exact ⟨hl, fun _ _ => rfl, fun i f h1 h2 => by have := (hf i f h2).1; omega⟩
  | t + 1, v, v', ht, hl, h => by
    rw [iterO_succ] at h
    cases hm : iterO (extStep fs n j) t v with
    | none => rw [hm] at h; cases h
    | some u =>
      rw [hm] at h
      obtain ⟨g1, g2, g3⟩ := ext_spec hj hf (by omega) hl hm
      replace h : extStep fs n j t u = some v' := h
      unfold extStep at h
      cases hd : fs.getD (j - 1 - t) none with
      | none =>
        rw [hd] at h
        cases h
        refine ⟨g1, g2, fun i f h1 h2 => g3 i f ?_ h2⟩
        have : i ≠ j - 1 - t := fun e => by rw [e, hd] at h2; cases h2
        omega
      | some form =>
        rw [hd] at h
        simp only at h
        obtain ⟨p1, p2, p3⟩ := hf _ _ hd
        cases hs : dotQ form u (j - 1 - t) n with
        | none => rw [hs] at h; cases h
        | some s =>
          rw [hs] at h
          replace h : (subQ 0 s).map (u.set (j - 1 - t)) = some v' := h
          cases hb : subQ 0 s with
          | none => rw [hb] at h; cases h
          | some x =>
            rw [hb] at h
            cases h
            have hx := subQ_eq hb
            have hds := dot_eq (show iterO (dotStep form u (j - 1 - t)) (n - (j - 1 - t + 1)) 0 = some s from hs)
            have hset : ∀ b, qat (u.set (j - 1 - t) x) b = if b = j - 1 - t then x else qat u b := fun b => qat_set (by omega) x b
            refine ⟨by rw [List.length_set]; exact g1, fun b hb => ?_, fun i f h1 h2 => ?_⟩
            · rw [hset, if_neg (by omega)]; exact g2 b hb
            · by_cases e : i = j - 1 - t
              · subst e
                rw [hd] at h2
                cases h2
                rw [dot_split (by omega) p2 p3, hset, if_pos rfl, hx, hds]
                rw [sumN_congr (n := n - (j - 1 - t + 1)) (f := fun k => qat form (j - 1 - t + 1 + k) * qat (u.set (j - 1 - t) (0 - sumN (n - (j - 1 - t + 1)) fun t_1 => qat form (j - 1 - t + 1 + t_1) * qat u (j - 1 - t + 1 + t_1))) (j - 1 - t + 1 + k)) (g := fun k => qat form (j - 1 - t + 1 + k) * qat u (j - 1 - t + 1 + k)) fun k _ => by
                  rw [qat_set (by omega), if_neg (by omega)]]
                grind
              · have hq := hf i f h2
                rw [← g3 i f (by omega) h2]
                refine sumN_congr fun b _ => ?_
                rw [hset]
                by_cases e2 : b = j - 1 - t
                · rw [hq.2.2 b (by omega)]; grind
                · rw [if_neg e2]
theorem form_mem {fs : List (Option (List Rat))} {k : Nat} (h : k < (fs.filterMap id).length) : ∃ i, fs.getD i none = some (mrow (fs.filterMap id) k) := by
  have : mrow (fs.filterMap id) k ∈ fs.filterMap id := by rw [mrow_eq h]; exact List.getElem_mem h
  rw [List.mem_filterMap] at this
  obtain ⟨o, ho, e⟩ := this
  obtain ⟨i, hi, e2⟩ := List.mem_iff_getElem.1 ho
  refine ⟨i, ?_⟩
  rw [List.getD_eq_getElem?_getD, List.getElem?_eq_getElem hi, e2]
  exact e
theorem SqInv.vec {n j : Nat} {X : Nat → Nat → Rat} {l : List (List Rat)} {ws : List Rat} {fs : List (Option (List Rat))} (h : SqInv n j X l ws fs) (hj : j < n) {v v' : List Rat} (hl : v.length = n) (he : extQ fs n j v = some v') : quadF n X (qat v') = quadF n (fun a b => if j ≤ a ∧ j ≤ b then qel l a b else 0) (qat v) := by
  obtain ⟨g1, g2, g3⟩ := ext_spec (by omega) h.frm (Nat.le_refl _) hl (show iterO (extStep fs n j) j v = some v' from he)
  rw [quadF_congr (M' := fun a b => formSum ws (fs.filterMap id) a b + if j ≤ a ∧ j ≤ b then qel l a b else 0) (v' := qat v') fun a b ha hb => by rw [h.eq a b ha hb], quadF_add]
  have e1 : quadF n (formSum ws (fs.filterMap id)) (qat v') = 0 := by
    unfold formSum
    rw [quadF_sum]
    refine sumN_zero fun k hk => ?_
    rw [quadF_one n (qat ws k) (qel (fs.filterMap id) k)]
    obtain ⟨i, hi⟩ := form_mem (fs := fs) (k := k) (by rw [h.len]; exact hk)
    rw [show dotV n (qel (fs.filterMap id) k) (qat v') = 0 from g3 i _ (by omega) hi]
    grind
  rw [e1]
  have e2 : quadF n (fun a b => if j ≤ a ∧ j ≤ b then qel l a b else 0) (qat v') = quadF n (fun a b => if j ≤ a ∧ j ≤ b then qel l a b else 0) (qat v) := quadF_congr fun a b _ _ => by
    by_cases e : j ≤ a ∧ j ≤ b
    · rw [g2 a e.1, g2 b e.2]
    · rw [if_neg e]; grind
  rw [e2]; grind
theorem qat_e {n j : Nat} (hj : j < n) (b : Nat) : qat (eQ n j) b = if b = j then 1 else 0 := by
  unfold eQ
  rw [qat_set (by simpa using hj), qat_rep]
theorem quad_e {n j : Nat} (hj : j < n) (R : Nat → Nat → Rat) : quadF n R (qat (eQ n j)) = R j j := by
  unfold quadF
  rw [sumN_single hj fun a _ hn => sumN_zero fun b _ => by rw [qat_e hj a, if_neg hn]; grind, sumN_single hj fun b _ hn => by rw [qat_e hj b, if_neg hn]; grind, qat_e hj j, if_pos rfl]; grind
theorem quad_two {n j k : Nat} (hj : j < n) (hk : k < n) (hne : j ≠ k) (t : Rat) (R : Nat → Nat → Rat) : quadF n R (qat (((eQ n j).set k 1).set j t)) = R j j * t * t + R j k * t + R k j * t + R k k := by
  have hq : ∀ b, qat (((eQ n j).set k 1).set j t) b = if b = j then t else if b = k then 1 else 0 := fun b => by
    rw [qat_set (by rw [List.length_set, eQ_length]; exact hj)]
    by_cases e : b = j
    · rw [if_pos e, if_pos e]
    · rw [if_neg e, if_neg e, qat_set (by rw [eQ_length]; exact hk), qat_e hj, if_neg e]
  unfold quadF
  have e0 : ∀ a, sumN n (fun b => R a b * qat (((eQ n j).set k 1).set j t) a * qat (((eQ n j).set k 1).set j t) b) = R a j * qat (((eQ n j).set k 1).set j t) a * t + R a k * qat (((eQ n j).set k 1).set j t) a := fun a => by
    have hs := sumN_congr (n := n) (f := fun b => R a b * qat (((eQ n j).set k 1).set j t) a * qat (((eQ n j).set k 1).set j t) b) (g := fun i => (if i = j then R a j * qat (((eQ n j).set k 1).set j t) a * t else 0) + if i = k then R a k * qat (((eQ n j).set k 1).set j t) a else 0) fun i _ => by
      rw [hq i]
      by_cases h1 : i = j
      · subst h1; rw [if_pos rfl, if_pos rfl, if_neg hne]; grind
      · by_cases h2 : i = k
        · subst h2; rw [if_neg h1, if_neg h1, if_pos rfl, if_pos rfl]; grind
        · rw [if_neg h1, if_neg h1, if_neg h2, if_neg h2]; grind
    rw [hs, sumN_add, sumN_single hj fun i _ h => if_neg h, sumN_single hk fun i _ h => if_neg h, if_pos rfl, if_pos rfl]
  rw [sumN_congr fun a _ => e0 a]
  have hs := sumN_congr (n := n) (f := fun a => R a j * qat (((eQ n j).set k 1).set j t) a * t + R a k * qat (((eQ n j).set k 1).set j t) a) (g := fun i => (if i = j then R j j * t * t + R j k * t else 0) + if i = k then R k j * t + R k k else 0) fun i _ => by
    rw [hq i]
    by_cases h1 : i = j
    · subst h1; rw [if_pos rfl, if_pos rfl, if_neg hne]; grind
    · by_cases h2 : i = k
      · subst h2; rw [if_neg h1, if_neg h1, if_pos rfl, if_pos rfl]; grind
      · rw [if_neg h1, if_neg h1, if_neg h2, if_neg h2]; grind
  rw [hs, sumN_add, sumN_single hj fun i _ h => if_neg h, sumN_single hk fun i _ h => if_neg h, if_pos rfl, if_pos rfl]
  grind
theorem besideQ_none' {row : List Rat} {j : Nat} (h : besideQ row j = none) : ∀ k, j < k → k < row.length → qat row k = 0 := by
  unfold besideQ at h
  rw [List.find?_eq_none] at h
  intro k h1 h2
  have := h k (List.mem_range.2 h2)
  simp [h1] at this
  exact this
/-- What Squares finds. -/
def sqSound (n j : Nat) (X : Nat → Nat → Rat) : SqO → Prop
  | .err => True
  | .vec v => rowGood v ∧ v.length = n ∧ quadF n X (qat v) < 0
  | .go l ws fs => SqInv n j X l ws fs
theorem sq_sound {n : Nat} {X : List (List Rat)} (hX : matGood n n X) (hs : symm X n) : ∀ {j : Nat}, j ≤ n → sqSound n j (qel X) (sqIter n X j)
  | 0, _ => by
    refine ⟨hX, by simp, fun a b _ ha _ hb => ?_, fun i f h => ?_, fun a b _ _ => ?_, fun k hk => (by simp at hk), ?_⟩
    · rcases Nat.lt_trichotomy a b with e | e | e
      · exact (hs b hb a e).symm
      · rw [e]
      · exact hs a ha b e
    · rw [List.getD_eq_getElem?_getD, List.getElem?_replicate] at h
      split at h <;> cases h
    · rw [if_pos (by omega)]
      show qel X a b = 0 + _
      grind
    · have : (List.replicate n (none : Option (List Rat))).filterMap id = [] := by
        rw [List.filterMap_eq_nil_iff]
        intro o ho
        rw [List.eq_of_mem_replicate ho]; rfl
      rw [this]; rfl
  | j + 1, hj => by
    have ih := sq_sound hX hs (j := j) (by omega)
    have ihg := sqIter_good hX (j := j + 1) hj
    cases hm : sqIter n X j with
    | err => rw [sqIter_err hm 1]; trivial
    | vec v => rw [sqIter_vec hm 1]; rw [hm] at ih; exact ih
    | go l ws fs =>
      rw [sqIter_go hm] at ihg ⊢
      rw [hm] at ih
      have ih : SqInv n j (qel X) l ws fs := ih
      have hrl : (mrow l j).length = n := (ih.good.row (by omega)).2
      unfold sqStep at ihg ⊢
      by_cases hp : 0 < signQ (qel l j j)
      · rw [if_pos hp]
        cases hq : splitQ n j l with
        | none => trivial
        | some z => exact ih.go (by omega) (signQ_pos.1 hp) hq
      · rw [if_neg hp] at ihg ⊢
        cases hl : lowQ n j l with
        | none => trivial
        | some o =>
          rw [hl] at ihg
          cases o with
          | none =>
            refine ih.skip (by omega) fun b h1 h2 => ?_
            unfold lowQ at hl
            by_cases hn : signQ (qel l j j) < 0
            · rw [if_pos hn] at hl; cases hl
            · rw [if_neg hn] at hl
              cases hb : besideQ (mrow l j) j with
              | some k =>
                rw [hb] at hl
                simp only at hl
                cases hc : crossQ n j k l with
                | none => rw [hc] at hl; cases hl
                | some w => rw [hc] at hl; cases hl
              | none =>
                by_cases e : b = j
                · rw [e]; exact signQ_zero.1 (by omega)
                · exact besideQ_none' hb b (by omega) (by omega)
          | some v =>
            simp only at ihg ⊢
            cases he : extQ fs n j v with
            | none => trivial
            | some v' =>
              rw [he] at ihg
              refine ⟨ihg.1, ihg.2, ?_⟩
              have hjn : j < n := by omega
              unfold lowQ at hl
              by_cases hn : signQ (qel l j j) < 0
              · rw [if_pos hn] at hl
                cases hl
                rw [ih.vec hjn (eQ_length n j) he, quad_e hjn, if_pos ⟨Nat.le_refl _, Nat.le_refl _⟩]
                exact signQ_neg.1 hn
              · rw [if_neg hn] at hl
                have h00 : qel l j j = 0 := signQ_zero.1 (by omega)
                cases hb : besideQ (mrow l j) j with
                | none => rw [hb] at hl; cases hl
                | some k =>
                  rw [hb] at hl
                  obtain ⟨k1, k2, k3⟩ := besideQ_prop hb
                  rw [hrl] at k2
                  simp only at hl
                  cases hc : crossQ n j k l with
                  | none => rw [hc] at hl; cases hl
                  | some w =>
                    rw [hc] at hl
                    cases hl
                    unfold crossQ at hc
                    cases c1 : addQ (qel l k k) 1 with
                    | none => rw [c1] at hc; cases hc
                    | some s0 =>
                      rw [c1] at hc
                      simp only [Option.bind_some] at hc
                      cases c2 : subQ 0 s0 with
                      | none => rw [c2] at hc; cases hc
                      | some s =>
                        rw [c2] at hc
                        simp only [Option.bind_some] at hc
                        cases c3 : addQ (qel l j k) (qel l j k) with
                        | none => rw [c3] at hc; cases hc
                        | some d =>
                          rw [c3] at hc
                          simp only [Option.bind_some] at hc
                          cases c4 : divQ s d with
                          | none => rw [c4] at hc; cases hc
                          | some t =>
                            rw [c4] at hc
                            cases hc
                            have ht := divQ_eq c4
                            have hs := subQ_eq c2
                            have hs0 := addQ_eq c1
                            have hd := addQ_eq c3
                            have hjk : qel l j k ≠ 0 := k3
                            rw [ih.vec hjn (by rw [List.length_set, List.length_set, eQ_length]) he, quad_two hjn k2 (by omega), if_pos ⟨by omega, by omega⟩, if_pos ⟨by omega, by omega⟩, if_pos ⟨by omega, by omega⟩, if_pos ⟨by omega, by omega⟩, h00, ih.sym k j (by omega) k2 (Nat.le_refl _) hjn]
                            have e : qel l j k * t + qel l j k * t = -(qel l k k + 1) := by
                              rw [ht, hs, hs0, hd]; grind
                            grind
end Go.Av
end
section
namespace Go.Av
open Go.Proofs
theorem times_cases {A B : List (List Rat)} {n m w : Nat} (hA : matGood n m A) (hB : matGood m w B) (hn : 0 < n) (hm : 0 < m) (h1 : n ≤ 64) (h2 : m ≤ 64) (h3 : w ≤ 64) : timR (emb A) (emb B) = (2, []) ∨ ∃ Z, timR (emb A) (emb B) = (0, Z) ∧ timesQ A B = some Z ∧ matGood n w Z := by
  have wa : (mrow A 0).length = m := (hA.row hn).2
  have wb : (mrow B 0).length = w := (hB.row hm).2
  unfold timR
  rw [if_neg (by rw [chk_good hA wa h1 h2]; simp), if_neg (by rw [chk_good hB wb h2 h3]; simp), if_neg (by rw [emb_row, List.length_map, wa, emb_length, hB.2.2]; simp), unq_emb, unq_emb]
  cases hq : timesQ A B with
  | none => exact .inl rfl
  | some Z =>
    refine .inr ⟨Z, rfl, rfl, ?_⟩
    have := tm_keep hq
    rwa [wb, hA.2.2] at this
end Go.Av
end
section
namespace Go.Av
open Go.Proofs
theorem sq_facts {n : Nat} {P : List (List Rat)} (hP : matGood n n P) (hs : symm P n) (hn : n ≤ 64) : sqR (emb P) = ⟨2, [], [], []⟩ ∨ (∃ v, sqR (emb P) = ⟨0, [], [], v⟩ ∧ rowGood v ∧ v.length = n ∧ quadF n (qel P) (qat v) < 0) ∨
    ∃ l ws fs, sqR (emb P) = ⟨0, ws, fs.filterMap id, []⟩ ∧ SqInv n n (qel P) l ws fs ∧ rowGood ws ∧ ws.length ≤ n ∧ matGood ws.length n (fs.filterMap id) := by
  have hw : (mrow P 0).length = n := by
    rcases Nat.eq_zero_or_pos n with h | h
    · rw [List.eq_nil_of_length_eq_zero (hP.2.2.trans h), h]; rfl
    · exact (hP.row h).2
  have hR : sqR (emb P) = sqOut (sqIter n P n) := by
    unfold sqR
    rw [if_neg (by rw [chk_good hP hw hn hn]; simp), unq_emb, emb_length, hP.2.2, emb_row, List.length_map, hw, if_pos ⟨rfl, hs⟩]
  have h := sq_sound hP hs (Nat.le_refl n)
  have hg := sqIter_good hP (Nat.le_refl n)
  rw [hR]
  cases hm : sqIter n P n with
  | err => exact .inl rfl
  | vec v =>
    rw [hm] at h
    exact .inr (.inl ⟨v, rfl, h.1, h.2.1, h.2.2⟩)
  | go l ws fs =>
    rw [hm] at h hg
    have h : SqInv n n (qel P) l ws fs := h
    obtain ⟨g1, g2, g3, g4, g5⟩ := hg
    refine .inr (.inr ⟨l, ws, fs, rfl, h, g2, g3, ?_⟩)
    have hf : ∀ f ∈ fs.filterMap id, rowGood f ∧ f.length = n := by
      intro f hf
      rw [List.mem_filterMap] at hf
      obtain ⟨o, ho, e⟩ := hf
      simp at e
      subst e
      obtain ⟨i, hi, e⟩ := List.mem_iff_getElem.1 ho
      exact g4 i f (by rw [List.getD_eq_getElem?_getD, List.getElem?_eq_getElem hi, e]; rfl)
    refine ⟨fun r hr => (hf r hr).1, fun i hi => ?_, h.len⟩
    have : mrow (fs.filterMap id) i ∈ fs.filterMap id := by rw [mrow_eq hi]; exact List.getElem_mem _
    exact (hf _ this).2
def cM (b : Nat) (s : Rat) : Mem := Mem.emp.set b ⟨36, 4, [(ofQ s).av]⟩
set_option maxHeartbeats 1000000
end Go.Av
end
section
namespace Go.Av
open Go.Proofs
theorem sumN_skip : ∀ {n k0 : Nat} (g : Nat → Rat), k0 ≤ n → sumN (n + 1) g = g k0 + sumN n fun k => g (skipN k0 k)
  | 0, k0, g, h => by
    have : k0 = 0 := by omega
    subst this
    show 0 + g 0 = g 0 + 0
    grind
  | n + 1, k0, g, h => by
    rw [sumN_succ]
    by_cases e : k0 = n + 1
    · subst e
      rw [sumN_congr (f := fun k => g (skipN (n + 1) k)) (g := g) fun k hk => by
        show g (skipN (n + 1) k) = g k
        rw [show skipN (n + 1) k = k from if_pos hk]]
      grind
    · rw [sumN_skip g (show k0 ≤ n by omega), sumN_succ]; rw [show skipN k0 n = n + 1 from if_neg (by omega)]
      grind
/-- Fewer equations than unknowns. -/
theorem hom_sol : ∀ (m n : Nat) (A : Nat → Nat → Rat), m < n → ∃ u : Nat → Rat, (∃ k, k < n ∧ u k ≠ 0) ∧ ∀ i, i < m → sumN n (fun k => A i k * u k) = 0
  | 0, n, A, h => ⟨fun k => if k = 0 then 1 else 0, ⟨0, h, by dsimp only; rw [if_pos rfl]; decide⟩, fun i hi => by omega⟩
  | m + 1, n, A, h => by
    by_cases hz : ∃ k, k < n ∧ A m k ≠ 0
    · obtain ⟨k0, hk0, hne⟩ := hz
      obtain ⟨u', ⟨k1, hk1, hu1⟩, hu2⟩ := hom_sol m (n - 1) (fun i k => A i (skipN k0 k) - A i k0 / A m k0 * A m (skipN k0 k)) (by omega)
      let c : Rat := -(sumN (n - 1) fun k => A m (skipN k0 k) * u' k) / A m k0
      have hn : n = n - 1 + 1 := by omega
      have hsk : ∀ k, (if skipN k0 k = k0 then c else u' (if skipN k0 k < k0 then skipN k0 k else skipN k0 k - 1)) = u' k := fun k => by
        by_cases q : k < k0
        · rw [show skipN k0 k = k from if_pos q, if_neg (by omega), if_pos q]
        · rw [show skipN k0 k = k + 1 from if_neg q, if_neg (by omega), if_neg (by omega), Nat.add_sub_cancel]
      refine ⟨fun k => if k = k0 then c else u' (if k < k0 then k else k - 1), ⟨skipN k0 k1, by rw [hn]; exact skip_lt hk1, by dsimp only; rw [hsk]; exact hu1⟩, fun i hi => ?_⟩
      have hsum : ∀ i, sumN n (fun k => A i k * if k = k0 then c else u' (if k < k0 then k else k - 1)) = A i k0 * c + sumN (n - 1) fun k => A i (skipN k0 k) * u' k := fun i => by
        conv => lhs; rw [hn]
        rw [sumN_skip (k0 := k0) _ (by omega), if_pos rfl]
        congr 1
        exact sumN_congr fun k _ => by rw [hsk]
      rw [hsum]
      by_cases e : i = m
      · rw [e]
        simp only [c]
        grind
      · have h3 := hu2 i (by omega)
        have h4 : sumN (n - 1) (fun k => (A i (skipN k0 k) - A i k0 / A m k0 * A m (skipN k0 k)) * u' k) = sumN (n - 1) (fun k => A i (skipN k0 k) * u' k) + (-(A i k0 / A m k0)) * sumN (n - 1) (fun k => A m (skipN k0 k) * u' k) := by
          rw [← sumN_mul, ← sumN_add]
          exact sumN_congr fun k _ => by grind
        rw [h4] at h3
        simp only [c]
        grind
    · obtain ⟨u, h1, h2⟩ := hom_sol m n A (by omega)
      refine ⟨u, h1, fun i hi => ?_⟩
      by_cases e : i = m
      · subst e
        exact sumN_zero fun k hk => by
          have : A i k = 0 := Decidable.not_not.1 fun hne => hz ⟨k, hk, hne⟩
          rw [this]; grind
      · exact h2 i (by omega)
theorem RowF.comb {n : Nat} {F : MF → Rat} (h : RowF n F) {k : Nat} (hk : k < n) (u : Nat → Rat) (M : MF) : F (setF M k fun b => sumN n fun i => u i * M i b) = u k * F M := by
  have key : ∀ t, t ≤ n → F (setF M k fun b => sumN t fun i => u i * M i b) = sumN t fun i => u i * F (setF M k (M i)) := by
    intro t
    induction t with
    | zero =>
      intro _
      have := h.lin (r := k) (c := 1) (M := setF M k fun b => sumN 0 fun i => u i * M i b) (U := setF M k fun b => sumN 0 fun i => u i * M i b) (V := setF M k fun b => sumN 0 fun i => u i * M i b) hk (fun b _ => by
        unfold setF
        rw [if_pos rfl]
        show (0 : Rat) = 1 * 0 + 0
        grind) (fun _ _ _ _ _ => rfl) (fun _ _ _ _ _ => rfl)
      show _ = (0 : Rat)
      grind
    | succ t ih =>
      intro ht
      rw [sumN_succ, ← ih (by omega)]
      have := h.lin (r := k) (c := u t) (M := setF M k fun b => sumN (t + 1) fun i => u i * M i b) (U := setF M k (M t)) (V := setF M k fun b => sumN t fun i => u i * M i b) hk (fun b _ => by
        unfold setF
        rw [if_pos rfl, if_pos rfl, if_pos rfl]
        dsimp only
        rw [sumN_succ]; grind) (fun a b _ _ hn => by unfold setF; rw [if_neg hn, if_neg hn]) (fun a b _ _ hn => by unfold setF; rw [if_neg hn, if_neg hn])
      rw [this]; grind
  rw [key n (Nat.le_refl _), sumN_single hk fun i hi hn => by
    rw [h.alt (M := setF M k (M i)) hk hi (Ne.symm hn) fun b _ => by unfold setF; rw [if_pos rfl, if_neg hn]]; grind]
  congr 1
  exact h.congr fun a b _ _ => by
    unfold setF
    by_cases e : a = k
    · rw [if_pos e, e]
    · rw [if_neg e]
/-- A regular matrix maps only zero to zero. -/
theorem det_null {n : Nat} {T : MF} (h : detF n T ≠ 0) {u : Nat → Rat} (hu : ∀ i, i < n → dotV n (T i) u = 0) : ∀ k, k < n → u k = 0 := by
  intro k hk
  have h1 := (detF_row n).comb hk u (trF T)
  rw [detF_tr] at h1
  have h2 : detF n (setF (trF T) k fun b => sumN n fun i => u i * trF T i b) = 0 := by
    have := detF_scale (n := n) (r := k) (M := setF (trF T) k fun b => sumN n fun i => u i * trF T i b) (Y := setF (trF T) k fun b => sumN n fun i => u i * trF T i b) hk 0 (fun b hb => by
      have e : (setF (trF T) k fun b => sumN n fun i => u i * trF T i b) k b = 0 := by
        unfold setF
        rw [if_pos rfl]
        dsimp only
        rw [← hu b hb]
        unfold dotV trF
        exact sumN_congr fun i _ => by grind
      rw [e]; grind) (fun _ _ _ _ _ => rfl)
    grind
  rw [h2] at h1
  rcases Rat.mul_eq_zero.1 h1.symm with h3 | h3
  · exact h3
  · exact absurd h3 h
theorem SqInv.quad {n : Nat} {X : Nat → Nat → Rat} {l : List (List Rat)} {ws : List Rat} {fs : List (Option (List Rat))} (h : SqInv n n X l ws fs) (v : Nat → Rat) : quadF n X v = sumN ws.length fun k => qat ws k * (dotV n (qel (fs.filterMap id) k) v * dotV n (qel (fs.filterMap id) k) v) := by
  rw [quadF_congr (M' := formSum ws (fs.filterMap id)) (v' := v) fun a b ha hb => by rw [h.eq a b ha hb, if_neg (by omega)]; grind]
  unfold formSum
  rw [quadF_sum]
  exact sumN_congr fun k _ => quadF_one n (qat ws k) (qel (fs.filterMap id) k) v
theorem SqInv.nonneg {n : Nat} {X : Nat → Nat → Rat} {l : List (List Rat)} {ws : List Rat} {fs : List (Option (List Rat))} (h : SqInv n n X l ws fs) (v : Nat → Rat) : 0 ≤ quadF n X v := by
  rw [h.quad]
  refine sumN_nonneg fun k hk => ?_
  have := h.pos k hk
  exact Rat.mul_nonneg (by grind) (sq_nonneg _)
theorem SqInv.quad_zero {n : Nat} {X : Nat → Nat → Rat} {l : List (List Rat)} {ws : List Rat} {fs : List (Option (List Rat))} (h : SqInv n n X l ws fs) {v : Nat → Rat} (h0 : quadF n X v = 0) : ∀ k, k < ws.length → dotV n (qel (fs.filterMap id) k) v = 0 := by
  rw [h.quad] at h0
  intro k hk
  have h1 := sumN_zero_of (fun k hk => by
    have := h.pos k hk
    exact Rat.mul_nonneg (by grind) (sq_nonneg _)) h0 k hk
  have hp := h.pos k hk
  rcases Rat.mul_eq_zero.1 h1 with h2 | h2
  · exfalso; grind
  · rcases Rat.mul_eq_zero.1 h2 with h3 | h3 <;> exact h3
theorem SqInv.quad_zero' {n : Nat} {X : Nat → Nat → Rat} {l : List (List Rat)} {ws : List Rat} {fs : List (Option (List Rat))} (h : SqInv n n X l ws fs) {v : Nat → Rat} (h0 : ∀ k, k < ws.length → dotV n (qel (fs.filterMap id) k) v = 0) : quadF n X v = 0 := by
  rw [h.quad]
  exact sumN_zero fun k hk => by rw [h0 k hk]; grind
/-- The forms have leads. -/
theorem form_at {fs : List (Option (List Rat))} {i : Nat} {f : List Rat} (h : fs.getD i none = some f) : ∃ k, k < (fs.filterMap id).length ∧ mrow (fs.filterMap id) k = f := by
  have hi : i < fs.length := by
    rcases Nat.lt_or_ge i fs.length with h1 | h1
    · exact h1
    · rw [List.getD_eq_getElem?_getD, List.getElem?_eq_none h1] at h; cases h
  have hm : f ∈ fs.filterMap id := by
    rw [List.mem_filterMap]
    refine ⟨some f, ?_, rfl⟩
    rw [List.getD_eq_getElem?_getD, List.getElem?_eq_getElem hi] at h
    rw [← show fs[i] = some f from h]
    exact List.getElem_mem hi
  obtain ⟨k, hk, e⟩ := List.mem_iff_getElem.1 hm
  exact ⟨k, hk, by rw [mrow_eq hk, e]⟩
theorem SqInv.tri1 {n : Nat} {X : Nat → Nat → Rat} {l : List (List Rat)} {ws : List Rat} {fs : List (Option (List Rat))} (h : SqInv n n X l ws fs) {v : Nat → Rat} (hoff : ∀ i, i < n → fs.getD i none = none → v i = 0) (hz : ∀ k, k < ws.length → dotV n (qel (fs.filterMap id) k) v = 0) (i : Nat) (hi : i < n) (hb : ∀ b, i < b → b < n → v b = 0) : v i = 0 := by
  cases hf : fs.getD i none with
  | none => exact hoff i hi hf
  | some f =>
    obtain ⟨k, hk, e⟩ := form_at hf
    obtain ⟨_, f1, f2⟩ := h.frm i f hf
    have h0 := hz k (by rw [← h.len]; exact hk)
    have e2 : qel (fs.filterMap id) k = qat f := funext fun b => by unfold qel; rw [e]
    rw [e2, dot_split hi f1 f2, sumN_zero fun t ht => by rw [hb (i + 1 + t) (by omega) (by omega)]; grind] at h0
    grind
theorem SqInv.tri {n : Nat} {X : Nat → Nat → Rat} {l : List (List Rat)} {ws : List Rat} {fs : List (Option (List Rat))} (h : SqInv n n X l ws fs) {v : Nat → Rat} (hoff : ∀ i, i < n → fs.getD i none = none → v i = 0) (hz : ∀ k, k < ws.length → dotV n (qel (fs.filterMap id) k) v = 0) : ∀ t i, i + t + 1 = n → v i = 0 := by
  have key : ∀ t, ∀ s, s ≤ t → ∀ i, i + s + 1 = n → v i = 0 := by
    intro t
    induction t with
    | zero =>
      intro s hs i hi
      exact h.tri1 hoff hz i (by omega) fun b hb hbn => by omega
    | succ t ih =>
      intro s hs i hi
      exact h.tri1 hoff hz i (by omega) fun b hb hbn => ih (n - 1 - b) (by omega) b (by omega)
  intro t i hi
  exact key t t (Nat.le_refl _) i hi
def offL (n : Nat) (fs : List (Option (List Rat))) : List Nat := (List.range n).filter fun i => (fs.getD i none).isNone
theorem off_len {fs : List (Option (List Rat))} : ∀ n, n ≤ fs.length → (offL n fs).length + ((fs.take n).filterMap id).length = n
  | 0, _ => rfl
  | n + 1, h => by
    have ih := off_len (fs := fs) n (by omega)
    unfold offL at *
    rw [List.range_succ, List.filter_append, List.length_append, List.take_add_one, List.filterMap_append, List.length_append, List.getElem?_eq_getElem (by omega)]
    have e : fs.getD n none = fs[n] := by rw [List.getD_eq_getElem?_getD, List.getElem?_eq_getElem (by omega)]; rfl
    cases hf : fs[n] with
    | none =>
      rw [List.filter_cons_of_pos (by rw [e, hf]; rfl)]
      show (List.filter (fun i => (fs.getD i none).isNone) (List.range n)).length + 1 + (((fs.take n).filterMap id).length + 0) = n + 1
      omega
    | some f =>
      rw [List.filter_cons_of_neg (by rw [e, hf]; simp)]
      show (List.filter (fun i => (fs.getD i none).isNone) (List.range n)).length + 0 + (((fs.take n).filterMap id).length + 1) = n + 1
      omega
theorem off_mem {n : Nat} {fs : List (Option (List Rat))} {i : Nat} (hi : i < n) (h : fs.getD i none = none) : ∃ e, e < (offL n fs).length ∧ (offL n fs).getD e 0 = i := by
  have hm : i ∈ offL n fs := by unfold offL; rw [List.mem_filter]; exact ⟨List.mem_range.2 hi, by rw [h]; rfl⟩
  obtain ⟨e, he, e2⟩ := List.mem_iff_getElem.1 hm
  exact ⟨e, he, by rw [List.getD_eq_getElem?_getD, List.getElem?_eq_getElem he]; exact e2⟩
theorem SqInv.off {n : Nat} {X : Nat → Nat → Rat} {l : List (List Rat)} {ws : List Rat} {fs : List (Option (List Rat))} (h : SqInv n n X l ws fs) : (offL n fs).length + ws.length = n := by
  have := off_len (fs := fs) n (by rw [h.fl]; exact Nat.le_refl _)
  rwa [List.take_of_length_le (by rw [h.fl]; exact Nat.le_refl _), h.len] at this
theorem sum_lin (n m : Nat) (c : Nat → Rat) (d : Nat → Nat → Rat) (u : Nat → Rat) : sumN n (fun b => (sumN m fun k => c k * d k b) * u b) = sumN m fun k => c k * sumN n fun b => d k b * u b := by
  have e1 : sumN n (fun b => (sumN m fun k => c k * d k b) * u b) = sumN n fun b => sumN m fun k => c k * (d k b * u b) := sumN_congr fun b _ => by
    rw [show (sumN m fun k => c k * d k b) * u b = u b * sumN m fun k => c k * d k b by grind, ← sumN_mul]
    exact sumN_congr fun k _ => by grind
  rw [e1, sumN_comm]
  exact sumN_congr fun k _ => sumN_mul n (c k) fun b => d k b * u b
/-- The equations of the one and the leads of the other. -/
theorem sylv_le {n : Nat} {T S : MF} {A B : Nat → Nat → Rat} {l l' ws ws' fs fs'} (hA : SqInv n n A l ws fs) (hB : SqInv n n B l' ws' fs') (hq : ∀ u, quadF n B (fun i => dotV n (S i) u) = quadF n A fun i => dotV n (T i) u)
    (hT : ∀ u, (∀ i, i < n → dotV n (T i) u = 0) → ∀ k, k < n → u k = 0) : ws.length ≤ ws'.length := by
  rcases Nat.lt_or_ge ws'.length ws.length with hlt | hge
  · exfalso
    have hoff := hA.off
    obtain ⟨u, ⟨k0, hk0, hne⟩, hu⟩ := hom_sol ((offL n fs).length + ws'.length) n (fun e k => if e < (offL n fs).length then T ((offL n fs).getD e 0) k else sumN n fun a => qel (fs'.filterMap id) (e - (offL n fs).length) a * S a k) (by omega)
    have h1 : ∀ k, k < ws'.length → dotV n (qel (fs'.filterMap id) k) (fun i => dotV n (S i) u) = 0 := fun k hk => by
      have := hu ((offL n fs).length + k) (by omega)
      rw [sumN_congr (g := fun b => (sumN n fun a => qel (fs'.filterMap id) k a * S a b) * u b) fun b _ => by
        rw [if_neg (by omega), show (offL n fs).length + k - (offL n fs).length = k by omega], sum_lin] at this
      exact this
    have h2 : quadF n B (fun i => dotV n (S i) u) = 0 := hB.quad_zero' h1
    rw [hq] at h2
    have h3 := hA.quad_zero h2
    have h4 := hA.tri (v := fun i => dotV n (T i) u) (fun i hi hf => by
      obtain ⟨e, he, e2⟩ := off_mem hi hf
      have := hu e (by omega)
      rw [sumN_congr (g := fun b => T i b * u b) fun b _ => by rw [if_pos he, e2]] at this
      exact this) h3
    exact hne (hT u (fun i hi => h4 (n - 1 - i) i (by omega)) k0 hk0)
  · exact hge
theorem id_dot {n i : Nat} (hi : i < n) (u : Nat → Rat) : dotV n (idF i) u = u i := by
  unfold dotV
  rw [sumN_single hi fun k _ hn => by unfold idF; rw [if_neg (Ne.symm hn)]; grind]
  unfold idF
  rw [if_pos rfl]; grind
theorem quad_id {n : Nat} (B : Nat → Nat → Rat) (u : Nat → Rat) : quadF n B (fun i => dotV n (idF i) u) = quadF n B u := quadF_congr fun a b ha hb => by rw [id_dot ha, id_dot hb]
theorem quad_change {n : Nat} {T A B : Nat → Nat → Rat} (hB : ∀ a b, a < n → b < n → B a b = sumN n fun k => (sumN n fun l => T l a * A l k) * T k b) (u : Nat → Rat) : quadF n B u = quadF n A fun i => dotV n (T i) u := by
  have e1 : quadF n B u = sumN n fun a => (sumN n fun k => dotV n (T k) u * sumN n fun l => A l k * T l a) * u a := by
    unfold quadF
    refine sumN_congr fun a ha => ?_
    rw [sumN_congr (g := fun b => u a * ((sumN n fun k => (sumN n fun l => A l k * T l a) * T k b) * u b)) fun b hb => by
      rw [hB a b ha hb, sumN_congr (g := fun k => (sumN n fun l => A l k * T l a) * T k b) fun k _ => by
        congr 1
        exact sumN_congr fun l _ => by grind]
      grind, sumN_mul, sum_lin]
    rw [show (sumN n fun k => dotV n (T k) u * sumN n fun l => A l k * T l a) = sumN n fun k => (sumN n fun l => A l k * T l a) * sumN n fun b => T k b * u b from sumN_congr fun k _ => by unfold dotV; grind]
    grind
  rw [e1, sum_lin]
  have e2 : ∀ k, sumN n (fun b => (sumN n fun l => A l k * T l b) * u b) = sumN n fun l => A l k * dotV n (T l) u := fun k => sum_lin n n (fun l => A l k) T u
  rw [sumN_congr fun k _ => by rw [e2 k]]
  unfold quadF
  rw [sumN_comm]
  refine sumN_congr fun k _ => ?_
  rw [← sumN_mul]
  exact sumN_congr fun l _ => by grind
theorem det_onto {n : Nat} {T : MF} (h : detF n T ≠ 0) (v : Nat → Rat) : ∃ u : Nat → Rat, ∀ i, i < n → dotV n (T i) u = v i := by
  obtain ⟨u, ⟨k0, hk0, hne⟩, hu⟩ := hom_sol n (n + 1) (fun i k => if k < n then T i k else -v i) (by omega)
  have h1 : ∀ i, i < n → dotV n (T i) u = v i * u n := fun i hi => by
    have := hu i hi
    rw [sumN_succ, sumN_congr (g := fun k => T i k * u k) fun k hk => by simp only [if_pos hk]] at this
    simp only [if_neg (Nat.lt_irrefl n)] at this
    unfold dotV; grind
  by_cases h0 : u n = 0
  · exfalso
    have := det_null h (u := u) fun i hi => by rw [h1 i hi, h0]; grind
    by_cases e : k0 = n
    · exact hne (by rw [e]; exact h0)
    · exact hne (this k0 (by omega))
  · refine ⟨fun k => u k / u n, fun i hi => ?_⟩
    have e : dotV n (T i) (fun k => u k / u n) = (u n)⁻¹ * dotV n (T i) u := by
      unfold dotV
      rw [← sumN_mul]
      exact sumN_congr fun k _ => by grind
    rw [e, h1 i hi]; grind
/-- Sylvester's law. -/
theorem sylvester {n : Nat} {T : MF} {A B : List (List Rat)} (hA : matGood n n A) (hAs : symm A n) (hBg : matGood n n B) (hBs : symm B n) (hn : n ≤ 64) (hT : detF n T ≠ 0) (hB : ∀ a b, a < n → b < n → qel B a b = sumN n fun k => (sumN n fun l => T l a * qel A l k) * T k b) :
    (sqR (emb A)).e ≠ 0 ∨ (sqR (emb B)).e ≠ 0 ∨ ((sqR (emb A)).ws.length = (sqR (emb B)).ws.length ∧ (sqR (emb A)).v.length = (sqR (emb B)).v.length) := by
  have hq := quad_change hB
  rcases sq_facts hA hAs hn with h | ⟨v, h, _, hl, hneg⟩ | ⟨l, ws, fs, h, hI, _⟩
  · left; rw [h]; decide
  · rcases sq_facts hBg hBs hn with h' | ⟨v', h', _, hl', _⟩ | ⟨l', ws', fs', h', hI', _⟩
    · right; left; rw [h']; decide
    · right; right; rw [h, h']; exact ⟨rfl, hl.trans hl'.symm⟩
    · exfalso
      obtain ⟨u, hu⟩ := det_onto hT (qat v)
      have h1 := hI'.nonneg u
      rw [hq u, quadF_congr (M' := qel A) (v' := qat v) fun a b ha hb => by rw [hu a ha, hu b hb]] at h1
      grind
  · rcases sq_facts hBg hBs hn with h' | ⟨v', h', _, hl', hneg⟩ | ⟨l', ws', fs', h', hI', _⟩
    · right; left; rw [h']; decide
    · exfalso
      have h1 := hI.nonneg fun i => dotV n (T i) (qat v')
      rw [← hq] at h1
      grind
    · right; right
      rw [h, h']
      refine ⟨Nat.le_antisymm ?_ ?_, rfl⟩
      · exact sylv_le (T := T) (S := idF) hI hI' (fun u => by rw [quad_id]; exact hq u) (fun u hu => det_null hT hu)
      · exact sylv_le (T := idF) (S := T) hI' hI (fun u => by rw [quad_id]; exact (hq u).symm) (fun u hu k hk => by rw [← id_dot hk u]; exact hu k hk)
end Go.Av
end
section
namespace Go.Av
open Go.Proofs
theorem below_spec {n j t : Nat} {M M' : List (List Rat)} (h : matGood n n M) (hi : j + 1 + t < n) (he : belowStep n j t M = some M') : ∀ a b, b < n → qel M' a b = if a = j + 1 + t ∧ j ≤ b then qel M a b - qel M a j / qel M j j * qel M j b else qel M a b := by
  intro a b hb
  unfold belowStep at he
  by_cases hz : qel M (j + 1 + t) j = 0
  · rw [if_pos hz] at he
    cases he
    split
    · rename_i hh
      rw [hh.1, hz]; grind
    · rfl
  · rw [if_neg hz] at he
    cases hf : divQ (qel M (j + 1 + t) j) (qel M j j) with
    | none => rw [hf] at he; cases he
    | some f =>
      rw [hf] at he
      replace he : (iterO (belowRow (mrow M j) f j) (n - j) (mrow M (j + 1 + t))).map (M.set (j + 1 + t)) = some M' := he
      cases hm : iterO (belowRow (mrow M j) f j) (n - j) (mrow M (j + 1 + t)) with
      | none => rw [hm] at he; cases he
      | some row =>
        rw [hm] at he
        cases he
        have hl : (mrow M (j + 1 + t)).length = n := (h.row hi).2
        obtain ⟨k1, k2, k3⟩ := rowIter (o := j) (op := fun q k => lessQ q f (qat (mrow M j) k)) (fun t r => rfl) (by omega) hm
        rw [qel_set (by rw [h.2.2]; exact hi)]
        by_cases e : a = j + 1 + t
        · rw [if_pos e]
          by_cases e2 : j ≤ b
          · rw [if_pos ⟨e, e2⟩]
            have := k2 (b - j) (by omega)
            rw [show j + (b - j) = b by omega] at this
            rw [lessQ_eq this, divQ_eq hf, e]
            show qel M (j + 1 + t) b - qel M j b * _ = _
            grind
          · rw [if_neg fun hh => e2 hh.2, k3 b (by omega), e]; rfl
        · rw [if_neg e, if_neg fun hh => e hh.1]
theorem belowQ_spec {n j : Nat} {M : List (List Rat)} (h : matGood n n M) : ∀ {t : Nat} {Z : List (List Rat)}, j + 1 + t ≤ n → iterO (belowStep n j) t M = some Z → matGood n n Z ∧ ∀ a b, b < n → qel Z a b = if j < a ∧ a < j + 1 + t ∧ j ≤ b then qel M a b - qel M a j / qel M j j * qel M j b else qel M a b
  | 0, Z, _, he => by
    cases he
    refine ⟨h, fun a b _ => ?_⟩
    rw [if_neg (by omega)]
  | t + 1, Z, ht, he => by
    rw [iterO_succ] at he
    cases hm : iterO (belowStep n j) t M with
    | none => rw [hm] at he; cases he
    | some U =>
      rw [hm] at he
      obtain ⟨g1, g2⟩ := belowQ_spec h (by omega) hm
      have he' : belowStep n j t U = some Z := he
      refine ⟨below_keep (by omega) g1 he', fun a b hb => ?_⟩
      rw [below_spec g1 (by omega) he' a b hb]
      by_cases e : a = j + 1 + t ∧ j ≤ b
      · rw [if_pos e, if_pos ⟨by omega, by omega, e.2⟩, g2 a b hb, g2 a j (by omega), g2 j j (by omega), g2 j b hb, if_neg (by omega), if_neg (by omega), if_neg (by omega), if_neg (by omega)]
      · rw [if_neg e, g2 a b hb]
        by_cases e2 : j < a ∧ a < j + 1 + t ∧ j ≤ b
        · rw [if_pos e2, if_pos ⟨e2.1, by omega, e2.2.2⟩]
        · rw [if_neg e2, if_neg (by omega)]
theorem swap_det {n i r : Nat} {M : List (List Rat)} (h : matGood n n M) (hi : i < n) (hr : r < n) : detF n (qel (swapL M i r)) = if i = r then detF n (qel M) else -detF n (qel M) := by
  have e : ∀ a b, a < n → b < n → qel (swapL M i r) a b = swapF (qel M) r i a b := fun a b _ _ => qel_swap (by rw [h.2.2]; exact hi) (by rw [h.2.2]; exact hr) a b
  rw [detF_congr e]
  by_cases he : i = r
  · subst he; rw [if_pos rfl]
    refine detF_congr fun a b _ _ => ?_
    unfold swapF
    split
    · rename_i h; rw [h]
    · rfl
  · rw [if_neg he, (detF_row n).swap hr hi (Ne.symm he)]
theorem prodN_congr {n : Nat} {f g : Nat → Rat} (h : ∀ i, i < n → f i = g i) : prodN n f = prodN n g := by
  induction n with
  | zero => rfl
  | succ n ih => show prodN n f * f n = prodN n g * g n; rw [ih fun i hi => h i (by omega), h n (by omega)]
theorem prodN_ne {n : Nat} {f : Nat → Rat} (h : ∀ i, i < n → f i ≠ 0) : prodN n f ≠ 0 := by
  induction n with
  | zero => show (1 : Rat) ≠ 0; decide
  | succ n ih =>
    show prodN n f * f n ≠ 0
    intro he
    rcases Rat.mul_eq_zero.1 he with h1 | h1
    · exact ih (fun i hi => h i (by omega)) h1
    · exact h n (by omega) h1
structure DetInv (n j : Nat) (X M : List (List Rat)) (d : Rat) : Prop where
  good : matGood n n M
  zer : ∀ c a, c < j → c < a → a < n → qel M a c = 0
  ne : ∀ c, c < j → qel M c c ≠ 0
  eq : detF n (qel X) * prodN j (fun c => qel M c c) = d * detF n (qel M)
theorem detD_eq {sw : Bool} {d x d' : Rat} (h : detD sw d x = some d') : d' = (if sw = true then -d else d) * x := by
  unfold detD at h
  cases sw with
  | true =>
    rw [if_pos rfl] at h ⊢
    cases hs : subQ 0 d with
    | none => rw [hs] at h; cases h
    | some y => rw [hs] at h; rw [mulQ_eq h, subQ_eq hs]; grind
  | false =>
    simp only [Bool.false_eq_true, if_false] at h ⊢
    exact mulQ_eq h
theorem det_inv {n : Nat} {X : List (List Rat)} (hX : matGood n n X) : ∀ j, j ≤ n → (detIter n X j = some none → detF n (qel X) = 0) ∧ ∀ z, detIter n X j = some (some z) → DetInv n j X z.1 z.2
  | 0, _ => ⟨fun h => (by cases h), fun z h => by
    cases h
    exact ⟨hX, fun c a h => by omega, fun c h => by omega, by show detF n (qel X) * 1 = 1 * detF n (qel X); grind⟩⟩
  | j + 1, hj => by
    obtain ⟨ih1, ih2⟩ := det_inv hX j (by omega)
    cases hm : detIter n X j with
    | none =>
      have := detIter_none hm 1
      exact ⟨fun h => (by rw [this] at h; cases h), fun z h => (by rw [this] at h; cases h)⟩
    | some o =>
      cases o with
      | none =>
        have := detIter_zero hm 1
        exact ⟨fun _ => ih1 hm, fun z h => (by rw [this] at h; cases h)⟩
      | some z0 =>
        rw [detIter_succ hm]
        have I := ih2 z0 hm
        obtain ⟨M, d⟩ := z0
        simp only at I
        unfold detCol
        simp only
        cases hp : pivQ M j j with
        | none =>
          refine ⟨fun _ => ?_, fun z h => (by cases h)⟩
          have h0 := pivQ_none hp
          have hz : detF n (qel M) = 0 := by
            have e := detF_tri (M := qel M) j (n - j) fun c a h1 h2 h3 => I.zer c a h1 h2 (by omega)
            rw [show j + (n - j) = n by omega] at e
            rw [e, show n - j = n - j - 1 + 1 by omega, detF_zcol fun a ha => by
              show qel M (a + j) (0 + j) = 0
              rw [Nat.zero_add]
              exact h0 _ (by omega) (by rw [I.good.2.2]; omega)]
            grind
          have e := I.eq
          rw [hz] at e
          have hne := prodN_ne I.ne
          have e2 : detF n (qel X) * prodN j (fun c => qel M c c) = 0 := by rw [e]; grind
          rcases Rat.mul_eq_zero.1 e2 with h | h
          · exact h
          · exact absurd h hne
        | some i =>
          obtain ⟨p1, p2, p3⟩ := pivQ_some hp
          rw [I.good.2.2] at p1
          simp only
          refine ⟨fun h => ?_, fun z h => ?_⟩
          · cases h1 : detD (decide (i ≠ j)) d (qel (swapL M i j) j j) with
            | none => rw [h1] at h; cases h
            | some d' =>
              rw [h1] at h
              simp only [Option.bind_some] at h
              cases h2 : belowQ n j (swapL M i j) with
              | none => rw [h2] at h; cases h
              | some M' => rw [h2] at h; cases h
          · cases h1 : detD (decide (i ≠ j)) d (qel (swapL M i j) j j) with
            | none => rw [h1] at h; cases h
            | some d' =>
              rw [h1] at h
              simp only [Option.bind_some] at h
              cases h2 : belowQ n j (swapL M i j) with
              | none => rw [h2] at h; cases h
              | some M' =>
                rw [h2] at h
                cases h
                have hG := I.good.swap p1 (show j < n by omega)
                have hs : ∀ a b, qel (swapL M i j) a b = if a = j then qel M i b else if a = i then qel M j b else qel M a b := fun a b => qel_swap (by rw [I.good.2.2]; exact p1) (by rw [I.good.2.2]; omega) a b
                have hsd := swap_det I.good p1 (show j < n by omega)
                have hd := detD_eq h1
                obtain ⟨g1, g2⟩ := belowQ_spec hG (t := n - (j + 1)) (by omega) h2
                have hsz : ∀ c a, c < j → c < a → a < n → qel (swapL M i j) a c = 0 := fun c a h1 h2 h3 => by
                  rw [hs]
                  split
                  · exact I.zer c i h1 (by omega) p1
                  · split
                    · exact I.zer c j h1 (by omega) (by omega)
                    · exact I.zer c a h1 h2 h3
                have hsj : ∀ c, c < j → qel (swapL M i j) c c = qel M c c := fun c hc => by
                  rw [hs, if_neg (by omega), if_neg (by omega)]
                have hx : qel (swapL M i j) j j ≠ 0 := by rw [hs, if_pos rfl]; exact p3
                generalize swapL M i j = S at *
                have hM' : ∀ a b, a < n → b < n → qel M' a b = if j < a then qel S a b - qel S a j / qel S j j * qel S j b else qel S a b := fun a b ha hb => by
                  rw [g2 a b hb]
                  by_cases e : j < a
                  · rw [if_pos e]
                    by_cases e2 : j ≤ b
                    · rw [if_pos ⟨e, by omega, e2⟩]
                    · rw [if_neg (by omega), hsz b j (by omega) (by omega) (by omega)]; grind
                  · rw [if_neg e, if_neg (by omega)]
                have hdM : detF n (qel M') = detF n (qel S) := detF_ops (r := j) (by omega) (fun a => if j < a then qel S a j / qel S j j else 0) (fun b hb => by rw [hM' j b (by omega) hb, if_neg (by omega)]) (fun a b ha hb hn => by
                  rw [hM' a b ha hb]
                  by_cases e : j < a
                  · rw [if_pos e, if_pos e]
                  · rw [if_neg e, if_neg e]; grind)
                refine ⟨g1, fun c a k1 k2 k3 => ?_, fun c hc => ?_, ?_⟩
                · rw [hM' a c k3 (by omega)]
                  by_cases e : c = j
                  · subst e
                    rw [if_pos k2]; grind
                  · rw [hsz c a (by omega) k2 k3, hsz c j (by omega) (by omega) (by omega)]
                    split <;> grind
                · rw [hM' c c (by omega) (by omega), if_neg (by omega)]
                  by_cases e : c = j
                  · rw [e]; exact hx
                  · rw [hsj c (by omega)]; exact I.ne c (by omega)
                · show detF n (qel X) * (prodN j (fun c => qel M' c c) * qel M' j j) = d' * detF n (qel M')
                  have e1 : prodN j (fun c => qel M' c c) = prodN j fun c => qel M c c := prodN_congr fun c hc => by
                    show qel M' c c = qel M c c
                    rw [hM' c c (by omega) (by omega), if_neg (by omega), hsj c hc]
                  have e2 : qel M' j j = qel S j j := by rw [hM' j j (by omega) (by omega), if_neg (by omega)]
                  rw [e1, e2, hdM, hd, hsd]
                  have e := I.eq
                  by_cases e3 : i = j
                  · rw [if_neg (by simp [e3]), if_pos e3]; grind
                  · rw [if_pos (by simp [e3]), if_neg e3]; grind
theorem det_exact {n : Nat} {X : List (List Rat)} (hX : matGood n n X) {d : Rat} (h : detQ n X = some d) : d = detF n (qel X) := by
  obtain ⟨h1, h2⟩ := det_inv hX n (Nat.le_refl _)
  unfold detQ at h
  cases hm : detIter n X n with
  | none => rw [hm] at h; cases h
  | some o =>
    rw [hm] at h
    cases o with
    | none => cases h; exact (h1 hm).symm
    | some z =>
      cases h
      have I := h2 z hm
      have e := detF_tri (M := qel z.1) n 0 fun c a q1 q2 q3 => I.zer c a q1 q2 (by omega)
      rw [Nat.add_zero] at e
      have e2 := I.eq
      rw [e] at e2
      have hne := prodN_ne I.ne
      show z.2 = _
      have e3 : (detF n (qel X) - z.2) * prodN n (fun c => qel z.1 c c) = 0 := by
        have : detF 0 (fun a b => qel z.1 (a + n) (b + n)) = 1 := rfl
        rw [this] at e2
        grind
      rcases Rat.mul_eq_zero.1 e3 with h | h
      · grind
      · exact absurd h hne
theorem detR_cases {n : Nat} {X : List (List Rat)} (hX : matGood n n X) (hn : n ≤ 64) : detR (emb X) = (2, badR) ∨ (detR (emb X) = (0, ofQ (detF n (qel X))) ∧ Good (detF n (qel X))) := by
  have hw : (mrow X 0).length = n := by
    rcases Nat.eq_zero_or_pos n with h | h
    · rw [List.eq_nil_of_length_eq_zero (hX.2.2.trans h), h]; rfl
    · exact (hX.row h).2
  unfold detR
  rw [if_neg (by rw [chk_good hX hw hn hn]; simp), if_neg (by rw [emb_row, List.length_map, hw, emb_length, hX.2.2]; simp), unq_emb, emb_length, hX.2.2]
  cases hq : detQ n X with
  | none => exact .inl rfl
  | some d =>
    have e := det_exact hX hq
    subst e
    exact .inr ⟨rfl, detQ_good hq⟩
end Go.Av
end
section
namespace Go.Av
open Go.Proofs
theorem slice_mat {r : List (List RR)} {k : Nat} (h : k ≤ r.length) (size bytes : Nat) (zero : AV) (fs : List (Nat × Nat × Option Bool)) : sliceAV Tryz.prog ⟨size, bytes, .slice 42, zero, fs⟩ (matAV r) none (some (.int .i64 (k : Nat))) = some (matAV (r.take k)) := by
  unfold matAV
  rw [sliceAV_sl]; simp [cutAV, intOf?, h, List.map_take]
end Go.Av
end
section
namespace Go.Av
section
variable {P : Program} {cf : Cfg} {ops : Array Oper}
/-- A slice that is built and soon read, a value. -/
def virtB (ro : Nat → Bool) (o : Oper) : Bool := match o.op, o.dst with
  | .buildSlice _ _ _, some d => ro d
  | _, _ => false
/-- May j (ahead of i in the plan) be passed by i? -/
def passesV (P : Program) (ro : Nat → Bool) (q : Seps) (ops : Array Oper) (j i : Nat) : Bool :=
  match ops[j]?, ops[i]? with
  | some oj, some oi => oj.apart ops oi && ((klass oj).comm (klass oi) && (klass oj != .z || zOk P ro oj) && (klass oi != .z || zOk P ro oi) || sepOp q oj oi || virtB ro oj)
  | _, _ => false
/-- The plan is in order. -/
def planOkV (P : Program) (ro : Nat → Bool) (q : Seps) (ops : Array Oper) (plan : List Nat) : Bool :=
  ops.toList.all (dstSep q) && (
  (List.range ops.size).all (fun i => plan.contains i) && plan.all (fun i => Nat.blt i ops.size) && decide (plan.Nodup ∧ plan.length ≤ ops.size) &&
  (plan.zipIdx.all fun (i, k) => (plan.take k).all fun j => !reach ops ops.size j i && (reach ops ops.size i j || passesV P ro q ops j i)) &&
  ops.toList.zipIdx.all fun (o, i) => o.after.toList.all fun e => !Region.binds .any e || (Nat.blt e.on ops.size && e.on != i))
end
end Go.Av
end
section
namespace Go.Av
open Go.Proofs
theorem CopM.push0 {r : List RR} {b' B : Nat} (hB : (Mem.emp.set b' ⟨36, 4, rrs r⟩) B = none) : CopM ((Mem.emp.set b' ⟨36, 4, rrs r⟩).set B ⟨42, 1, [.osl b' 4 0 r.length]⟩) (.osl B 1 0 1) [b'] [r] := by
  have hBb : B ≠ b' := by rintro rfl; simp at hB
  refine .inr ⟨B, rfl, ?_, ?_⟩
  · exact MatM.snoc (bs := []) (rows := []) rfl (by simp [hdrs]) (fun i hi => (by cases hi)) (by simp [Ne.symm hBb]) List.nodup_nil (by simp) (by simp) hBb
  · exact (OnlyM.set (OnlyM.set (l := [B, b']) (fun k hk => absurd rfl hk) (by simp) _) (by simp) _)
theorem CopM.push1 {M : Mem} {B B1 b' : Nat} {bs : List Nat} {rows : List (List RR)} {r : List RR} (z2 : MatM M B bs rows) (z3 : OnlyM M (B :: bs)) (hb' : M b' = none) (hB1 : ((M.set b' ⟨36, 4, rrs r⟩).del B) B1 = none) :
    CopM (((M.set b' ⟨36, 4, rrs r⟩).del B).set B1 ⟨42, 1, hdrs bs rows ++ [.osl b' 4 0 r.length]⟩) (.osl B1 1 0 (rows.length + 1)) (bs ++ [b']) (rows ++ [r]) := by
  have n1 : B ≠ b' := by rintro rfl; rw [z2.top] at hb'; cases hb'
  have hl : bs.length = rows.length := z2.len
  refine .inr ⟨B1, by simp, ?_, ?_⟩
  · have hbn : b' ∉ bs := by
      intro hm'
      obtain ⟨k, hk, e⟩ := List.mem_iff_getElem.1 hm'
      rw [← nb_eq hk] at e
      have := z2.row k (by rw [← hl]; exact hk)
      rw [e, hb'] at this; cases this
    have hrow : ∀ k, k < rows.length → (((M.set b' ⟨36, 4, rrs r⟩).del B) (nb bs k)) = some ⟨36, 4, rrs (mrow rows k)⟩ := by
      intro k hk
      have q1 : nb bs k ≠ B := z2.ne hk
      have q2 : nb bs k ≠ b' := fun e => hbn (e ▸ nb_mem (by rw [hl]; exact hk))
      show (if nb bs k = B then none else (M.set b' _) (nb bs k)) = _
      rw [if_neg q1, Mem.set_other _ _ q2]
      exact z2.row k hk
    have hbv : ((M.set b' ⟨36, 4, rrs r⟩).del B) b' = some ⟨36, 4, rrs r⟩ := by
      show (if b' = B then none else (M.set b' _) b') = _
      rw [if_neg (Ne.symm n1), Mem.set_same]
    have hne : ∀ k y, ((M.set b' ⟨36, 4, rrs r⟩).del B) k = some y → k ≠ B1 := by
      rintro k y hk rfl
      rw [hB1] at hk; cases hk
    refine MatM.snoc hl (by simp) (fun k hk => ?_) ?_ z2.nd hbn ?_ ?_
    · rw [Mem.set_other _ _ (hne _ _ (hrow k hk))]; exact hrow k hk
    · rw [Mem.set_other _ _ (hne _ _ hbv)]; exact hbv
    · intro hm'
      obtain ⟨k, hk, e⟩ := List.mem_iff_getElem.1 hm'
      rw [← nb_eq hk] at e
      exact hne _ _ (hrow k (by rw [← hl]; exact hk)) e
    · exact Ne.symm (hne _ _ hbv)
  · intro k hk
    simp only [set_at] at hk
    by_cases k1 : k = B1
    · simp [k1]
    · rw [if_neg k1] at hk
      have hk2 : (if k = B then none else (M.set b' ⟨36, 4, rrs r⟩) k) ≠ none := hk
      by_cases k2 : k = B
      · rw [if_pos k2] at hk2; exact absurd rfl hk2
      · rw [if_neg k2] at hk2
        by_cases k3 : k = b'
        · simp [k3]
        · rw [Mem.set_other _ _ k3] at hk2
          have := z3 k hk2
          simp [k2] at this
          simp [this]
def wdL (m : List (List RR)) (b : List RR) (i : Nat) : List (List RR) := (List.range i).map fun k => mrow m k ++ [rr b k]
def colQ (x : List Rat) (i : Nat) : List (List Rat) := (List.range i).map fun k => [qat x k]
theorem CopM.view {M : Mem} {ov : AV} {bs : List Nat} {rows : List (List RR)} (h : CopM M ov bs rows) : View M Mem.emp ov (matAV rows) := by
  rcases h with ⟨rfl, _, rfl, _⟩ | ⟨B, rfl, z2, _⟩
  · exact .nilsl 1
  · exact z2.view
structure WdS where
  M : Mem
  ov : AV
  ob : List Nat
end Go.Av
end
section
namespace Go.Av
section
variable {P : Program}
def isMin3 (o : Oper) : Bool := match o.op with
  | .call c => match c.callee, c.args.toList with
    | .builtin .min, [_, _, _] => true
    | _, _ => false
  | _ => false
def min3I (a b d : Int) : Int := if d < (if b < a then b else a) then d else (if b < a then b else a)
def min3Q (o : Oper) (s : St) : Option AV := match o.op with
  | .call c => match c.callee, c.args.toList with
    | .builtin .min, [x, y, z] => match s.ev x, s.ev y, s.ev z with
      | .int k a, .int _ b, .int _ d => some (.int k (min3I a b d))
      | _, _, _ => none
    | _, _ => none
  | _ => none
theorem min3_sound {F G : Nat → Prop} {w0 w : World} {s : St} {a : Act} (hrel : Rel F G w0 s a w) {o : Oper} (hok : opOk s.n o = true) {K : St → Prop} {v : AV} (h : min3Q o s = some v) (hk : K ({ s with m := s.m }.put o.dst v)) (Q : Exit → Act → World → Prop) : o.wp P a w (Lands F G w0 s.n K) Q := by
  have hd : dstOk s.n o.dst = true := by unfold opOk at hok; rw [Bool.and_eq_true] at hok; exact hok.1
  have hall : ∀ x ∈ o.op.operands.toList, opdOk s.n x = true := by unfold opOk at hok; rw [Bool.and_eq_true] at hok; exact List.all_eq_true.1 hok.2
  unfold min3Q at h
  split at h
  · rename_i c ho
    rw [ho] at hall
    split at h
    · rename_i x y z hcal hxs
      obtain ⟨callee, args, argTypes⟩ := c
      simp only at hcal hxs; subst hcal
      have ha : args = #[x, y, z] := Array.toList_inj.1 hxs
      subst ha
      have hx := hrel.ev (hall x (by simp [Op.operands, Call.operands]))
      have hy := hrel.ev (hall y (by simp [Op.operands, Call.operands]))
      have hz := hrel.ev (hall z (by simp [Op.operands, Call.operands]))
      split at h
      · rename_i k a' _ b' _ d' e1 e2 e3
        rw [e1] at hx
        rw [e2] at hy
        rw [e3] at hz
        cases h
        obtain ⟨cx, q1⟩ : ∃ cx, a.eval x = cx := ⟨_, rfl⟩
        obtain ⟨cy, q2⟩ : ∃ cy, a.eval y = cy := ⟨_, rfl⟩
        obtain ⟨cz, q3⟩ : ∃ cz, a.eval z = cz := ⟨_, rfl⟩
        rw [q1] at hx
        rw [q2] at hy
        rw [q3] at hz
        cases hx; cases hy; cases hz
        refine wp_value (cv := .int k (min3I a' b' d')) ?_ ⟨_, hk, put_n _ _ _, hrel.put hd (.int _ _)⟩
        unfold execOp
        rw [ho]; simp [resolve, invoke, builtin, q1, q2, q3, Builtin.min_, Builtin.min2, min3I]
      · cases h
    · cases h
  · cases h
def aopX (P : Program) (cf : Cfg) (o : Oper) (K : St → Prop) (s : St) : Prop := if isMin3 o = true then ∃ v, min3Q o s = some v ∧ K ({ s with m := s.m }.put o.dst v) else aop P cf o K s
def aopsX (P : Program) (cf : Cfg) : List Oper → (St → Prop) → St → Prop
  | [], K, s => K s
  | o :: rest, K, s => o.guard = none ∧ aopX P cf o (aopsX P cf rest K) s
theorem aopX_sound {F G : Nat → Prop} {w0 w : World} {s : St} {a : Act} (hrel : Rel F G w0 s a w) {cf : Cfg} (hav : ∀ b, cf.av b → b < w.heap.size) {o : Oper} (hok : opOk s.n o = true) {K : St → Prop} (h : aopX P cf o K s) (Q : Exit → Act → World → Prop) : o.wp P a w (Lands F G w0 s.n K) Q := by
  unfold aopX at h
  split at h
  · obtain ⟨v, h1, h2⟩ := h
    exact min3_sound hrel hok h1 h2 Q
  · exact aop_sound hrel hav hok h Q
theorem aopsX_sound {F G : Nat → Prop} {w0 : World} {cf : Cfg} (hcf : ∀ b, ¬ cf.av b) {ops : Array Oper} {K : St → Prop} {QQ : Exit → Act → World → Prop} (n : Nat) (hQ : ∀ a w, Lands F G w0 n K a w → QQ .normal a w) :
    ∀ (l : List Oper) (s : St) (a : Act) (w : World), s.n = n → (∀ o ∈ l, (opOk n o && grdOk ops n o) = true) → Rel F G w0 s a w → aopsX P cf l K s → wpList P ops QQ l a w
  | [], s, a, w, hn, _, hr, hk => hQ a w ⟨s, hk, hn, hr⟩
  | o :: rest, s, a, w, hn, hok, hr, hk => by
    have ho := hok o (by simp)
    rw [Bool.and_eq_true] at ho
    have hrest : ∀ o ∈ rest, (opOk n o && grdOk ops n o) = true := fun x hx => hok x (by simp [hx])
    have hmono : ∀ {s : St} {a : Act} {w : World}, s.n = n → Lands F G w0 s.n (aopsX P cf rest K) a w → wpList P ops QQ rest a w := by
      rintro s a w hn ⟨s', h1, h2, h3⟩
      exact aopsX_sound hcf n hQ rest s' a w (h2.trans hn) hrest h3 h1
    have hop : Rel F G w0 s a w → aopX P cf o (aopsX P cf rest K) s → o.wp P a w (wpList P ops QQ rest) QQ := by
      intro hr hk
      have := aopX_sound hr (fun b hb => (hcf b hb).elim) (by rw [hn]; exact ho.1) hk QQ
      unfold Oper.wp at this ⊢
      revert this
      generalize (execOp a.eval o).run P w = res
      intro this
      have hm : ∀ a w, Lands F G w0 s.n (aopsX P cf rest K) a w → wpList P ops QQ rest a w := fun a w h => hmono hn h
      unfold Oper.upon at this ⊢
      split at this <;> first
        | exact hm _ _ this
        | (refine Calls.mono this ?_; intro e w' h; cases e <;> first | exact hm _ _ h | exact h)
        | (refine Rows.mono this ?_; intro e w' h; exact hm _ _ h)
        | exact this
        | exact this.elim
    unfold wpList
    unfold aopsX at hk
    rw [if_pos (by simp [Region.wanted, hk.1])]
    exact .inl (hop hr hk.2)
theorem AW.rg3 {Q : Exit → St → Prop} {s : St} {id : Nat} {ops : Array Oper} (h : aopsX P (Cfg.txt fun _ => false) ops.toList (Q .normal) s) (hok : regionOk s.n ops = true := by kernel_rfl) : AW P (.region id ops false) Q s := by
  intro F G w0 a w hr
  refine wp_region_list (aopsX_sound (F := F) (G := G) (w0 := w0) (cf := Cfg.txt fun _ => false) (fun _ h => h) s.n (K := Q .normal) (fun a w h => h) ops.toList s a w rfl (fun o ho => ?_) hr h)
  unfold regionOk at hok
  exact List.all_eq_true.1 hok o ho
@[simp] theorem aopsX_nil (cf : Cfg) (K : St → Prop) (s : St) : aopsX P cf [] K s = K s := (rfl)
@[simp] theorem aopsX_cons (cf : Cfg) (d : Option Tmp) (op : Op) (t : TypeId) (p : String) (a : Array Edge) (l : List Oper) (K : St → Prop) (s : St) :
    aopsX P cf ({ dst := d, op := op, type := t, pos := p, after := a, guard := none } :: l) K s ↔ aopX P cf { dst := d, op := op, type := t, pos := p, after := a, guard := none } (aopsX P cf l K) s := by
  show (_ ∧ _) ↔ _
  simp
end
end Go.Av
end
section
namespace Go.Av
open Go.Proofs
theorem isLarge_no {X : List (List Rat)} {n w : Nat} (hX : matGood n w X) (hw : (mrow X 0).length = w) (hn : n ≤ 10) (hw' : w ≤ 10) : isLarge (emb X) = false := by
  unfold isLarge
  rw [emb_length, hX.2.2, emb_row, List.length_map, hw]
  simp; omega
set_option maxHeartbeats 1000000
theorem square_own (X : List (List Rat)) (n w : Nat) (hX : matGood n w X) (hw : (mrow X 0).length = w) (hn : 0 < n) (hn' : n ≤ 10) (hw' : w ≤ 10) : ACall Tryz.prog 25 [matAV (emb X)] Mem.emp fun v mm => ∃ rv rb, v = .tup [rv, .bool true] ∧ LstO mm 42 1 rv rb ((emb (sqM X (min n w))).map rowAV) := by
  have hck := check2_call (emb X) (lb_emb X)
  rw [chk_good hX hw (by omega) (by omega)] at hck
  have hla := large_call (emb X) (lb_emb X)
  rw [isLarge_no hX hw hn' hw'] at hla
  have hXl := hX.2.2
  have hEl : (emb X).length = n := by rw [emb_length]; exact hXl
  have hwE : (mrow (emb X) 0).length = w := by rw [emb_row, List.length_map, hw]
  refine acall_S Tryz.func25 rfl rfl 39 rfl (Nat.le_of_ble_eq_true rfl) ?_
  (repeat refine AW.seq_k fun K hK => ?_); refine AW.rg ?_; simp [argsL]; try (refine hK _ rfl ?_; clear hK; clear K)
  (repeat refine AW.seq_k fun K hK => ?_); refine AW.rg ?_; simp; try (refine hK _ rfl ?_; clear hK; clear K)
  refine CallK.val hck ?_; simp; refine CallK.val hla ?_; simp; refine hK _ rfl ?_; clear hK; clear K; refine AW.no ?_ rfl; refine AW.skip ?_; try simp
  refine hK _ rfl ?_; clear hK; clear K
  have hz' : ¬ (n = 0) := by omega
  (repeat refine AW.seq_k fun K hK => ?_); refine AW.rg ?_; simp [hEl, hz']; try (refine hK _ rfl ?_; clear hK; clear K)
  refine AW.no ?_ rfl; refine AW.skip ?_; try simp
  refine hK _ rfl ?_; clear hK; clear K; (repeat refine AW.seq_k fun K hK => ?_); refine AW.rg ?_; simp [hEl, hn, hwE]; try (refine hK _ rfl ?_; clear hK; clear K)
  have hmn : (if w < n then (w : Int) else (n : Int)) = ((min n w : Nat) : Int) := by
    split <;> omega
  rw [hmn]
  have hkn : min n w ≤ n := by omega
  have hkw : min n w ≤ w := by omega
  generalize min n w = k at *
  have hXm : matGood n w X := hX
  (repeat refine AW.seq_k fun K hK => ?_); refine AW.rg ?_; simp; try (refine hK _ rfl ?_; clear hK; clear K)
  refine AW.seq_ex (ι := SqL) (fun s => [(5, s.rv)]) (fun s => s.M) (fun s => LstO s.M 42 1 s.rv s.rb ((emb (sqM X k)).map rowAV)) ?_ ?_
  · (repeat refine AW.seq_k fun K hK => ?_); refine AW.rg ?_; simp; try (refine hK _ rfl ?_; clear hK; clear K)
    refine AW.block (AW.loopS (ι := Nat × SqL) (fun z => [(0, matAV (emb X)), (4, .int .i64 (k : Nat)), (5, z.2.rv), (6, .int .i64 (z.1 : Nat))]) (fun z => z.2.M) (fun z => z.1 ≤ k ∧ LstO z.2.M 42 1 z.2.rv z.2.rb ((emb ((sqM X k).take z.1)).map rowAV)) (fun z => k - z.1) (0, ⟨Mem.emp, .nil, []⟩) ⟨by simp, LstO.start _ _⟩ rfl (by simp) ?_)
    rintro ⟨i, M, ov, ob⟩ ⟨g1, g2⟩
    simp only at g1 g2; simp only; (repeat refine AW.seq_k fun K hK => ?_); refine AW.rg ?_; simp; try (refine hK _ rfl ?_; clear hK; clear K)
    (repeat refine AW.seq ?_)
    refine AW.cs (fun hi => ?_) (fun hi => ?_) rfl <;> (try simp at hi)
    · refine AW.skip ?_; try simp
      refine hK _ rfl ?_; clear hK; clear K
      have w1 : IntKind.i64.wrap ((i + 1 : Nat) : Int) = ((i + 1 : Nat) : Int) := wi (by omega)
      have hin : i < n := by omega
      have hli : (mrow (emb X) i).length = w := by rw [emb_row, List.length_map]; exact (hXm.row hin).2
      have hll : ((emb ((sqM X k).take i)).map rowAV).length = i := by rw [List.length_map, emb_length]; simp [sqM, hXl]; omega
      have hcut : ∀ (size bytes : Nat) (zero : AV) (fs : List (Nat × Nat × Option Bool)), sliceAV Tryz.prog ⟨size, bytes, .slice 36, zero, fs⟩ (rowAV (mrow (emb X) i)) none (some (.int .i64 (k : Nat))) = some (rowAV (((mrow X i).map ofQ).take k)) := fun _ _ _ _ => by
        rw [slice_row (by omega), emb_row]
      have hfin : ∀ s : SqL, LstO s.M 42 1 s.rv s.rb ((emb ((sqM X k).take i)).map rowAV ++ [rowAV (((mrow X i).map ofQ).take k)]) → LstO s.M 42 1 s.rv s.rb ((emb ((sqM X k).take (i + 1))).map rowAV) := by
        intro s h2
        rw [sqM_succ hi (by omega), show (emb ((sqM X k).take i ++ [(mrow X i).take k])).map rowAV = (emb ((sqM X k).take i)).map rowAV ++ [rowAV (((mrow X i).take k).map ofQ)] by simp [emb], List.map_take]
        exact h2
      refine AW.seq_ex (ι := SqL) (fun s => [(0, matAV (emb X)), (4, .int .i64 (k : Nat)), (5, s.rv), (6, .int .i64 (i : Nat))]) (fun s => s.M) (fun s => LstO s.M 42 1 s.rv s.rb ((emb ((sqM X k).take (i + 1))).map rowAV)) ?_ ?_
      · (repeat refine AW.seq ?_); refine AW.block ?_
        generalize (emb ((sqM X k).take i)).map rowAV = l at *
        rcases g2.lst with ⟨z1, z2, z3⟩ | ⟨b0, z2, z3, z4⟩
        · subst z1 z2 z3; (repeat refine AW.seq_k fun K hK => ?_)
          refine AW.rgR [36] ?_
          simp [hEl, hin, hli, hcut]; try (refine hK _ rfl ?_; clear hK; clear K)
          exact ⟨by unfold maxLen; omega, Fresh.intro fun b hb => ⟨⟨_, _, [b]⟩, hfin _ (g2.push0 b _), rfl, rfl⟩⟩
        · subst z2 z3; (repeat refine AW.seq_k fun K hK => ?_)
          refine AW.rgR [36] ?_
          simp [hEl, hin, hli, hcut, z4]; try (refine hK _ rfl ?_; clear hK; clear K)
          exact ⟨by omega, by unfold maxLen; omega, Fresh.intro fun b hb => ⟨⟨_, _, [b]⟩, hfin _ (g2.push1 b _), rfl, rfl⟩⟩
      rintro ⟨M, ov, ob⟩ hs
      (repeat refine AW.seq_k fun K hK => ?_); refine AW.rg ?_; simp [-Int.natCast_add, w1]; try (refine hK _ rfl ?_; clear hK; clear K)
      exact ⟨i + 1, ⟨M, ov, ob⟩, ⟨hi, hs⟩, by omega, by simp⟩
    · refine AW.exit ?_
      try simp
      have : i = k := by omega
      subst this
      rw [List.take_of_length_le (by simp [sqM]; omega)] at g2
      exact ⟨⟨M, ov, ob⟩, g2, by simp⟩
  rintro ⟨M, ov, ob⟩ g2
  simp only at g2; simp only; (repeat refine AW.seq_k fun K hK => ?_); refine AW.rg ?_; simp; try (refine hK _ rfl ?_; clear hK; clear K)
  exact AW.ret (ret_mem (vs := [ov, .bool true]) rfl (g2.ones (rowAV_ones _)) ⟨ov, ob, rfl, g2⟩)
/-! ### Made symmetric -/
def symR (A : List (List Rat)) (i : Nat) : Nat → List Rat
  | 0 => mrow A i
  | t + 1 => (symR A i t).set (i + 1 + t) (qel A (i + 1 + t) i)
def symM (A : List (List Rat)) (k : Nat) : Nat → List (List Rat)
  | 0 => A
  | i + 1 => (symM A k i).set i (symR A i (k - (i + 1)))
section
variable {A : List (List Rat)} {k : Nat}
theorem symR_good (hA : matGood k k A) {i : Nat} (hi : i < k) : ∀ t, i + 1 + t ≤ k → rowGood (symR A i t) ∧ (symR A i t).length = k
  | 0, _ => hA.row hi
  | t + 1, h => by
    obtain ⟨h1, h2⟩ := symR_good hA hi t (by omega)
    exact ⟨good_set h1 _ (hA.1.at (by rw [(hA.row (show i + 1 + t < k by omega)).2]; exact hi)), by unfold symR; rw [List.length_set, h2]⟩
theorem symR_at (hA : matGood k k A) {i : Nat} (hi : i < k) (b : Nat) : ∀ t, i + 1 + t ≤ k → qat (symR A i t) b = if i < b ∧ b < i + 1 + t then qel A b i else qel A i b
  | 0, _ => by rw [if_neg (by omega)]; rfl
  | t + 1, h => by
    show qat ((symR A i t).set (i + 1 + t) (qel A (i + 1 + t) i)) b = _
    rw [qat_set (by rw [(symR_good hA hi t (by omega)).2]; omega), symR_at hA hi b t (by omega)]
    by_cases e : b = i + 1 + t
    · rw [if_pos e, if_pos (by omega), e]
    · rw [if_neg e]
      by_cases e2 : i < b ∧ b < i + 1 + t
      · rw [if_pos e2, if_pos (by omega)]
      · rw [if_neg e2, if_neg (by omega)]
theorem symM_good (hA : matGood k k A) : ∀ i, i ≤ k → matGood k k (symM A k i) ∧ ∀ a, mrow (symM A k i) a = if a < i then symR A a (k - (a + 1)) else mrow A a
  | 0, _ => ⟨hA, fun a => by rw [if_neg (by omega)]; rfl⟩
  | i + 1, h => by
    obtain ⟨h1, h2⟩ := symM_good hA i (by omega)
    refine ⟨h1.set i (symR_good hA (by omega) _ (by omega)), fun a => ?_⟩
    show mrow ((symM A k i).set i _) a = _
    rw [mrow_set (by rw [h1.2.2]; omega), h2]
    by_cases e : a = i
    · rw [if_pos e, if_pos (by omega), e]
    · rw [if_neg e]
      by_cases e2 : a < i
      · rw [if_pos e2, if_pos (by omega)]
      · rw [if_neg e2, if_neg (by omega)]
theorem symM_symm (hA : matGood k k A) : symm (symM A k k) k := by
  have h := (symM_good hA k (Nat.le_refl _)).2
  have e : ∀ a b, a < k → b < k → qel (symM A k k) a b = if a < b then qel A b a else qel A a b := fun a b ha hb => by
    unfold qel
    rw [h, if_pos ha, symR_at hA ha b _ (by omega)]
    by_cases e : a < b
    · rw [if_pos (by omega), if_pos e]; rfl
    · rw [if_neg (by omega), if_neg e]; rfl
  intro i hi j hj
  rw [e i j hi (by omega), e j i (by omega) hi, if_neg (by omega), if_pos hj]
end
theorem TwoL.pushR {M : Mem} {ov : AV} {ob : List Nat} {l r : List AV} (h : LstO M 42 1 ov ob l) {b : Nat} (hb : M b = none) : TwoL (M.set b ⟨36, 4, r⟩) ov ob l (.osl b 4 0 r.length) [b] r := by
  have h' := TwoL.start h
  obtain ⟨f1, _⟩ := h'.fresh hb
  refine ⟨h.lst.keep fun a ha => by simp only [set_at]; rw [if_neg (by rintro rfl; exact f1 ha)], .inr ⟨b, rfl, rfl, by simp⟩, OnlyM.set (h'.only.sub fun a ha => by simp at ha ⊢; exact .inl ha) (by simp) _, fun a ha => by simp; rintro rfl; exact f1 ha⟩
theorem LstO.put {M : Mem} {B : Nat} {l : List AV} (h : LstO M 42 1 (.osl B 1 0 l.length) [B] l) (i : Nat) (v : AV) : LstO (M.set B ⟨42, 1, l.set i v⟩) 42 1 (.osl B 1 0 (l.set i v).length) [B] (l.set i v) :=
  ⟨.inr ⟨B, rfl, rfl, by simp⟩, OnlyM.set h.only (by simp) _⟩
theorem square_take {X : List (List Rat)} {n k : Nat} (hX : matGood n n X) (hk : k ≤ n) (h0 : 0 < k) (hn : n ≤ 10) : matGood k n (X.take k) ∧ (mrow (X.take k) 0).length = n ∧ matGood k k (sqM (X.take k) k) := by
  have hr : ∀ i, i < k → mrow (X.take k) i = mrow X i := fun i hi => by
    unfold mrow
    rw [List.getD_eq_getElem?_getD, List.getElem?_take, if_pos hi, ← List.getD_eq_getElem?_getD]
  have hl : (X.take k).length = k := by rw [List.length_take, hX.2.2]; omega
  have h1 : matGood k n (X.take k) := ⟨fun r hr q hq => hX.1 r (List.mem_of_mem_take hr) q hq, fun i hi => by
    rw [hl] at hi
    rw [hr i hi]; exact (hX.row (by omega)).2, hl⟩
  exact ⟨h1, (h1.row h0).2, sqM_good h1 (Nat.le_refl _) hk⟩
theorem min3_eq (a b : Nat) : min3I (a : Int) (b : Int) 6 = ((min (min a b) 6 : Nat) : Int) := by
  unfold min3I
  split <;> split <;> omega
end Go.Av
end
section
namespace Go.Av
open Go.Proofs
theorem congr_eq {n : Nat} {T S P Q : List (List Rat)} (hT : matGood n n T) (hS : matGood n n S) (hn : 0 < n) (h1 : timesQ (trM T n n) S = some P) (hP : matGood n n P) (h2 : timesQ P T = some Q) (a b : Nat) (ha : a < n) (hb : b < n) : qel Q a b = sumN n fun k => (sumN n fun l => qel T l a * qel S l k) * qel T k b := by
  rw [times_eq h2 (by rw [hP.2.2]; exact ha) (by rw [(hT.row hn).2]; exact hb), hT.2.2]
  refine sumN_congr fun k hk => ?_
  rw [times_eq h1 (by rw [(tr_good hT).2.2]; exact ha) (by rw [(hS.row hn).2]; exact hk), hS.2.2]
  congr 1
  exact sumN_congr fun l hl => by rw [qel_tr ha hl]
theorem congr_symm {n : Nat} {T S Q : List (List Rat)} (hSs : symm S n) (h : ∀ a b, a < n → b < n → qel Q a b = sumN n fun k => (sumN n fun l => qel T l a * qel S l k) * qel T k b) : symm Q n := by
  have hs : ∀ a b, a < n → b < n → qel S a b = qel S b a := fun a b ha hb => by
    rcases Nat.lt_trichotomy a b with e | e | e
    · exact (hSs b hb a e).symm
    · rw [e]
    · exact hSs a ha b e
  intro i hi j hj
  rw [h i j hi (by omega), h j i (by omega) hi]
  have e : ∀ a b, sumN n (fun k => (sumN n fun l => qel T l a * qel S l k) * qel T k b) = sumN n fun k => sumN n fun l => qel T l a * qel S l k * qel T k b := fun a b => sumN_congr fun k _ => by
    rw [show (sumN n fun l => qel T l a * qel S l k) * qel T k b = qel T k b * sumN n fun l => qel T l a * qel S l k by grind, ← sumN_mul]
    exact sumN_congr fun l _ => by grind
  rw [e i j, e j i, sumN_comm]
  exact sumN_congr fun k hk => sumN_congr fun l hl => by rw [hs k l hk hl]; grind
theorem squareR_take {X : List (List Rat)} {k n : Nat} (hX : matGood k n X) (hw : (mrow X 0).length = n) (hk : k ≤ n) (hk' : k ≤ 10) (hn : n ≤ 10) : squareR (emb X) = (sqM X k, true) := by
  unfold squareR
  rw [if_neg (by rw [chk_good hX hw (by omega) (by omega), isLarge_no hX hw hk' hn]; simp), unq_emb, emb_length, hX.2.2, emb_row, List.length_map, hw, Nat.min_eq_left hk]
set_option maxHeartbeats 1000000
theorem lawInertia (m1 m2 : List (List RR)) (hm1 : LbM m1) (hm2 : LbM m2) : ACall Tryz.prog 6 [matAV m1, matAV m2] Mem.emp fun v mm => v = .bool true ∧ mm = Mem.emp := by
  have hs1 := square_call m1 hm1
  have hs2 := square_call m2 hm2
  have hwk := works_call
  obtain ⟨n1, hn1, hX1⟩ := squareR_good hm1
  obtain ⟨n2, hn2, hX2⟩ := squareR_good hm2
  generalize squareR m1 = S1 at *
  generalize squareR m2 = S2 at *
  obtain ⟨X1, ok1⟩ := S1
  obtain ⟨X2, ok2⟩ := S2
  simp only at hs1 hs2 hX1 hX2
  have hl1 := emb_length X1
  have hl2 := emb_length X2
  refine acall_S Tryz.func6 rfl rfl 173 rfl (Nat.le_of_ble_eq_true rfl) ?_
  (repeat refine AW.seq_k fun K hK => ?_); refine AW.rg ?_; simp [argsL]; try (refine hK _ rfl ?_; clear hK; clear K)
  (repeat refine AW.seq_k fun K hK => ?_); refine AW.rg ?_; simp; try (refine hK _ rfl ?_; clear hK; clear K)
  refine CallK.val hs1 ?_; simp; refine hK _ rfl ?_; clear hK; clear K; (repeat refine AW.seq_k fun K hK => ?_); refine AW.rg ?_; simp; try (refine hK _ rfl ?_; clear hK; clear K)
  refine CallK.val hs2 ?_; simp; refine hK _ rfl ?_; clear hK; clear K
  cases ok1
  · (repeat refine AW.seq_k fun K hK => ?_); refine AW.rg ?_; simp; try (refine hK _ rfl ?_; clear hK; clear K)
    refine AW.yes ?_ rfl; (repeat refine AW.seq_k fun K hK => ?_); refine AW.rg ?_; simp; try (refine hK _ rfl ?_; clear hK; clear K)
    refine CallK.val hwk ?_; simp; refine hK _ rfl ?_; clear hK; clear K
    exact AW.ret (ret_views (vs := [.bool true]) [.bool true] (by simp) (by simp) ⟨rfl, rfl⟩)
  cases ok2
  · (repeat refine AW.seq_k fun K hK => ?_); refine AW.rg ?_; simp; try (refine hK _ rfl ?_; clear hK; clear K)
    refine AW.yes ?_ rfl; (repeat refine AW.seq_k fun K hK => ?_); refine AW.rg ?_; simp; try (refine hK _ rfl ?_; clear hK; clear K)
    refine CallK.val hwk ?_; simp; refine hK _ rfl ?_; clear hK; clear K
    exact AW.ret (ret_views (vs := [.bool true]) [.bool true] (by simp) (by simp) ⟨rfl, rfl⟩)
  (repeat refine AW.seq_k fun K hK => ?_); refine AW.rg ?_; simp; try (refine hK _ rfl ?_; clear hK; clear K)
  refine AW.no ?_ rfl; refine AW.skip ?_; try simp
  refine hK _ rfl ?_; clear hK; clear K
  refine AW.seq_k fun K hK => ?_
  refine AW.rg3 ?_
  simp [aopX, isMin3, min3Q, hl1, hl2, min3_eq]; refine hK _ rfl ?_; clear hK; clear K
  have hk1 : min X1.length (min X2.length 6) ≤ X1.length := by omega
  have hk2 : min X1.length (min X2.length 6) ≤ X2.length := by omega
  have hk6 : min X1.length (min X2.length 6) ≤ 6 := by omega
  generalize min X1.length (min X2.length 6) = k at *
  have hc1 := @slice_mat (emb X1) k (by omega)
  have hc2 := @slice_mat (emb X2) k (by omega)
  have et : ∀ (X : List (List Rat)), (emb X).take k = emb (X.take k) := fun X => by unfold emb; rw [List.map_take]
  rw [et] at hc1 hc2
  rcases Nat.eq_zero_or_pos k with h0 | h0
  · have hq1 := square_call (emb (X1.take k)) (lb_emb _)
    have hq2 := square_call (emb (X2.take k)) (lb_emb _)
    obtain ⟨j2, hj2, hB⟩ := squareR_good (lb_emb (X2.take k))
    generalize squareR (emb (X1.take k)) = T1 at *
    generalize squareR (emb (X2.take k)) = T2 at *
    obtain ⟨A, o1⟩ := T1
    obtain ⟨B, o2⟩ := T2
    simp only at hq1 hq2 hB
    have cB := det7_call (emb B) (lb_emb B)
    generalize detR (emb B) = zB at *
    obtain ⟨eB, dB⟩ := zB
    simp only at cB; (repeat refine AW.seq_k fun K hK => ?_); refine AW.rg ?_; simp [hc1]; try (refine hK _ rfl ?_; clear hK; clear K)
    refine CallK.val hq1 ?_; simp; refine hK _ rfl ?_; clear hK; clear K; (repeat refine AW.seq_k fun K hK => ?_); refine AW.rg ?_; simp [hc2]; try (refine hK _ rfl ?_; clear hK; clear K)
    refine CallK.val hq2 ?_; simp; refine hK _ rfl ?_; clear hK; clear K; (repeat refine AW.seq_k fun K hK => ?_); refine AW.rg ?_; simp; try (refine hK _ rfl ?_; clear hK; clear K)
    refine CallK.val cB ?_; simp
    refine Fresh.intro fun bB hbB => ?_
    simp only [set_none2, emp_at, and_true] at hbB
    refine hK _ rfl ?_; clear hK; clear K
    refine AW.toEmp [(9, .int .i64 k), (14, .rptr dB.av.cells), (15, .int .i64 eB)] (by simp; exact view_temp rfl) ?_
    by_cases e0 : eB = 0
    · (repeat refine AW.seq_k fun K hK => ?_); refine AW.rg ?_; simp [e0, h0]; try (refine hK _ rfl ?_; clear hK; clear K)
      refine AW.yes ?_ rfl; (repeat refine AW.seq_k fun K hK => ?_); refine AW.rg ?_; simp; try (refine hK _ rfl ?_; clear hK; clear K)
      refine CallK.val hwk ?_; simp; refine hK _ rfl ?_; clear hK; clear K
      exact AW.ret (ret_views (vs := [.bool true]) [.bool true] (by simp) (by simp) ⟨rfl, rfl⟩)
    · (repeat refine AW.seq_k fun K hK => ?_); refine AW.rg ?_; simp [e0]; try (refine hK _ rfl ?_; clear hK; clear K)
      refine AW.yes ?_ rfl; (repeat refine AW.seq_k fun K hK => ?_); refine AW.rg ?_; simp; try (refine hK _ rfl ?_; clear hK; clear K)
      refine CallK.val hwk ?_; simp; refine hK _ rfl ?_; clear hK; clear K
      exact AW.ret (ret_views (vs := [.bool true]) [.bool true] (by simp) (by simp) ⟨rfl, rfl⟩)
  rw [hX1.2.2] at hk1
  rw [hX2.2.2] at hk2
  obtain ⟨p1, p2, p3⟩ := square_take hX1 hk1 h0 hn1
  obtain ⟨r1, r2, r3⟩ := square_take hX2 hk2 h0 hn2
  have hq1 := square_own (X1.take k) k n1 p1 p2 h0 (by omega) hn1
  rw [Nat.min_eq_left hk1] at hq1
  have hq2 := square_call (emb (X2.take k)) (lb_emb _)
  rw [squareR_take r1 r2 hk2 (by omega) hn2] at hq2
  generalize sqM (X1.take k) k = A at *
  generalize sqM (X2.take k) k = B at *
  simp only at hq2
  have cB := det7_call (emb B) (lb_emb B)
  have hdB := detR_cases r3 (by omega)
  generalize detR (emb B) = zB at *
  obtain ⟨eB, dB⟩ := zB
  simp only at cB; (repeat refine AW.seq_k fun K hK => ?_); refine AW.rg ?_; simp [hc1]; try (refine hK _ rfl ?_; clear hK; clear K)
  refine CallK.news hq1 ?_
  rintro v0 M ⟨rv, rb, hv, hlst⟩ _
  rw [emp_back]; subst hv; simp; refine hK _ rfl ?_; clear hK; clear K
  have hAl : ((emb A).map rowAV).length = k := by rw [List.length_map, emb_length, p3.2.2]
  have hMo : OnesM M := hlst.ones (rowAV_ones A)
  (repeat refine AW.seq_k fun K hK => ?_); refine AW.rg ?_; simp [hc2]; try (refine hK _ rfl ?_; clear hK; clear K)
  refine CallK.val hq2 ?_; simp; refine hK _ rfl ?_; clear hK; clear K; (repeat refine AW.seq_k fun K hK => ?_); refine AW.rg ?_; simp; try (refine hK _ rfl ?_; clear hK; clear K)
  refine CallK.val cB ?_; simp
  refine Fresh.intro fun b14 hb14 => ?_
  refine hK _ rfl ?_; clear hK; clear K
  refine AW.turn [(9, .int .i64 k), (10, rv), (12, matAV (emb B)), (14, .rptr dB.av.cells), (15, .int .i64 eB)] M (Recast.drop hb14 hMo) (by simp; exact view_temp hb14) ?_
  by_cases e0 : eB = 0
  · rcases hdB with h | ⟨h, gB⟩
    · cases h; exact absurd e0 (by decide)
    cases h
    have hsg := rsign2_call (ofQ (detF k (qel B))) (ofQ_lb _)
    rw [signR_ofQ gB] at hsg
    have hk0 : ¬ k = 0 := by omega
    by_cases hd : detF k (qel B) = 0
    · rw [signQ_zero.2 hd] at hsg
      (repeat refine AW.seq_k fun K hK => ?_); refine AW.rg ?_; simp [hk0]; try (refine hK _ rfl ?_; clear hK; clear K)
      refine CallK.val hsg ?_; simp; refine hK _ rfl ?_; clear hK; clear K; refine AW.yes ?_ rfl; (repeat refine AW.seq_k fun K hK => ?_); refine AW.rg ?_; simp; try (refine hK _ rfl ?_; clear hK; clear K)
      refine CallK.val hwk ?_; simp; refine hK _ rfl ?_; clear hK; clear K
      exact AW.ret (ret_views (vs := [.bool true]) [.bool true] (by simp) (by simp) ⟨rfl, rfl⟩)
    · have hsn : signQ (detF k (qel B)) ≠ 0 := fun h => hd (signQ_zero.1 h)
      generalize signQ (detF k (qel B)) = sg at *
      (repeat refine AW.seq_k fun K hK => ?_); refine AW.rg ?_; simp [hk0]; try (refine hK _ rfl ?_; clear hK; clear K)
      refine CallK.val hsg ?_; simp [hsn]; refine hK _ rfl ?_; clear hK; clear K; refine AW.no ?_ rfl; refine AW.skip ?_; try simp
      refine hK _ rfl ?_; clear hK; clear K
      rcases hlst.lst with ⟨z1, _, _⟩ | ⟨B0, rfl, rfl, z4⟩
      · rw [z1] at hAl; simp at hAl; omega
      rw [hAl] at hlst ⊢
      clear z4
      refine AW.seq_ex (ι := Mem) (fun _ => [(9, .int .i64 k), (10, .osl B0 1 0 k), (12, matAV (emb B))]) (fun M => M) (fun M => LstO M 42 1 (.osl B0 1 0 k) [B0] ((emb (symM A k k)).map rowAV)) ?_ ?_
      · (repeat refine AW.seq_k fun K hK => ?_); refine AW.rg ?_; simp; try (refine hK _ rfl ?_; clear hK; clear K)
        refine AW.block (AW.loopS (ι := Nat × Mem) (fun z => [(9, .int .i64 k), (10, .osl B0 1 0 k), (12, matAV (emb B)), (16, .int .i64 (z.1 : Nat))]) (fun z => z.2) (fun z => z.1 ≤ k ∧ LstO z.2 42 1 (.osl B0 1 0 k) [B0] ((emb (symM A k z.1)).map rowAV)) (fun z => k - z.1) (0, M) ⟨Nat.zero_le _, hlst⟩ rfl (by simp) ?_)
        clear hlst hMo
        rintro ⟨i, M⟩ ⟨g1, g2⟩
        simp only at g1 g2; simp only; (repeat refine AW.seq_k fun K hK => ?_); refine AW.rg ?_; simp; try (refine hK _ rfl ?_; clear hK; clear K)
        (repeat refine AW.seq ?_)
        refine AW.cs (fun hi => ?_) (fun hi => ?_) rfl <;> (try simp at hi)
        · refine AW.skip ?_; try simp
          refine hK _ rfl ?_; clear hK; clear K
          have w1 : IntKind.i64.wrap ((i + 1 : Nat) : Int) = ((i + 1 : Nat) : Int) := wi (by omega)
          obtain ⟨hSg, hSr⟩ := symM_good p3 i (by omega)
          have hones := rowAV_ones (symM A k i)
          have hll : ((emb (symM A k i)).map rowAV).length = k := by rw [List.length_map, emb_length, hSg.2.2]
          have hget : ∀ a, i ≤ a → a < k → ((emb (symM A k i)).map rowAV)[a]? = some (rowAV ((mrow A a).map ofQ)) := fun a h1 h2 => by
            rw [List.getElem?_map]
            unfold emb
            rw [List.getElem?_map, List.getElem?_eq_getElem (by rw [hSg.2.2]; exact h2)]
            have := hSr a
            rw [if_neg (by omega), mrow_eq (by rw [hSg.2.2]; exact h2)] at this
            rw [this]; rfl
          have hfin : ∀ M', LstO M' 42 1 (.osl B0 1 0 k) [B0] (((emb (symM A k i)).map rowAV).set i (rowAV ((symR A i (k - (i + 1))).map ofQ))) → LstO M' 42 1 (.osl B0 1 0 k) [B0] ((emb (symM A k (i + 1))).map rowAV) := fun M' h => by
            have e : (emb (symM A k (i + 1))).map rowAV = ((emb (symM A k i)).map rowAV).set i (rowAV ((symR A i (k - (i + 1))).map ofQ)) := by
              show (emb ((symM A k i).set i _)).map rowAV = _
              rw [emb_set, List.map_set]
            rw [e]; exact h
          generalize (emb (symM A k i)).map rowAV = l at *
          rcases g2.lst with ⟨_, h, _⟩ | ⟨b0, h, _, z4⟩
          · cases h
          cases h
          refine AW.seq_ex (ι := Mem) (fun _ => [(9, .int .i64 k), (10, .osl B0 1 0 k), (12, matAV (emb B)), (16, .int .i64 (i : Nat))]) (fun M => M) (fun M => LstO M 42 1 (.osl B0 1 0 k) [B0] ((emb (symM A k (i + 1))).map rowAV)) ?_ ?_
          · (repeat refine AW.seq ?_); refine AW.block ?_
            have gi := hget i (Nat.le_refl _) hi
            have hri : ((mrow A i).map ofQ).length = k := by rw [List.length_map]; exact (p3.row hi).2
            (repeat refine AW.seq_k fun K hK => ?_); refine AW.rg ?_; simp [z4, gi, hi]; try (refine hK _ rfl ?_; clear hK; clear K)
            refine Fresh.intro fun b1 hb1 => ?_
            have n1 : B0 ≠ b1 := by rintro rfl; rw [z4] at hb1; cases hb1
            simp [n1, gi, hri]
            refine ⟨by omega, by unfold maxLen; omega, ?_⟩
            rw [del_none hb1]
            refine Fresh.intro fun b2 hb2 => ?_
            have n2 : B0 ≠ b2 := by rintro rfl; rw [z4] at hb2; cases hb2
            refine hK _ rfl ?_; clear hK; clear K
            refine AW.seq_ex (ι := Unit) (fun _ => [(9, .int .i64 k), (10, .osl B0 1 0 k), (12, matAV (emb B)), (16, .int .i64 (i : Nat)), (17, .osl b2 4 0 k)]) (fun _ => M.set b2 ⟨36, 4, rrs ((symR A i (k - (i + 1))).map ofQ)⟩) (fun _ => True) ?_ ?_
            · (repeat refine AW.seq_k fun K hK => ?_); refine AW.rg ?_; simp [-Int.natCast_add, w1]; try (refine hK _ rfl ?_; clear hK; clear K)
              refine AW.block (AW.loopS (ι := Nat) (fun t => [(9, .int .i64 k), (10, .osl B0 1 0 k), (12, matAV (emb B)), (16, .int .i64 (i : Nat)), (17, .osl b2 4 0 k), (18, .int .i64 (i + 1 + t : Nat))]) (fun t => M.set b2 ⟨36, 4, rrs ((symR A i t).map ofQ)⟩) (fun t => i + 1 + t ≤ k) (fun t => k - (i + 1 + t)) 0 (by omega) rfl (by simp [-Int.natCast_add]) ?_)
              rintro t ht0
              (repeat refine AW.seq_k fun K hK => ?_); refine AW.rg ?_; simp [-Int.natCast_add]; try (refine hK _ rfl ?_; clear hK; clear K)
              (repeat refine AW.seq ?_)
              refine AW.cs (fun ht => ?_) (fun ht => ?_) rfl <;> (try simp at ht)
              · refine AW.skip ?_
                try simp [-Int.natCast_add]
                refine hK _ rfl ?_; clear hK; clear K
                have w2 : IntKind.i64.wrap ((i + 1 + t + 1 : Nat) : Int) = ((i + 1 + (t + 1) : Nat) : Int) := wi (by omega)
                obtain ⟨q1, q2⟩ := symR_good p3 hi t ht0
                have hrl : (rrs ((symR A i t).map ofQ)).length = k := by rw [rrs_length, List.length_map, q2]
                have gj := hget (i + 1 + t) (by omega) ht
                have hrj : ((mrow A (i + 1 + t)).map ofQ).length = k := by rw [List.length_map]; exact (p3.row ht).2
                have eji : rr ((mrow A (i + 1 + t)).map ofQ) i = ofQ (qel A (i + 1 + t) i) := by rw [rr_map (by rw [(p3.row ht).2]; exact hi)]; rfl
                have hnx : (rrs ((symR A i t).map ofQ)).set (i + 1 + t) (ofQ (qel A (i + 1 + t) i)).av = rrs ((symR A i (t + 1)).map ofQ) := by
                  show _ = rrs (((symR A i t).set (i + 1 + t) (qel A (i + 1 + t) i)).map ofQ)
                  unfold rrs
                  rw [List.map_set, List.map_set]
                refine AW.seq_ex (ι := Unit) (fun _ => [(9, .int .i64 k), (10, .osl B0 1 0 k), (12, matAV (emb B)), (16, .int .i64 (i : Nat)), (17, .osl b2 4 0 k), (18, .int .i64 (i + 1 + t : Nat))]) (fun _ => M.set b2 ⟨36, 4, rrs ((symR A i (t + 1)).map ofQ)⟩) (fun _ => True) ?_ ?_
                · (repeat refine AW.seq ?_); refine AW.block ?_; (repeat refine AW.seq_k fun K hK => ?_); refine AW.rg ?_; simp [-Int.natCast_add, n2, Ne.symm n2, z4, gj, hrj, hi, ht, eji, hrl]; try (refine hK _ rfl ?_; clear hK; clear K)
                  rw [← hnx]
                  rfl
                rintro _ _
                (repeat refine AW.seq_k fun K hK => ?_); refine AW.rg ?_; simp [-Int.natCast_add, w2]; try (refine hK _ rfl ?_; clear hK; clear K)
                exact ⟨t + 1, by omega, by omega, rfl, rfl⟩
              · refine AW.exit ?_
                try simp [-Int.natCast_add]
                rw [show t = k - (i + 1) by omega]
            rintro _ _
            have hrk : ((symR A i (k - (i + 1))).map ofQ).length = k := by rw [List.length_map, (symR_good p3 hi _ (by omega)).2]
            have htw := TwoL.pushR (r := rrs ((symR A i (k - (i + 1))).map ofQ)) g2 hb2
            rw [rrs_length, hrk] at htw
            obtain ⟨M', t1, t2, t3, t4⟩ := htw.done hones
            refine AW.turn [(9, .int .i64 k), (10, .osl B0 1 0 k), (12, matAV (emb B)), (16, .int .i64 (i : Nat)), (17, rowAV ((symR A i (k - (i + 1))).map ofQ))] M' t1 ?_ ?_
            · simp
              exact t3
            rcases t2.lst with ⟨_, h, _⟩ | ⟨b0, h, _, z5⟩
            · cases h
            cases h
            have hpu := LstO.put (l := l) (by rw [hll]; exact t2) i (rowAV ((symR A i (k - (i + 1))).map ofQ))
            rw [List.length_set, hll] at hpu
            (repeat refine AW.seq_k fun K hK => ?_); refine AW.rg ?_; simp [z5, hll, hi]; try (refine hK _ rfl ?_; clear hK; clear K)
            exact hfin _ hpu
          rintro M hs
          (repeat refine AW.seq_k fun K hK => ?_); refine AW.rg ?_; simp [-Int.natCast_add, w1]; try (refine hK _ rfl ?_; clear hK; clear K)
          exact ⟨i + 1, M, ⟨hi, hs⟩, by omega, rfl, rfl⟩
        · refine AW.exit ?_
          try simp
          have : i = k := by omega
          subst this
          exact g2
      rintro M hlst
      have hv := hlst.lst.view (M' := Mem.emp) (fun _ _ => rfl)
      have hSg := (symM_good p3 k (Nat.le_refl _)).1
      have hSs := symM_symm p3
      generalize symM A k k = S at *
      refine AW.toEmp [(10, matAV (emb S)), (12, matAV (emb B))] (by simp; exact hv) ?_
      have htr := transposed_call B k k r3 (fun h => h) (by omega) (by omega)
      have ht1 := times7_call (emb (trM B k k)) (emb S) (lb_emb _) (lb_emb _)
      rcases times_cases (tr_good r3) hSg h0 h0 (by omega) (by omega) (by omega) with hz | ⟨P, hz, hPq, hPg⟩
      · rw [hz] at ht1
        have ht2 := times7_call (emb []) (emb B) (lb_emb _) (lb_emb _)
        generalize timR (emb []) (emb B) = z2 at *
        obtain ⟨e2, Q⟩ := z2
        simp only at ht1 ht2; (repeat refine AW.seq_k fun K hK => ?_); refine AW.rg ?_; simp; try (refine hK _ rfl ?_; clear hK; clear K)
        refine CallK.val htr ?_; simp; refine CallK.val ht1 ?_; simp; refine hK _ rfl ?_; clear hK; clear K; (repeat refine AW.seq_k fun K hK => ?_); refine AW.rg ?_; simp; try (refine hK _ rfl ?_; clear hK; clear K)
        refine CallK.val ht2 ?_; simp; refine hK _ rfl ?_; clear hK; clear K; (repeat refine AW.seq_k fun K hK => ?_); refine AW.rg ?_; simp; try (refine hK _ rfl ?_; clear hK; clear K)
        refine AW.yes ?_ rfl; (repeat refine AW.seq_k fun K hK => ?_); refine AW.rg ?_; simp; try (refine hK _ rfl ?_; clear hK; clear K)
        refine CallK.val hwk ?_; simp; refine hK _ rfl ?_; clear hK; clear K
        exact AW.ret (ret_views (vs := [.bool true]) [.bool true] (by simp) (by simp) ⟨rfl, rfl⟩)
      · rw [hz] at ht1
        have ht2 := times7_call (emb P) (emb B) (lb_emb _) (lb_emb _)
        simp only at ht1
        rcases times_cases hPg r3 h0 h0 (by omega) (by omega) (by omega) with hy | ⟨Q, hy, hQq, hQg⟩
        · rw [hy] at ht2
          simp only at ht2; (repeat refine AW.seq_k fun K hK => ?_); refine AW.rg ?_; simp; try (refine hK _ rfl ?_; clear hK; clear K)
          refine CallK.val htr ?_; simp; refine CallK.val ht1 ?_; simp; refine hK _ rfl ?_; clear hK; clear K; (repeat refine AW.seq_k fun K hK => ?_); refine AW.rg ?_; simp; try (refine hK _ rfl ?_; clear hK; clear K)
          refine CallK.val ht2 ?_; simp; refine hK _ rfl ?_; clear hK; clear K; (repeat refine AW.seq_k fun K hK => ?_); refine AW.rg ?_; simp; try (refine hK _ rfl ?_; clear hK; clear K)
          refine AW.yes ?_ rfl; (repeat refine AW.seq_k fun K hK => ?_); refine AW.rg ?_; simp; try (refine hK _ rfl ?_; clear hK; clear K)
          refine CallK.val hwk ?_; simp; refine hK _ rfl ?_; clear hK; clear K
          exact AW.ret (ret_views (vs := [.bool true]) [.bool true] (by simp) (by simp) ⟨rfl, rfl⟩)
        · rw [hy] at ht2
          simp only at ht2
          have hce := fun a b ha hb => congr_eq r3 hSg h0 hPq hPg hQq a b ha hb
          have hQs := congr_symm hSs hce
          have hsy := sylvester (T := qel B) hSg hSs hQg hQs (by omega) hd hce
          have q1 := squaresL_call (emb S) (lb_emb S)
          have q2 := squaresL_call (emb Q) (lb_emb Q)
          unfold sqAV at q1 q2
          generalize sqR (emb S) = U at *
          generalize sqR (emb Q) = W at *
          obtain ⟨u1, u2, u3, u4⟩ := U
          obtain ⟨x1, x2, x3, x4⟩ := W
          simp only at q1 q2 hsy; (repeat refine AW.seq_k fun K hK => ?_); refine AW.rg ?_; simp; try (refine hK _ rfl ?_; clear hK; clear K)
          refine CallK.val htr ?_; simp; refine CallK.val ht1 ?_; simp; refine hK _ rfl ?_; clear hK; clear K; (repeat refine AW.seq_k fun K hK => ?_); refine AW.rg ?_; simp; try (refine hK _ rfl ?_; clear hK; clear K)
          refine CallK.val ht2 ?_; simp; refine hK _ rfl ?_; clear hK; clear K; (repeat refine AW.seq_k fun K hK => ?_); refine AW.rg ?_; simp; try (refine hK _ rfl ?_; clear hK; clear K)
          refine AW.no ?_ rfl; refine AW.skip ?_; try simp
          refine hK _ rfl ?_; clear hK; clear K; (repeat refine AW.seq_k fun K hK => ?_); refine AW.rg ?_; simp; try (refine hK _ rfl ?_; clear hK; clear K)
          refine CallK.val q1 ?_; simp; refine hK _ rfl ?_; clear hK; clear K; (repeat refine AW.seq_k fun K hK => ?_); refine AW.rg ?_; simp; try (refine hK _ rfl ?_; clear hK; clear K)
          refine CallK.val q2 ?_; simp; refine hK _ rfl ?_; clear hK; clear K
          have m1 : (u2.map ofQ).length = u2.length := by simp
          have m2 : (x2.map ofQ).length = x2.length := by simp
          have m3 : (u4.map ofQ).length = u4.length := by simp
          have m4 : (x4.map ofQ).length = x4.length := by simp
          by_cases y1 : u1 = 0
          · by_cases y2 : x1 = 0
            · rcases hsy with h | h | ⟨h5, h6⟩
              · exact absurd y1 h
              · exact absurd y2 h
              · (repeat refine AW.seq_k fun K hK => ?_); refine AW.rg ?_; simp [y1, y2, m1, m2, m3, m4, h5, h6]; try (refine hK _ rfl ?_; clear hK; clear K)
                refine CallK.val hwk ?_; simp [y1, y2, m1, m2, m3, m4, h5, h6]; refine hK _ rfl ?_; clear hK; clear K
                exact AW.ret (ret_views (vs := [.bool true]) [.bool true] (by simp) (by simp) ⟨rfl, rfl⟩)
            · (repeat refine AW.seq_k fun K hK => ?_); refine AW.rg ?_; simp [y1, y2]; try (refine hK _ rfl ?_; clear hK; clear K)
              refine CallK.val hwk ?_; simp [y1, y2]; refine hK _ rfl ?_; clear hK; clear K
              exact AW.ret (ret_views (vs := [.bool true]) [.bool true] (by simp) (by simp) ⟨rfl, rfl⟩)
          · (repeat refine AW.seq_k fun K hK => ?_); refine AW.rg ?_; simp [y1]; try (refine hK _ rfl ?_; clear hK; clear K)
            refine CallK.val hwk ?_; simp [y1]; refine hK _ rfl ?_; clear hK; clear K
            exact AW.ret (ret_views (vs := [.bool true]) [.bool true] (by simp) (by simp) ⟨rfl, rfl⟩)
  · (repeat refine AW.seq_k fun K hK => ?_); refine AW.rg ?_; simp [e0]; try (refine hK _ rfl ?_; clear hK; clear K)
    refine AW.yes ?_ rfl; (repeat refine AW.seq_k fun K hK => ?_); refine AW.rg ?_; simp; try (refine hK _ rfl ?_; clear hK; clear K)
    refine CallK.val hwk ?_; simp; refine hK _ rfl ?_; clear hK; clear K
    exact AW.ret (ret_views (vs := [.bool true]) [.bool true] (by simp) (by simp) ⟨rfl, rfl⟩)
end Go.Av
end
