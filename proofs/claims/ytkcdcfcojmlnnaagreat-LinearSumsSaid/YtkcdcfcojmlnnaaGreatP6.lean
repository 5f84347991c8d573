/- A part of the proof. -/
import Derived.Test.YtkcdcfcojmlnnaaGreatP5
set_option linter.all false
set_option exponentiation.threshold 5000
set_option maxRecDepth 10000
section
namespace Go.Av
open Go.Proofs
theorem sumN_two {n k l : Nat} {f : Nat → Rat} (hk : k < n) (hl : l < n) (hne : k ≠ l) (h : ∀ i, i < n → i ≠ k → i ≠ l → f i = 0) : sumN n f = f k + f l := by
  have e : sumN n f = sumN n (fun i => (if i = k then f k else 0) + if i = l then f l else 0) := sumN_congr fun i hi => by
    by_cases h1 : i = k
    · subst h1; rw [if_pos rfl, if_neg hne]; grind
    · by_cases h2 : i = l
      · subst h2; rw [if_neg h1, if_pos rfl]; grind
      · rw [if_neg h1, if_neg h2, h i hi h1 h2]; grind
  rw [e, sumN_add, sumN_single hk fun i _ h => if_neg h, sumN_single hl fun i _ h => if_neg h, if_pos rfl, if_pos rfl]
abbrev MF := Nat → Nat → Rat
def sgnN (i : Nat) : Rat := if i % 2 = 0 then 1 else -1
theorem sgnN_succ (i : Nat) : sgnN (i + 1) = -sgnN i := by
  unfold sgnN
  by_cases h : i % 2 = 0
  · rw [if_pos h, if_neg (by omega)]
  · rw [if_neg h, if_pos (by omega)]; grind
def skipN (i a : Nat) : Nat := if a < i then a else a + 1
def minorF (i : Nat) (M : MF) : MF := fun a b => M (skipN i a) (b + 1)
def detF : Nat → MF → Rat
  | 0, _ => 1
  | n + 1, M => sumN (n + 1) fun i => sgnN i * M i 0 * detF n (minorF i M)
theorem skip_lt {n i a : Nat} (h : a < n) : skipN i a < n + 1 := by unfold skipN; split <;> omega
theorem skip_ne (i a : Nat) : skipN i a ≠ i := by unfold skipN; split <;> omega
theorem detF_congr : ∀ {n : Nat} {M M' : MF}, (∀ a b, a < n → b < n → M a b = M' a b) → detF n M = detF n M'
  | 0, _, _, _ => rfl
  | n + 1, M, M', h => sumN_congr fun i hi => by
    rw [h i 0 hi (by omega), detF_congr (n := n) (M := minorF i M) (M' := minorF i M') fun a b ha hb => h _ _ (skip_lt ha) (by omega)]
/-- Functions of the rows: linear in each, zero if two are equal. -/
structure RowF (n : Nat) (F : MF → Rat) : Prop where
  congr : ∀ {M M' : MF}, (∀ a b, a < n → b < n → M a b = M' a b) → F M = F M'
  lin : ∀ {r : Nat} {c : Rat} {M U V : MF}, r < n → (∀ b, b < n → M r b = c * U r b + V r b) → (∀ a b, a < n → b < n → a ≠ r → U a b = M a b) → (∀ a b, a < n → b < n → a ≠ r → V a b = M a b) → F M = c * F U + F V
  alt : ∀ {r s : Nat} {M : MF}, r < n → s < n → r ≠ s → (∀ b, b < n → M r b = M s b) → F M = 0
theorem detF_lin : ∀ {n : Nat} {r : Nat} {c : Rat} {M U V : MF}, r < n → (∀ b, b < n → M r b = c * U r b + V r b) → (∀ a b, a < n → b < n → a ≠ r → U a b = M a b) → (∀ a b, a < n → b < n → a ≠ r → V a b = M a b) → detF n M = c * detF n U + detF n V
  | 0, r, c, M, U, V, hr, _, _, _ => by omega
  | n + 1, r, c, M, U, V, hr, h, hU, hV => by
    show sumN (n + 1) (fun i => sgnN i * M i 0 * detF n (minorF i M)) = c * sumN (n + 1) (fun i => sgnN i * U i 0 * detF n (minorF i U)) + sumN (n + 1) (fun i => sgnN i * V i 0 * detF n (minorF i V))
    rw [← sumN_mul, ← sumN_add]
    refine sumN_congr fun i hi => ?_
    by_cases e : i = r
    · subst e
      have e1 : detF n (minorF i U) = detF n (minorF i M) := detF_congr fun a b ha hb => hU _ _ (skip_lt ha) (by omega) (skip_ne i a)
      have e2 : detF n (minorF i V) = detF n (minorF i M) := detF_congr fun a b ha hb => hV _ _ (skip_lt ha) (by omega) (skip_ne i a)
      rw [e1, e2, h 0 (by omega)]; grind
    · have e1 : detF n (minorF i M) = c * detF n (minorF i U) + detF n (minorF i V) := by
        have hs : skipN i (if r < i then r else r - 1) = r := by
          by_cases q : r < i
          · rw [if_pos q]; exact if_pos q
          · rw [if_neg q]; unfold skipN; rw [if_neg (by omega)]; omega
        refine detF_lin (r := if r < i then r else r - 1) (by split <;> omega) (fun b hb => ?_) (fun a b ha hb hne => ?_) (fun a b ha hb hne => ?_)
        · show M (skipN i _) (b + 1) = c * U (skipN i _) (b + 1) + V (skipN i _) (b + 1)
          rw [hs]; exact h _ (by omega)
        · refine hU _ _ (skip_lt ha) (by omega) fun e3 => hne ?_
          unfold skipN at e3; split at e3 <;> split <;> omega
        · refine hV _ _ (skip_lt ha) (by omega) fun e3 => hne ?_
          unfold skipN at e3; split at e3 <;> split <;> omega
      rw [e1, hU i 0 hi (by omega) e, hV i 0 hi (by omega) e]; grind
theorem detF_adj : ∀ {n : Nat} {r : Nat} {M : MF}, r + 1 < n → (∀ b, b < n → M r b = M (r + 1) b) → detF n M = 0
  | 0, r, M, hr, _ => by omega
  | n + 1, r, M, hr, h => by
    show sumN (n + 1) (fun i => sgnN i * M i 0 * detF n (minorF i M)) = 0
    rw [sumN_two (k := r) (l := r + 1) (by omega) hr (by omega) fun i hi h1 h2 => by
      have : detF n (minorF i M) = 0 := by
        refine detF_adj (r := if i < r then r - 1 else r) (by split <;> omega) fun b hb => ?_
        show M (skipN i _) (b + 1) = M (skipN i _) (b + 1)
        by_cases e : i < r
        · rw [if_pos e]
          have e1 : skipN i (r - 1) = r := by unfold skipN; split <;> omega
          have e2 : skipN i (r - 1 + 1) = r + 1 := by unfold skipN; split <;> omega
          rw [e1, e2]; exact h _ (by omega)
        · rw [if_neg e]
          have e1 : skipN i r = r := by unfold skipN; split <;> omega
          have e2 : skipN i (r + 1) = r + 1 := by unfold skipN; split <;> omega
          rw [e1, e2]; exact h _ (by omega)
      rw [this]; grind]
    have e : detF n (minorF r M) = detF n (minorF (r + 1) M) := detF_congr fun a b ha hb => by
      show M (skipN r a) (b + 1) = M (skipN (r + 1) a) (b + 1)
      by_cases e : a = r
      · subst e
        have e1 : skipN a a = a + 1 := by unfold skipN; split <;> omega
        have e2 : skipN (a + 1) a = a := by unfold skipN; split <;> omega
        rw [e1, e2]; exact (h _ (by omega)).symm
      · have e1 : skipN r a = skipN (r + 1) a := by unfold skipN; split <;> split <;> omega
        rw [e1]
    rw [e, sgnN_succ, h 0 (by omega)]; grind
def swapF (M : MF) (r s : Nat) : MF := fun a b => if a = r then M s b else if a = s then M r b else M a b
theorem swap_of_alt {n r s : Nat} {F : MF → Rat} (hr : r < n) (hs : s < n) (hne : r ≠ s) (congr : ∀ {M M' : MF}, (∀ a b, a < n → b < n → M a b = M' a b) → F M = F M')
    (lin : ∀ {r : Nat} {c : Rat} {M U V : MF}, r < n → (∀ b, b < n → M r b = c * U r b + V r b) → (∀ a b, a < n → b < n → a ≠ r → U a b = M a b) → (∀ a b, a < n → b < n → a ≠ r → V a b = M a b) → F M = c * F U + F V)
    (alt : ∀ M : MF, (∀ b, b < n → M r b = M s b) → F M = 0) (M : MF) : F (swapF M r s) = -F M := by
  have W := fun (x y : Nat → Rat) (a b : Nat) => if a = r then x b else if a = s then y b else M a b
  let W : (Nat → Rat) → (Nat → Rat) → MF := fun x y a b => if a = r then x b else if a = s then y b else M a b
  let u := M r
  let v := M s
  let t : Nat → Rat := fun b => M r b + M s b
  have l1 : ∀ z, F (W t z) = F (W u z) + F (W v z) := fun z => by
    have := lin (r := r) (c := 1) (M := W t z) (U := W u z) (V := W v z) hr (fun b _ => by simp only [W, if_pos, u, v, t]; grind) (fun a b _ _ hn => by simp only [W, if_neg hn]) (fun a b _ _ hn => by simp only [W, if_neg hn])
    rw [this]; grind
  have l2 : ∀ z, F (W z t) = F (W z u) + F (W z v) := fun z => by
    have := lin (r := s) (c := 1) (M := W z t) (U := W z u) (V := W z v) hs (fun b _ => by simp only [W, if_neg (Ne.symm hne), if_pos, u, v, t]; grind) (fun a b _ _ hn => by simp only [W, if_neg hn]) (fun a b _ _ hn => by simp only [W, if_neg hn])
    rw [this]; grind
  have z : ∀ x, F (W x x) = 0 := fun x => alt _ fun b _ => by simp only [W, if_pos, if_neg (Ne.symm hne)]
  have e1 : F (W u v) = F M := congr fun a b _ _ => by
    simp only [W, u, v]
    by_cases h1 : a = r
    · rw [if_pos h1, h1]
    · rw [if_neg h1]
      by_cases h2 : a = s
      · rw [if_pos h2, h2]
      · rw [if_neg h2]
  have e2 : F (W v u) = F (swapF M r s) := congr fun a b _ _ => rfl
  have h1 := l1 t
  rw [z t, l2 u, l2 v, z u, z v, e1, e2] at h1
  grind
theorem detF_eq : ∀ {n : Nat} (k : Nat) {r : Nat} {M : MF}, r + k + 1 < n → (∀ b, b < n → M r b = M (r + k + 1) b) → detF n M = 0
  | n, 0, r, M, hr, h => detF_adj hr h
  | n, k + 1, r, M, hr, h => by
    have hs := swap_of_alt (F := detF n) (r := r + k + 1) (s := r + k + 2) (by omega) (by omega) (by omega) detF_congr detF_lin (fun M hM => detF_adj (r := r + k + 1) (by omega) hM) M
    have h0 : detF n (swapF M (r + k + 1) (r + k + 2)) = 0 := detF_eq k (r := r) (by omega) fun b hb => by
      unfold swapF
      rw [if_neg (by omega), if_neg (by omega), if_pos rfl]
      exact h b hb
    rw [h0] at hs
    grind
theorem detF_row (n : Nat) : RowF n (detF n) where
  congr := detF_congr
  lin := detF_lin
  alt := fun {r s M} hr hs hne h => by
    rcases Nat.lt_or_gt_of_ne hne with hl | hl
    · exact detF_eq (s - r - 1) (r := r) (by omega) fun b hb => by rw [show r + (s - r - 1) + 1 = s by omega]; exact h b hb
    · exact detF_eq (r - s - 1) (r := s) (by omega) fun b hb => by rw [show s + (r - s - 1) + 1 = r by omega]; exact (h b hb).symm
theorem RowF.swap {n : Nat} {F : MF → Rat} (h : RowF n F) {r s : Nat} (hr : r < n) (hs : s < n) (hne : r ≠ s) (M : MF) : F (swapF M r s) = -F M :=
  swap_of_alt hr hs hne h.congr h.lin (fun M hM => h.alt hr hs hne hM) M
def idF : MF := fun a b => if a = b then 1 else 0
theorem detF_id : ∀ n, detF n idF = 1
  | 0 => rfl
  | n + 1 => by
    show sumN (n + 1) (fun i => sgnN i * idF i 0 * detF n (minorF i idF)) = 1
    rw [sumN_single (k := 0) (by omega) fun i _ hi => by unfold idF; rw [if_neg hi]; grind]
    rw [detF_congr (M' := idF) fun a b ha hb => by
      show idF (skipN 0 a) (b + 1) = idF a b
      rw [show skipN 0 a = a + 1 from if_neg (by omega)]
      unfold idF
      by_cases e : a = b
      · rw [if_pos e, if_pos (by omega)]
      · rw [if_neg e, if_neg (by omega)], detF_id n]
    unfold sgnN idF
    simp
def setF (M : MF) (r : Nat) (u : Nat → Rat) : MF := fun a b => if a = r then u b else M a b
def eF (j : Nat) : Nat → Rat := fun b => if b = j then 1 else 0
theorem RowF.sum {n : Nat} {F : MF → Rat} (h : RowF n F) {k : Nat} (hk : k < n) (M : MF) : F M = sumN n fun j => M k j * F (setF M k (eF j)) := by
  have key : ∀ t, F (setF M k fun b => if b < t then M k b else 0) = sumN t fun j => M k j * F (setF M k (eF j)) := by
    intro t
    induction t with
    | zero =>
      have := h.lin (r := k) (c := 1) (M := setF M k fun b => if b < 0 then M k b else 0) (U := setF M k fun b => if b < 0 then M k b else 0) (V := setF M k fun b => if b < 0 then M k b else 0) hk (fun b _ => by unfold setF; rw [if_pos rfl]; dsimp only; rw [if_neg (by omega)]; grind) (fun _ _ _ _ _ => rfl) (fun _ _ _ _ _ => rfl)
      show _ = (0 : Rat)
      grind
    | succ t ih =>
      rw [sumN_succ, ← ih]
      have := h.lin (r := k) (c := M k t) (M := setF M k fun b => if b < t + 1 then M k b else 0) (U := setF M k (eF t)) (V := setF M k fun b => if b < t then M k b else 0) hk (fun b _ => by
        unfold setF eF
        rw [if_pos rfl, if_pos rfl, if_pos rfl]
        dsimp only
        by_cases e : b = t
        · subst e; rw [if_pos (by omega), if_pos rfl, if_neg (by omega)]; grind
        · rw [if_neg e]
          by_cases e2 : b < t
          · rw [if_pos (by omega), if_pos e2]; grind
          · rw [if_neg (by omega), if_neg e2]; grind) (fun a b _ _ hn => by unfold setF; rw [if_neg hn, if_neg hn]) (fun a b _ _ hn => by unfold setF; rw [if_neg hn, if_neg hn])
      rw [this]; grind
  rw [← key n]
  refine h.congr fun a b _ hb => ?_
  unfold setF
  by_cases e : a = k
  · rw [if_pos e]; dsimp only; rw [if_pos hb, e]
  · rw [if_neg e]
theorem pigeon : ∀ (m : Nat) (f : Nat → Nat), (∀ i, i ≤ m → f i < m) → ∃ i j, i < j ∧ j ≤ m ∧ f i = f j
  | 0, f, h => by have := h 0 (by omega); omega
  | m + 1, f, h => by
    by_cases e : ∃ i, i ≤ m ∧ f i = f (m + 1)
    · obtain ⟨i, hi, he⟩ := e
      exact ⟨i, m + 1, by omega, by omega, he⟩
    · have hne : ∀ i, i ≤ m → f i ≠ f (m + 1) := fun i hi he => e ⟨i, hi, he⟩
      obtain ⟨i, j, h1, h2, h3⟩ := pigeon m (fun i => if f (m + 1) < f i then f i - 1 else f i) fun i hi => by
        have := h i (by omega)
        have := h (m + 1) (by omega)
        have := hne i hi
        split <;> omega
      refine ⟨i, j, h1, by omega, ?_⟩
      have a1 := hne i (by omega)
      have a2 := hne j h2
      split at h3 <;> split at h3 <;> omega
def unitF (c : Nat → Nat) : MF := fun a b => if b = c a then 1 else 0
theorem RowF.unit {n : Nat} {F : MF → Rat} (h : RowF n F) : ∀ (j k : Nat), k + j = n → ∀ c : Nat → Nat, (∀ a, a < n → c a < n) → (∀ r, r < k → c r = r) → F (unitF c) = F idF * detF n (unitF c)
  | 0, k, hk, c, hc, hr => by
    have e : ∀ a b, a < n → b < n → unitF c a b = idF a b := fun a b ha _ => by
      unfold unitF idF
      rw [hr a (by omega)]
      by_cases e : b = a
      · rw [if_pos e, if_pos e.symm]
      · rw [if_neg e, if_neg (Ne.symm e)]
    rw [h.congr e, detF_congr e, detF_id]; grind
  | j + 1, k, hk, c, hc, hr => by
    by_cases hex : ∃ s, k ≤ s ∧ s < n ∧ c s = k
    · obtain ⟨s, hs1, hs2, hs3⟩ := hex
      by_cases e : s = k
      · subst e
        exact h.unit j (s + 1) (by omega) c hc fun r hr' => by
          by_cases e : r = s
          · rw [e]; exact hs3
          · exact hr r (by omega)
      · let c' : Nat → Nat := fun a => if a = k then c s else if a = s then c k else c a
        have hsw : ∀ a b, a < n → b < n → unitF c a b = swapF (unitF c') k s a b := fun a b _ _ => by
          unfold swapF unitF
          by_cases h1 : a = k
          · rw [if_pos h1]; simp only [c', if_neg e, if_pos, h1]
          · rw [if_neg h1]
            by_cases h2 : a = s
            · rw [if_pos h2]; simp only [c', if_pos, h2]
            · rw [if_neg h2]; simp only [c', if_neg h1, if_neg h2]
        rw [h.congr hsw, detF_congr hsw, h.swap (by omega) hs2 (Ne.symm e), (detF_row n).swap (by omega) hs2 (Ne.symm e), h.unit j (k + 1) (by omega) c' (fun a ha => by
          simp only [c']
          split
          · exact hc s hs2
          · split
            · exact hc k (by omega)
            · exact hc a ha) (fun r hr' => by
          simp only [c']
          by_cases h1 : r = k
          · rw [if_pos h1, hs3, h1]
          · rw [if_neg h1, if_neg (by omega)]; exact hr r (by omega))]
        grind
    · have hno : ∀ a, a < n → c a ≠ k := fun a ha he => by
        rcases Nat.lt_or_ge a k with h1 | h1
        · have := hr a h1; omega
        · exact hex ⟨a, h1, ha, he⟩
      obtain ⟨p, q, h1, h2, h3⟩ := pigeon (n - 1) (fun a => if k < c a then c a - 1 else c a) fun a ha => by
        have := hc a (by omega)
        have := hno a (by omega)
        split <;> omega
      have hpq : c p = c q := by
        have := hno p (by omega)
        have := hno q (by omega)
        split at h3 <;> split at h3 <;> omega
      rw [h.alt (r := p) (s := q) (by omega) (by omega) (by omega) fun b _ => by unfold unitF; rw [hpq], (detF_row n).alt (r := p) (s := q) (by omega) (by omega) (by omega) fun b _ => by unfold unitF; rw [hpq]]
      grind
theorem RowF.step {n : Nat} {F : MF → Rat} (h : RowF n F) : ∀ k, k ≤ n → ∀ M : MF, (∀ r, k ≤ r → r < n → ∃ c, c < n ∧ ∀ b, b < n → M r b = if b = c then 1 else 0) → F M = F idF * detF n M
  | 0, _, M, hM => by
    have hM' : ∀ r, ∃ c, r < n → c < n ∧ ∀ b, b < n → M r b = if b = c then 1 else 0 := fun r => by
      by_cases hr : r < n
      · obtain ⟨c, hc⟩ := hM r (by omega) hr
        exact ⟨c, fun _ => hc⟩
      · exact ⟨0, fun h => absurd h hr⟩
    have e : ∀ a b, a < n → b < n → M a b = unitF (fun r => (hM' r).choose) a b := fun a b ha hb => ((hM' a).choose_spec ha).2 b hb
    rw [h.congr e, detF_congr e]
    exact h.unit n 0 (by omega) _ (fun a ha => ((hM' a).choose_spec ha).1) fun r hr => by omega
  | k + 1, hk, M, hM => by
    rw [h.sum (k := k) (by omega) M, (detF_row n).sum (k := k) (by omega) M, ← sumN_mul]
    refine sumN_congr fun j hj => ?_
    rw [h.step k (by omega) (setF M k (eF j)) fun r hr hrn => by
      by_cases e : r = k
      · exact ⟨j, hj, fun b _ => by unfold setF eF; rw [if_pos e]⟩
      · obtain ⟨c, h1, h2⟩ := hM r (by omega) hrn
        exact ⟨c, h1, fun b hb => by unfold setF; rw [if_neg e]; exact h2 b hb⟩]
    grind
/-- There is but one. -/
theorem RowF.uniq {n : Nat} {F : MF → Rat} (h : RowF n F) (M : MF) : F M = F idF * detF n M := h.step n (Nat.le_refl _) M fun r h1 h2 => by omega
def mulF (n : Nat) (A B : MF) : MF := fun i j => sumN n fun k => A i k * B k j
def trF (M : MF) : MF := fun i j => M j i
def prodN : Nat → (Nat → Rat) → Rat
  | 0, _ => 1
  | n + 1, f => prodN n f * f n
end Go.Av
end
section
namespace Go.Av
open Go.Proofs
structure DetInv (n j : Nat) (X M : List (List Rat)) (d : Rat) : Prop where
  good : matGood n n M
  zer : ∀ c a, c < j → c < a → a < n → qel M a c = 0
  ne : ∀ c, c < j → qel M c c ≠ 0
  eq : detF n (qel X) * prodN j (fun c => qel M c c) = d * detF n (qel M)
end Go.Av
end
section
namespace Go.Av
open Go.Proofs
/-- The product of a matrix with its transposed matrix. -/
theorem gram {n : Nat} {S P : List (List Rat)} (hS : matGood n n S) (hn : 0 < n) (h : timesQ (trM S n n) S = some P) : symm P n ∧ ∀ v, 0 ≤ quadF n (qel P) v := by
  have wS : (mrow S 0).length = n := (hS.row hn).2
  have hT := tr_good hS
  have e : ∀ a b, a < n → b < n → qel P a b = sumN n fun k => qel S k a * qel S k b := fun a b ha hb => by
    rw [times_eq h (by rw [hT.2.2]; exact ha) (by rw [wS]; exact hb), hS.2.2]
    exact sumN_congr fun k hk => by rw [qel_tr ha hk]
  refine ⟨fun i hi k hk => ?_, fun v => ?_⟩
  · rw [e i k hi (by omega), e k i (by omega) hi]
    exact sumN_congr fun t _ => by grind
  · rw [quadF_congr (M' := fun a b => sumN n fun k => 1 * qel S k a * qel S k b) (v' := v) fun a b ha hb => by rw [e a b ha hb]; congr 2; exact sumN_congr fun k _ => by grind, quadF_sum]
    refine sumN_nonneg fun k _ => ?_
    rw [quadF_one n 1 (qel S k) v]
    have := sq_nonneg (dotV n (qel S k) v)
    grind
theorem gram2 {n : Nat} {S P : List (List Rat)} (hS : matGood n n S) (hn : 0 < n) (h : timesQ S (trM S n n) = some P) : symm P n := by
  have hT := tr_good hS
  have wT : (mrow (trM S n n) 0).length = n := row_tr hn
  have e : ∀ a b, a < n → b < n → qel P a b = sumN n fun k => qel S a k * qel S b k := fun a b ha hb => by
    rw [times_eq h (by rw [hS.2.2]; exact ha) (by rw [wT]; exact hb), hT.2.2]
    exact sumN_congr fun k hk => by rw [qel_tr hk hb]
  intro i hi k hk
  rw [e i k hi (by omega), e k i (by omega) hi]
  exact sumN_congr fun t _ => by grind
def dfRow (A B : List (List Rat)) (i k : Nat) : List Rat := (List.range k).map fun t => qel A i t - qel B i t
def dfM (A B : List (List Rat)) (n i : Nat) : List (List Rat) := (List.range i).map fun a => dfRow A B a n
theorem dfRow_succ (A B : List (List Rat)) (i k : Nat) : dfRow A B i (k + 1) = dfRow A B i k ++ [qel A i k - qel B i k] := by unfold dfRow; rw [List.range_succ, List.map_append]; rfl
theorem dfM_succ (A B : List (List Rat)) (n i : Nat) : dfM A B n (i + 1) = dfM A B n i ++ [dfRow A B i n] := by unfold dfM; rw [List.range_succ, List.map_append]; rfl
theorem qel_df {A B : List (List Rat)} {n i a b : Nat} (ha : a < i) (hb : b < n) : qel (dfM A B n i) a b = qel A a b - qel B a b := by
  unfold qel mrow dfM
  rw [List.getD_eq_getElem?_getD, List.getElem?_map, List.getElem?_range ha]
  show qat (dfRow A B a n) b = _
  unfold dfRow qat
  rw [List.getD_eq_getElem?_getD, List.getElem?_map, List.getElem?_range hb]
  rfl
theorem df_good {A B : List (List Rat)} {n : Nat} (h : ∀ a, a < n → rowGood (dfRow A B a n)) : matGood n n (dfM A B n n) := by
  have hl : (dfM A B n n).length = n := by simp [dfM]
  refine ⟨fun r hr => ?_, fun a ha => ?_, hl⟩
  · unfold dfM at hr
    obtain ⟨a, ha, rfl⟩ := List.mem_map.1 hr
    exact h a (by simpa using ha)
  · rw [hl] at ha
    unfold mrow dfM
    rw [List.getD_eq_getElem?_getD, List.getElem?_map, List.getElem?_range ha]
    show (dfRow A B a n).length = n
    simp [dfRow]
structure DfS where
  M : Mem
  rv : AV
  rb : List Nat
theorem sub2_two {x y : Rat} (hx : Good x) (hy : Good y) : ∃ (r : RR) (e : Int), ACall Tryz.prog 40 [(ofQ x).av, (ofQ y).av] Mem.emp (fun v m => v = .tup [r.av, .int .i64 e] ∧ m = Mem.emp) ∧ (e ≠ 0 ∨ (e = 0 ∧ r = ofQ (x - y) ∧ Good (x - y))) := by
  have h := sub2_call x y hx hy
  cases hq : subQ x y with
  | none => rw [hq] at h; exact ⟨badR, 2, h, .inl (by decide)⟩
  | some z =>
    have := subQ_eq hq
    subst this
    rw [hq] at h
    exact ⟨ofQ (x - y), 0, h, .inr ⟨rfl, rfl, good_sub hq⟩⟩
theorem rrs_ones (r : List RR) : ∀ v ∈ rrs r, v.cells.all AV.one = true := by
  intro v hv
  unfold rrs at hv
  obtain ⟨x, _, rfl⟩ := List.mem_map.1 hv
  rfl
set_option maxHeartbeats 1000000
theorem lawSums (m : List (List RR)) (hm : LbM m) : ACall Tryz.prog 11 [matAV m] Mem.emp fun v mm => v = .bool true ∧ mm = Mem.emp := by
  have hsq := square_call m hm
  have hwk := works_call
  obtain ⟨n, hn, hS⟩ := squareR_good hm
  generalize squareR m = T at *
  obtain ⟨X, ok⟩ := T
  simp only at hsq hS
  have hXl : (emb X).length = n := by rw [emb_length, hS.2.2]
  refine acall_S Tryz.func11 rfl rfl 131 rfl (Nat.le_of_ble_eq_true rfl) ?_
  (repeat refine AW.seq_k fun K hK => ?_)
  refine AW.rg ?_
  simp [argsL]
  try (refine hK _ rfl ?_; clear hK; clear K)
  (repeat refine AW.seq_k fun K hK => ?_)
  refine AW.rg ?_
  simp
  try (refine hK _ rfl ?_; clear hK; clear K)
  refine CallK.val hsq ?_
  simp
  refine hK _ rfl ?_
  clear hK
  clear K
  cases ok
  · (repeat refine AW.seq_k fun K hK => ?_)
    refine AW.rg ?_
    simp
    try (refine hK _ rfl ?_; clear hK; clear K)
    refine AW.yes ?_ rfl
    (repeat refine AW.seq_k fun K hK => ?_)
    refine AW.rg ?_
    simp
    try (refine hK _ rfl ?_; clear hK; clear K)
    refine CallK.val hwk ?_
    simp
    refine hK _ rfl ?_
    clear hK
    clear K
    exact AW.ret (ret_views (vs := [.bool true]) [.bool true] (by simp) (by simp) ⟨rfl, rfl⟩)
  by_cases hn0 : n = 0
  · (repeat refine AW.seq_k fun K hK => ?_)
    refine AW.rg ?_
    simp [hXl, hn0]
    try (refine hK _ rfl ?_; clear hK; clear K)
    refine AW.yes ?_ rfl
    (repeat refine AW.seq_k fun K hK => ?_)
    refine AW.rg ?_
    simp
    try (refine hK _ rfl ?_; clear hK; clear K)
    refine CallK.val hwk ?_
    simp
    refine hK _ rfl ?_
    clear hK
    clear K
    exact AW.ret (ret_views (vs := [.bool true]) [.bool true] (by simp) (by simp) ⟨rfl, rfl⟩)
  (repeat refine AW.seq_k fun K hK => ?_)
  refine AW.rg ?_
  simp [hXl, hn0]
  try (refine hK _ rfl ?_; clear hK; clear K)
  refine AW.no ?_ rfl
  refine AW.skip ?_
  try simp
  refine hK _ rfl ?_
  clear hK
  clear K
  have hnp : 0 < n := by omega
  have htr := transposed_call X n n hS (fun h => h) (by omega) (by omega)
  have hp1 := timesL_call (emb (trM X n n)) (emb X) (lb_emb _) (lb_emb _)
  have hp2 := timesL_call (emb X) (emb (trM X n n)) (lb_emb _) (lb_emb _)
  have hc1 := times_cases (tr_good hS) hS hnp hnp (by omega) (by omega) (by omega)
  have hc2 := times_cases hS (tr_good hS) hnp hnp (by omega) (by omega) (by omega)
  generalize timR (emb (trM X n n)) (emb X) = t1 at *
  generalize timR (emb X) (emb (trM X n n)) = t2 at *
  obtain ⟨e1, A⟩ := t1
  obtain ⟨e2, B⟩ := t2
  simp only at hp1 hp2
  (repeat refine AW.seq_k fun K hK => ?_)
  refine AW.rg ?_
  simp
  try (refine hK _ rfl ?_; clear hK; clear K)
  refine CallK.val htr ?_
  simp
  refine CallK.val hp1 ?_
  simp
  refine hK _ rfl ?_
  clear hK
  clear K
  (repeat refine AW.seq_k fun K hK => ?_)
  refine AW.rg ?_
  simp
  try (refine hK _ rfl ?_; clear hK; clear K)
  refine CallK.val htr ?_
  simp
  refine CallK.val hp2 ?_
  simp
  refine hK _ rfl ?_
  clear hK
  clear K
  by_cases z1 : e1 = 0
  · by_cases z2 : e2 = 0
    · rcases hc1 with h | ⟨A', h, hA, hAg⟩
      · cases h; exact absurd z1 (by decide)
      rcases hc2 with h' | ⟨B', h', hB, hBg⟩
      · cases h'; exact absurd z2 (by decide)
      cases h; cases h'
      obtain ⟨hAs, hApos⟩ := gram hS hnp hA
      have hBs := gram2 hS hnp hB
      have hsd1 := sides_call A n hAg (by omega)
      have hsd2 := sides_call B n hBg (by omega)
      have had := adds_call A n hAg hAs hn hnp
      have hsqA := squaresL_call (emb A) (lb_emb A)
      have hnov : (sqR (emb A)).e ≠ 0 ∨ (sqR (emb A)).v = [] := by
        rcases sq_facts hAg hAs (by omega) with h | ⟨v, h, _, _, hq⟩ | ⟨l, ws, fs, h, _⟩
        · left; rw [h]; decide
        · have := hApos (qat v); exfalso; grind
        · right; rw [h]
      generalize sqR (emb A) = Q at *
      unfold sqAV at hsqA
      obtain ⟨eq, wq, fq, vq⟩ := Q
      simp only at hsqA hnov
      (repeat refine AW.seq_k fun K hK => ?_)
      refine AW.rg ?_
      simp
      try (refine hK _ rfl ?_; clear hK; clear K)
      refine AW.no ?_ rfl
      refine AW.skip ?_
      try simp
      refine hK _ rfl ?_
      clear hK
      clear K
      (repeat refine AW.seq_k fun K hK => ?_)
      refine AW.rg ?_
      simp [hXl]
      try (refine hK _ rfl ?_; clear hK; clear K)
      refine CallK.val hsd1 ?_
      simp [hXl]
      refine CallK.val hsd2 ?_
      simp
      refine hK _ rfl ?_
      clear hK
      clear K
      refine AW.no ?_ rfl
      refine AW.skip ?_
      try simp
      refine hK _ rfl ?_
      clear hK
      clear K
      (repeat refine AW.seq_k fun K hK => ?_)
      refine AW.rg ?_
      simp
      try (refine hK _ rfl ?_; clear hK; clear K)
      refine CallK.val hsqA ?_
      simp
      refine hK _ rfl ?_
      clear hK
      clear K
      (repeat refine AW.seq_k fun K hK => ?_)
      refine AW.rg ?_
      simp
      try (refine hK _ rfl ?_; clear hK; clear K)
      refine AW.seq_ex (ι := DfS) (fun s => [(3, matAV (emb X)), (5, matAV (emb A)), (7, matAV (emb B)), (11, rowAV (vq.map ofQ)), (12, .int .i64 eq), (13, s.rv)]) (fun s => s.M) (fun s => LstO s.M 42 1 s.rv s.rb ((emb (dfM A B n n)).map rowAV) ∧ ∀ a, a < n → rowGood (dfRow A B a n)) ?_ ?_
      · (repeat refine AW.seq_k fun K hK => ?_)
        refine AW.rg ?_
        simp
        try (refine hK _ rfl ?_; clear hK; clear K)
        refine AW.block (AW.loopS (ι := Nat × DfS) (fun z => [(3, matAV (emb X)), (5, matAV (emb A)), (7, matAV (emb B)), (11, rowAV (vq.map ofQ)), (12, .int .i64 eq), (13, z.2.rv), (14, .int .i64 (z.1 : Nat))]) (fun z => z.2.M) (fun z => z.1 ≤ n ∧ LstO z.2.M 42 1 z.2.rv z.2.rb ((emb (dfM A B n z.1)).map rowAV) ∧ ∀ a, a < z.1 → rowGood (dfRow A B a n)) (fun z => n - z.1) (0, ⟨Mem.emp, .nil, []⟩) ⟨by simp, LstO.start _ _, fun a h => absurd h (by simp)⟩ rfl (by simp) ?_)
        rintro ⟨i, M, ov, ob⟩ ⟨g1, g2, g3⟩
        simp only at g1 g2 g3
        simp only
        (repeat refine AW.seq_k fun K hK => ?_)
        refine AW.rg ?_
        simp [hXl]
        try (refine hK _ rfl ?_; clear hK; clear K)
        (repeat refine AW.seq ?_)
        refine AW.cs (fun hi => ?_) (fun hi => ?_) rfl <;> (try simp at hi)
        · refine AW.skip ?_
          try simp
          refine hK _ rfl ?_
          clear hK
          clear K
          have w1 : IntKind.i64.wrap ((i + 1 : Nat) : Int) = ((i + 1 : Nat) : Int) := wi (by omega)
          have hones := rowAV_ones (dfM A B n i)
          have hll : ((emb (dfM A B n i)).map rowAV).length = i := by rw [List.length_map, emb_length]; simp [dfM]
          generalize hl : (emb (dfM A B n i)).map rowAV = l at *
          refine AW.seq_ex (ι := DfS) (fun s => [(3, matAV (emb X)), (5, matAV (emb A)), (7, matAV (emb B)), (11, rowAV (vq.map ofQ)), (12, .int .i64 eq), (13, s.rv), (14, .int .i64 (i : Nat))]) (fun s => s.M) (fun s => LstO s.M 42 1 s.rv s.rb ((emb (dfM A B n (i + 1))).map rowAV) ∧ rowGood (dfRow A B i n)) ?_ ?_
          · (repeat refine AW.seq ?_)
            refine AW.block ?_
            (repeat refine AW.seq_k fun K hK => ?_)
            refine AW.rg ?_
            simp
            try (refine hK _ rfl ?_; clear hK; clear K)
            refine AW.seq_ex (ι := DfS) (fun s => [(3, matAV (emb X)), (5, matAV (emb A)), (7, matAV (emb B)), (11, rowAV (vq.map ofQ)), (12, .int .i64 eq), (13, ov), (14, .int .i64 (i : Nat)), (15, s.rv)]) (fun s => s.M) (fun s => TwoL s.M ov ob l s.rv s.rb (rrs ((dfRow A B i n).map ofQ)) ∧ rowGood (dfRow A B i n)) ?_ ?_
            · (repeat refine AW.seq_k fun K hK => ?_)
              refine AW.rg ?_
              simp
              try (refine hK _ rfl ?_; clear hK; clear K)
              refine AW.block (AW.loopS (ι := Nat × DfS) (fun z => [(3, matAV (emb X)), (5, matAV (emb A)), (7, matAV (emb B)), (11, rowAV (vq.map ofQ)), (12, .int .i64 eq), (13, ov), (14, .int .i64 (i : Nat)), (15, z.2.rv), (16, .int .i64 (z.1 : Nat))]) (fun z => z.2.M) (fun z => z.1 ≤ n ∧ TwoL z.2.M ov ob l z.2.rv z.2.rb (rrs ((dfRow A B i z.1).map ofQ)) ∧ rowGood (dfRow A B i z.1)) (fun z => n - z.1) (0, ⟨M, .nil, []⟩) ⟨by simp, TwoL.start g2, fun q hq => by cases hq⟩ rfl (by simp) ?_)
              rintro ⟨k, M, rv, rb⟩ ⟨q1, q2, q3⟩
              simp only at q1 q2 q3
              simp only
              (repeat refine AW.seq_k fun K hK => ?_)
              refine AW.rg ?_
              simp [hXl]
              try (refine hK _ rfl ?_; clear hK; clear K)
              (repeat refine AW.seq ?_)
              refine AW.cs (fun hk => ?_) (fun hk => ?_) rfl <;> (try simp at hk)
              · refine AW.skip ?_
                try simp
                refine hK _ rfl ?_
                clear hK
                clear K
                have w2 : IntKind.i64.wrap ((k + 1 : Nat) : Int) = ((k + 1 : Nat) : Int) := wi (by omega)
                have hiA : i < (emb A).length := by rw [emb_length, hAg.2.2]; exact hi
                have hiB : i < (emb B).length := by rw [emb_length, hBg.2.2]; exact hi
                have hlA : (mrow A i).length = n := (hAg.row hi).2
                have hlB : (mrow B i).length = n := (hBg.row hi).2
                have hlAE : (mrow (emb A) i).length = n := by rw [emb_row, List.length_map]; exact hlA
                have hlBE : (mrow (emb B) i).length = n := by rw [emb_row, List.length_map]; exact hlB
                have eA : rr (mrow (emb A) i) k = ofQ (qel A i k) := by rw [emb_row, rr_map (by omega)]; rfl
                have eB : rr (mrow (emb B) i) k = ofQ (qel B i k) := by rw [emb_row, rr_map (by omega)]; rfl
                have yA : Good (qel A i k) := hAg.1.at (by omega)
                have yB : Good (qel B i k) := hBg.1.at (by omega)
                obtain ⟨r, e, c1, c2⟩ := sub2_two yA yB
                have hMo := q2.ones hones (rrs_ones _)
                refine AW.seq_ex (ι := DfS) (fun s => [(3, matAV (emb X)), (5, matAV (emb A)), (7, matAV (emb B)), (11, rowAV (vq.map ofQ)), (12, .int .i64 eq), (13, ov), (14, .int .i64 (i : Nat)), (15, s.rv), (16, .int .i64 (k : Nat))]) (fun s => s.M) (fun s => TwoL s.M ov ob l s.rv s.rb (rrs ((dfRow A B i (k + 1)).map ofQ)) ∧ rowGood (dfRow A B i (k + 1))) ?_ ?_
                · (repeat refine AW.seq ?_)
                  refine AW.block ?_
                  (repeat refine AW.seq_k fun K hK => ?_)
                  refine AW.rd [0, 1, 2, 3, 4, 5, 6, 7, 8, 9, 10, 11, 12, 13, 14, 15, 16, 17, 18, 19, 20] mix ?_
                  simp [hiA, hiB, hlAE, hlBE, hk, eA, eB]
                  try (refine hK _ rfl ?_; clear hK; clear K)
                  refine CallK.val c1 ?_
                  simp
                  refine Fresh.intro fun b17 hb17 => ?_
                  refine hK _ rfl ?_
                  clear hK
                  clear K
                  refine AW.turn [(3, matAV (emb X)), (5, matAV (emb A)), (7, matAV (emb B)), (11, rowAV (vq.map ofQ)), (12, .int .i64 eq), (13, ov), (14, .int .i64 (i : Nat)), (15, rv), (16, .int .i64 (k : Nat)), (17, .rptr r.av.cells), (18, .int .i64 e)] M (Recast.drop hb17 hMo) (by simp; exact view_temp hb17) ?_
                  rcases c2 with c2 | ⟨c2, c3, c4⟩
                  · (repeat refine AW.seq_k fun K hK => ?_)
                    refine AW.rg ?_
                    simp [c2]
                    try (refine hK _ rfl ?_; clear hK; clear K)
                    refine AW.yes ?_ rfl
                    (repeat refine AW.seq_k fun K hK => ?_)
                    refine AW.rg ?_
                    simp
                    try (refine hK _ rfl ?_; clear hK; clear K)
                    refine CallK.val hwk ?_
                    simp
                    refine hK _ rfl ?_
                    clear hK
                    clear K
                    exact AW.ret (ret_views (vs := [.bool true]) [.bool true] (by simp) (by simp) ⟨rfl, rfl⟩)
                  · subst c2 c3
                    (repeat refine AW.seq_k fun K hK => ?_)
                    refine AW.rg ?_
                    simp
                    try (refine hK _ rfl ?_; clear hK; clear K)
                    refine AW.no ?_ rfl
                    refine AW.skip ?_
                    try simp
                    refine hK _ rfl ?_
                    clear hK
                    clear K
                    have hfin : ∀ s : DfS, TwoL s.M ov ob l s.rv s.rb (rrs ((dfRow A B i k).map ofQ) ++ [(ofQ (qel A i k - qel B i k)).av]) → TwoL s.M ov ob l s.rv s.rb (rrs ((dfRow A B i (k + 1)).map ofQ)) ∧ rowGood (dfRow A B i (k + 1)) := by
                      intro s h2
                      rw [dfRow_succ, List.map_append, List.map_singleton, rrs_snoc]
                      exact ⟨h2, good_snoc q3 c4⟩
                    have hl2 : (rrs ((dfRow A B i k).map ofQ)).length = k := by rw [rrs_length, List.length_map]; simp [dfRow]
                    generalize rrs ((dfRow A B i k).map ofQ) = l2 at *
                    rcases q2.row with ⟨z1, z2, z3⟩ | ⟨b0, z2, z3, z4⟩
                    · subst z1 z2 z3
                      (repeat refine AW.seq_k fun K hK => ?_)
                      refine AW.rgR [107] ?_
                      simp
                      try (refine hK _ rfl ?_; clear hK; clear K)
                      exact ⟨by unfold maxLen; omega, Fresh.intro fun b hb => ⟨⟨_, _, [b]⟩, hfin _ (q2.push0 hb _), rfl, rfl⟩⟩
                    · subst z2 z3
                      (repeat refine AW.seq_k fun K hK => ?_)
                      refine AW.rgR [107] ?_
                      simp [z4]
                      try (refine hK _ rfl ?_; clear hK; clear K)
                      exact ⟨by omega, by unfold maxLen; omega, Fresh.intro fun b hb => ⟨⟨_, _, [b]⟩, hfin _ (q2.push1 hb _), rfl, rfl⟩⟩
                rintro ⟨M, rv, rb⟩ ⟨hs, hs2⟩
                (repeat refine AW.seq_k fun K hK => ?_)
                refine AW.rg ?_
                simp [-Int.natCast_add, w2]
                try (refine hK _ rfl ?_; clear hK; clear K)
                exact ⟨k + 1, ⟨M, rv, rb⟩, ⟨hk, hs, hs2⟩, by omega, by simp⟩
              · refine AW.exit ?_
                try simp
                have : k = n := by omega
                subst this
                exact ⟨⟨M, rv, rb⟩, ⟨q2, q3⟩, by simp⟩
            rintro ⟨M, rv, rb⟩ ⟨q2, q3⟩
            simp only at q2 q3
            simp only
            obtain ⟨M', t1, t2, t3, t4⟩ := q2.done hones
            refine AW.turn [(3, matAV (emb X)), (5, matAV (emb A)), (7, matAV (emb B)), (11, rowAV (vq.map ofQ)), (12, .int .i64 eq), (13, ov), (14, .int .i64 (i : Nat)), (15, rowAV ((dfRow A B i n).map ofQ))] M' t1 ?_ ?_
            · simp
              exact t3
            have hfin : ∀ s : DfS, LstO s.M 42 1 s.rv s.rb (l ++ [rowAV ((dfRow A B i n).map ofQ)]) → LstO s.M 42 1 s.rv s.rb ((emb (dfM A B n (i + 1))).map rowAV) ∧ rowGood (dfRow A B i n) := by
              intro s h2
              rw [dfM_succ, show (emb (dfM A B n i ++ [dfRow A B i n])).map rowAV = (emb (dfM A B n i)).map rowAV ++ [rowAV ((dfRow A B i n).map ofQ)] by simp [emb], hl]
              exact ⟨h2, q3⟩
            rcases t2.lst with ⟨z1, z2, z3⟩ | ⟨b0, z2, z3, z4⟩
            · subst z1 z2 z3
              (repeat refine AW.seq_k fun K hK => ?_)
              refine AW.rgR [111] ?_
              simp
              try (refine hK _ rfl ?_; clear hK; clear K)
              exact ⟨by unfold maxLen; omega, Fresh.intro fun b hb => ⟨⟨_, _, [b]⟩, hfin _ (t2.push0 b _), rfl, rfl⟩⟩
            · subst z2 z3
              (repeat refine AW.seq_k fun K hK => ?_)
              refine AW.rgR [111] ?_
              simp [z4]
              try (refine hK _ rfl ?_; clear hK; clear K)
              exact ⟨by omega, by unfold maxLen; omega, Fresh.intro fun b hb => ⟨⟨_, _, [b]⟩, hfin _ (t2.push1 b _), rfl, rfl⟩⟩
          rintro ⟨M, ov, ob⟩ ⟨hs, hs2⟩
          (repeat refine AW.seq_k fun K hK => ?_)
          refine AW.rg ?_
          simp [-Int.natCast_add, w1]
          try (refine hK _ rfl ?_; clear hK; clear K)
          exact ⟨i + 1, ⟨M, ov, ob⟩, ⟨hi, hs, fun a ha => by
            rcases Nat.lt_succ_iff_lt_or_eq.1 ha with h | h
            · exact g3 a h
            · rw [h]; exact hs2⟩, by omega, by simp⟩
        · refine AW.exit ?_
          try simp
          have : i = n := by omega
          subst this
          exact ⟨⟨M, ov, ob⟩, ⟨g2, g3⟩, by simp⟩
      rintro ⟨M, ov, ob⟩ ⟨g2, g3⟩
      simp only at g2
      simp only
      have hv := g2.lst.view (M' := Mem.emp) (fun _ _ => rfl)
      refine AW.toEmp [(3, matAV (emb X)), (5, matAV (emb A)), (7, matAV (emb B)), (11, rowAV (vq.map ofQ)), (12, .int .i64 eq), (13, matAV (emb (dfM A B n n)))] (by simp; exact hv) ?_
      have hDg := df_good g3
      have hDs : symm (dfM A B n n) n := fun a ha b hb => by
        rw [qel_df ha (by omega), qel_df (by omega) ha, hAs a ha b hb, hBs a ha b hb]
      have hadD := adds_call (dfM A B n n) n hDg hDs hn hnp
      by_cases hq0 : eq = 0
      · have hv0 : vq = [] := hnov.resolve_left (fun h => h hq0)
        subst hq0 hv0
        (repeat refine AW.seq_k fun K hK => ?_)
        refine AW.rg ?_
        simp
        try (refine hK _ rfl ?_; clear hK; clear K)
        refine CallK.val hwk ?_
        simp
        refine CallK.val had ?_
        simp
        refine CallK.val hadD ?_
        simp
        refine hK _ rfl ?_
        clear hK
        clear K
        exact AW.ret (ret_views (vs := [.bool true]) [.bool true] (by simp) (by simp) ⟨rfl, rfl⟩)
      · (repeat refine AW.seq_k fun K hK => ?_)
        refine AW.rg ?_
        simp [hq0]
        try (refine hK _ rfl ?_; clear hK; clear K)
        refine CallK.val hwk ?_
        simp [hq0]
        refine CallK.val had ?_
        simp
        refine CallK.val hadD ?_
        simp
        refine hK _ rfl ?_
        clear hK
        clear K
        exact AW.ret (ret_views (vs := [.bool true]) [.bool true] (by simp) (by simp) ⟨rfl, rfl⟩)
    · (repeat refine AW.seq_k fun K hK => ?_)
      refine AW.rg ?_
      simp [z1, z2]
      try (refine hK _ rfl ?_; clear hK; clear K)
      refine AW.yes ?_ rfl
      (repeat refine AW.seq_k fun K hK => ?_)
      refine AW.rg ?_
      simp
      try (refine hK _ rfl ?_; clear hK; clear K)
      refine CallK.val hwk ?_
      simp
      refine hK _ rfl ?_
      clear hK
      clear K
      exact AW.ret (ret_views (vs := [.bool true]) [.bool true] (by simp) (by simp) ⟨rfl, rfl⟩)
  · (repeat refine AW.seq_k fun K hK => ?_)
    refine AW.rg ?_
    simp [z1]
    try (refine hK _ rfl ?_; clear hK; clear K)
    refine AW.yes ?_ rfl
    (repeat refine AW.seq_k fun K hK => ?_)
    refine AW.rg ?_
    simp
    try (refine hK _ rfl ?_; clear hK; clear K)
    refine CallK.val hwk ?_
    simp
    refine hK _ rfl ?_
    clear hK
    clear K
    exact AW.ret (ret_views (vs := [.bool true]) [.bool true] (by simp) (by simp) ⟨rfl, rfl⟩)
end Go.Av
end
