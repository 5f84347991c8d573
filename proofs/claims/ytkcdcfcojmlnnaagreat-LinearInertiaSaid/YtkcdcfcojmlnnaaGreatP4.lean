/- A part of the proof. -/
import Derived.Test.YtkcdcfcojmlnnaaGreatP3
set_option linter.all false
set_option exponentiation.threshold 5000
set_option maxRecDepth 10000
section
namespace Go.Av
open Go.Proofs
section
variable {P : Program} {av : Nat → Prop} {f : FuncId} {args : List AV} {m : Mem} {k : AV → Mem → Prop}
/-- The blocks of a list. -/
def Mem.only (m : Mem) (l : List Nat) : Mem := fun b => if b ∈ l then m b else none
/-- Behind a call that was handed the blocks of a list. -/
def Mem.back (m : Mem) (l : List Nat) (g : Mem) : Mem := fun b => match g b with
  | some x => some x
  | none => if b ∈ l then none else m b
theorem only_in {l : List Nat} {b : Nat} (h : b ∈ l) : m.only l b = m b := if_pos h
theorem only_out {l : List Nat} {b : Nat} (h : b ∉ l) : m.only l b = none := if_neg h
theorem back_some {l : List Nat} {g : Mem} {b : Nat} {x : Blk} (h : g b = some x) : m.back l g b = some x := by unfold Mem.back; rw [h]
theorem back_out {l : List Nat} {g : Mem} {b : Nat} (h : g b = none) (hb : b ∉ l) : m.back l g b = m b := by unfold Mem.back; rw [h]; exact if_neg hb
theorem back_in {l : List Nat} {g : Mem} {b : Nat} (hb : b ∈ l) : m.back l g b = g b := by
  unfold Mem.back
  cases h : g b with
  | none => exact if_pos hb
  | some x => rfl
/-- A call that is handed the blocks of a list. -/
theorem CallK.hand {R : AV → Mem → Prop} (l : List Nat) (hl : ∀ b ∈ l, ¬ av b) (h : ACall P f args (m.only l) R) (hk : ∀ v g, R v g → (∀ b, g b ≠ none → b ∈ l ∨ (m b = none ∧ ¬ av b)) → k v (m.back l g)) : CallK P av f args m k := by
  refine .inl ⟨m.only l, R, fun c y hy => ?_, h, ?_⟩
  · by_cases hc : c ∈ l
    · rw [only_in hc] at hy; exact ⟨hy, hl c hc⟩
    · rw [only_out hc] at hy; cases hy
  · intro v g hr hf
    have e : merge m (m.only l) g = m.back l g := by
      funext c
      unfold merge Mem.back
      cases g c with
      | some x => rfl
      | none =>
        by_cases hc : c ∈ l
        · rw [only_in hc, if_pos hc]
          cases hm : m c <;> rfl
        · rw [only_out hc, if_neg hc]
    rw [e]
    refine hk v g hr fun b hb => ?_
    rcases hf b hb with h1 | h1
    · by_cases hc : b ∈ l
      · exact .inl hc
      · exact absurd (only_out hc) h1
    · exact .inr h1
end
theorem MatM.only {M : Mem} {B : Nat} {bs : List Nat} {rows : List (List RR)} (h : MatM M B bs rows) {l : List Nat} (hl : ∀ b, b = B ∨ b ∈ bs → b ∈ l) : MatM (M.only l) B bs rows :=
  ⟨by rw [only_in (hl B (.inl rfl))]; exact h.top, h.len, fun i hi => by rw [only_in (hl _ (.inr (nb_mem (by rw [h.len]; exact hi))))]; exact h.row i hi, h.nd, h.nB⟩
theorem onlyM_only (M : Mem) (l : List Nat) : OnlyM (M.only l) l := by
  intro b hb
  rcases Classical.em (b ∈ l) with h | h
  · exact h
  · exact absurd (only_out h) hb
theorem MatM.back {M g : Mem} {B : Nat} {bs : List Nat} {rows : List (List RR)} (h : MatM g B bs rows) (l : List Nat) : MatM (M.back l g) B bs rows :=
  ⟨back_some h.top, h.len, fun i hi => back_some (h.row i hi), h.nd, h.nB⟩
theorem only_self {M : Mem} {l : List Nat} (h : OnlyM M l) : M.only l = M := by
  funext b
  by_cases hb : b ∈ l
  · exact only_in hb
  · rw [only_out hb, h.none hb]
theorem back_self {M g : Mem} {l : List Nat} (h : OnlyM M l) : M.back l g = g := by
  funext b
  by_cases hb : b ∈ l
  · exact back_in hb
  · cases hg : g b with
    | some x => exact back_some hg
    | none => rw [back_out hg hb, h.none hb]
/-- The blocks of the rows after the exchange of two. -/
def swapB (bs : List Nat) (i r : Nat) : List Nat := (bs.set i (nb bs r)).set r (nb bs i)
theorem nb_set {bs : List Nat} {i : Nat} (hi : i < bs.length) (b k : Nat) : nb (bs.set i b) k = if k = i then b else nb bs k := by
  unfold nb
  rw [List.getD_eq_getElem?_getD, List.getElem?_set]
  by_cases h : i = k
  · subst h; simp [hi]
  · rw [if_neg h, if_neg (Ne.symm h), ← List.getD_eq_getElem?_getD]
theorem nb_swap {bs : List Nat} {i r : Nat} (hi : i < bs.length) (hr : r < bs.length) (k : Nat) : nb (swapB bs i r) k = if k = r then nb bs i else if k = i then nb bs r else nb bs k := by
  unfold swapB
  rw [nb_set (by simpa using hr), nb_set hi]
theorem mrow_swap {α : Type} {rows : List (List α)} {i r : Nat} (hi : i < rows.length) (hr : r < rows.length) (k : Nat) : mrow (swapL rows i r) k = if k = r then mrow rows i else if k = i then mrow rows r else mrow rows k := by
  unfold swapL
  rw [mrow_set (by simpa using hr), mrow_set hi]
theorem swapB_mem {bs : List Nat} {i r : Nat} (hi : i < bs.length) (hr : r < bs.length) (b : Nat) : b ∈ swapB bs i r ↔ b ∈ bs := by
  have hl : (swapB bs i r).length = bs.length := by simp [swapB]
  constructor
  · intro h
    obtain ⟨k, hk, e⟩ := List.mem_iff_getElem.1 h
    rw [← e, ← nb_eq hk, nb_swap hi hr]
    rw [hl] at hk
    split
    · exact nb_mem hi
    · split
      · exact nb_mem hr
      · exact nb_mem hk
  · intro h
    obtain ⟨k, hk, e⟩ := List.mem_iff_getElem.1 h
    rw [← e, ← nb_eq hk]
    have key : ∀ k', k' < bs.length → nb (swapB bs i r) k' ∈ swapB bs i r := fun k' h' => nb_mem (by rw [hl]; exact h')
    by_cases h1 : k = i
    · have := key r hr
      rw [nb_swap hi hr, if_pos rfl] at this
      rw [h1]; exact this
    · by_cases h2 : k = r
      · have := key i hi
        rw [nb_swap hi hr] at this
        rw [h2]
        by_cases h3 : i = r
        · rw [if_pos h3] at this; rw [← h3]; rw [← h3] at this; exact this
        · rw [if_neg h3, if_pos rfl] at this; exact this
      · have := key k hk
        rwa [nb_swap hi hr, if_neg h2, if_neg h1] at this
theorem swapB_nd {bs : List Nat} {i r : Nat} (hi : i < bs.length) (hr : r < bs.length) (h : bs.Nodup) : (swapB bs i r).Nodup := by
  have hl : (swapB bs i r).length = bs.length := by simp [swapB]
  unfold List.Nodup
  rw [List.pairwise_iff_getElem]
  intro x y hx hy hxy
  rw [← nb_eq hx, ← nb_eq hy, nb_swap hi hr, nb_swap hi hr]
  rw [hl] at hy hx
  intro e
  have inj : ∀ {a b}, a < bs.length → b < bs.length → nb bs a = nb bs b → a = b := fun ha hb => nb_inj h ha hb
  split at e <;> split at e <;> (try split at e) <;> (try split at e) <;> have := inj (by omega) (by omega) e <;> omega
theorem hdrs_swap {bs : List Nat} {rows : List (List RR)} (h : bs.length = rows.length) {i r : Nat} (hi : i < rows.length) (hr : r < rows.length) :
    ((hdrs bs rows).set i (.osl (nb bs r) 4 0 (mrow rows r).length)).set r (.osl (nb bs i) 4 0 (mrow rows i).length) = hdrs (swapB bs i r) (swapL rows i r) := by
  have hl : (swapB bs i r).length = (swapL rows i r).length := by simp [swapB, swapL, h]
  have h0 : (swapL rows i r).length = rows.length := swapL_length _ _ _
  refine List.ext_getElem? fun k => ?_
  by_cases hk : k < rows.length
  · rw [hdrs_get? hl (by rw [h0]; exact hk), nb_swap (by omega) (by omega), mrow_swap hi hr, List.getElem?_set, List.getElem?_set, hdrs_get? h hk]
    have e := hdrs_length h
    simp only [List.length_set, e, hi, hr, if_true]
    by_cases h1 : r = k
    · subst h1; simp
    · rw [if_neg h1, if_neg (Ne.symm h1), if_neg (Ne.symm h1)]
      by_cases h2 : i = k
      · subst h2; simp
      · rw [if_neg h2, if_neg (Ne.symm h2), if_neg (Ne.symm h2)]
  · rw [List.getElem?_eq_none (by simp [hdrs_length h]; omega), List.getElem?_eq_none (by rw [hdrs_length hl, h0]; omega)]
theorem MatM.swap {M : Mem} {B : Nat} {bs : List Nat} {rows : List (List RR)} (h : MatM M B bs rows) {i r : Nat} (hi : i < rows.length) (hr : r < rows.length) :
    MatM (M.set B ⟨42, 1, ((hdrs bs rows).set i (.osl (nb bs r) 4 0 (mrow rows r).length)).set r (.osl (nb bs i) 4 0 (mrow rows i).length)⟩) B (swapB bs i r) (swapL rows i r) := by
  have h0 : (swapL rows i r).length = rows.length := swapL_length _ _ _
  have hi' : i < bs.length := by rw [h.len]; exact hi
  have hr' : r < bs.length := by rw [h.len]; exact hr
  refine ⟨by rw [hdrs_swap h.len hi hr]; simp, by rw [h0, ← h.len]; simp [swapB], fun k hk => ?_, swapB_nd hi' hr' h.nd, fun hm => h.nB ((swapB_mem hi' hr' B).1 hm)⟩
  rw [h0] at hk
  rw [nb_swap hi' hr', mrow_swap hi hr]
  have key : ∀ k, k < rows.length → (M.set B ⟨42, 1, ((hdrs bs rows).set i (.osl (nb bs r) 4 0 (mrow rows r).length)).set r (.osl (nb bs i) 4 0 (mrow rows i).length)⟩) (nb bs k) = some ⟨36, 4, rrs (mrow rows k)⟩ := fun k hk => by
    simp only [set_at]
    rw [if_neg (h.ne hk)]
    exact h.row k hk
  split
  · exact key i hi
  · split
    · exact key r hr
    · exact key k hk
attribute [simp high] rrs_get?
theorem OnlyM.set {M : Mem} {l : List Nat} (h : OnlyM M l) {b : Nat} (hb : b ∈ l) (x : Blk) : OnlyM (M.set b x) l := by
  intro c hc
  simp only [set_at] at hc
  by_cases e : c = b
  · rw [e]; exact hb
  · rw [if_neg e] at hc; exact h c hc
theorem OnlyM.sub {M : Mem} {l l' : List Nat} (h : OnlyM M l) (hs : ∀ b ∈ l, b ∈ l') : OnlyM M l' := fun c hc => hs c (h c hc)
theorem pivR_none {rows : List (List RR)} {j r : Nat} (h : ∀ k, r ≤ k → k < rows.length → signR (rr (mrow rows k) j) = 0) : pivR rows j r = none := by
  unfold pivR
  rw [List.find?_eq_none]
  intro k hk
  have hk := List.mem_range.1 hk
  by_cases hr : r ≤ k
  · simp [h k hr hk]
  · simp [hr]
theorem pivR_some {rows : List (List RR)} {j r i : Nat} (h : ∀ k, r ≤ k → k < i → signR (rr (mrow rows k) j) = 0) (hr : r ≤ i) (hi : i < rows.length) (hs : ¬ signR (rr (mrow rows i) j) = 0) : pivR rows j r = some i := by
  unfold pivR
  rw [List.find?_range_eq_some]
  refine ⟨by simp [hr, hs], List.mem_range.2 hi, fun k hk => ?_⟩
  by_cases hrk : r ≤ k
  · simp [h k hrk hk]
  · simp [hrk]
/-- What is left by the search for a pivot row. -/
def pivOut (M : Mem) (B : Nat) (bs : List Nat) (rows : List (List RR)) (j r : Nat) (v : AV) (M' : Mem) : Prop :=
  match pivR rows j r with
  | none => v = .tup [.bool false, .bool false] ∧ M' = M
  | some i => v = .tup [.bool true, .bool (decide (i ≠ r))] ∧ MatM M' B (swapB bs i r) (swapL rows i r) ∧ OnlyM M' (B :: bs)
theorem pivot_call (M : Mem) (B : Nat) (bs : List Nat) (rows : List (List RR)) (hM : MatM M B bs rows) (hO : OnlyM M (B :: bs)) (hlb : LbM rows) (w j r : Nat) (hd : dimM rows w) (hj : j < w) (h1 : rows.length < 2^40) (h2 : w < 2^40) (h3 : r < 2^40) :
    ACall Tryz.prog 55 [.osl B 1 0 rows.length, .int .i64 j, .int .i64 r] M (pivOut M B bs rows j r) := by
  have hones := hM.ones (l := []) hO (by simp)
  refine acall_S Tryz.func55 rfl rfl 42 rfl (Nat.le_of_ble_eq_true rfl) ?_
  (repeat refine AW.seq_k fun K hK => ?_); refine AW.rg ?_; simp [argsL]; try (refine hK _ rfl ?_; clear hK; clear K)
  refine AW.scope (AW.seq (AW.label ?_))
  intro _
  refine AW.seq_ex (ι := Unit) (fun _ => []) (fun _ => M) (fun _ => ∀ k, r ≤ k → k < rows.length → signR (rr (mrow rows k) j) = 0) ?_ ?_
  · (repeat refine AW.seq_k fun K hK => ?_); refine AW.rg ?_; simp; try (refine hK _ rfl ?_; clear hK; clear K)
    refine AW.block (AW.loopS (ι := Nat) (fun i => [(0, .osl B 1 0 rows.length), (1, .int .i64 j), (2, .int .i64 r), (8, .int .i64 (i : Nat))]) (fun _ => M) (fun i => r ≤ i ∧ ∀ k, r ≤ k → k < i → signR (rr (mrow rows k) j) = 0) (fun i => rows.length - i) r ⟨by omega, by omega⟩ rfl (by simp) ?_)
    rintro i ⟨g1, g2⟩
    (repeat refine AW.seq_k fun K hK => ?_); refine AW.rg ?_; simp; try (refine hK _ rfl ?_; clear hK; clear K)
    (repeat refine AW.seq ?_)
    refine AW.cs (fun hi => ?_) (fun hi => ?_) rfl <;> (try simp at hi)
    · refine AW.skip ?_; try simp
      refine hK _ rfl ?_; clear hK; clear K
      have w1 : IntKind.i64.wrap ((i + 1 : Nat) : Int) = ((i + 1 : Nat) : Int) := wi (by omega)
      have hri : r < rows.length := by omega
      have hwi := hd i hi
      refine AW.seq_ex (ι := Unit) (fun _ => [(0, .osl B 1 0 rows.length), (1, .int .i64 j), (2, .int .i64 r), (8, .int .i64 (i : Nat))]) (fun _ => M) (fun _ => signR (rr (mrow rows i) j) = 0) ?_ ?_
      · (repeat refine AW.seq ?_); refine AW.block ?_
        have hs := rsign_call (rr (mrow rows i) j) (rr_lb (hlb.row i) j)
        refine AW.seq_ex (ι := Unit) (fun _ => [(0, .osl B 1 0 rows.length), (1, .int .i64 j), (2, .int .i64 r), (8, .int .i64 (i : Nat))]) (fun _ => M) (fun _ => ¬ signR (rr (mrow rows i) j) = 0) ?_ ?_
        · (repeat refine AW.seq_k fun K hK => ?_); refine AW.rg ?_; simp [hi, hM.top, ↓hM.get hi, hM.row i hi, hwi, hj]; try (refine hK _ rfl ?_; clear hK; clear K)
          refine CallK.val hs ?_; simp; refine hK _ rfl ?_; clear hK; clear K; (repeat refine AW.seq ?_)
          refine AW.cs (fun h0 => ?_) (fun h0 => ?_) rfl <;> (try simp at h0)
          · refine AW.exit ?_
            try simp
            exact h0
          · refine AW.skip ?_; try simp
            exact h0
        rintro _ h0
        (repeat refine AW.seq_k fun K hK => ?_)
        refine AW.rdA B [0, 1, 2, 3, 4, 5, 6, 7, 8, 9, 10, 11, 12, 13, 14, 15] mix (by simp [hi, hri, hM.top, ↓hM.get hi, ↓hM.get hri, hdrs_length hM.len]) ?_
        simp [hi, hri, hM.top, ↓hM.get hi, ↓hM.get hri, hdrs_length hM.len]; try (refine hK _ rfl ?_; clear hK; clear K)
        (repeat refine AW.seq_k fun K hK => ?_); refine AW.rg ?_; simp; try (refine hK _ rfl ?_; clear hK; clear K)
        have hO' : OnlyM (M.set B ⟨42, 1, ((hdrs bs rows).set i (.osl (nb bs r) 4 0 (mrow rows r).length)).set r (.osl (nb bs i) 4 0 (mrow rows i).length)⟩) (B :: bs) := hO.set (by simp) _
        have hb : ∀ b, b ∈ B :: swapB bs i r ↔ b ∈ B :: bs := fun b => by simp [swapB_mem (bs := bs) (i := i) (r := r) (by rw [hM.len]; exact hi) (by rw [hM.len]; exact hri) b]
        refine AW.ret (ret_mem rfl ?_ ?_)
        · exact (hM.swap hi hri).ones (l := []) (hO'.sub fun b h => (hb b).2 h) (by simp)
        · unfold pivOut
          rw [pivR_some g2 g1 hi h0]
          refine ⟨?_, hM.swap hi hri, hO'⟩
          by_cases e : i = r
          · simp [e]
          · simp [e]
      · rintro _ h0
        (repeat refine AW.seq_k fun K hK => ?_); refine AW.rg ?_; simp [-Int.natCast_add, w1]; try (refine hK _ rfl ?_; clear hK; clear K)
        refine ⟨⟨by omega, fun k hk1 hk2 => ?_⟩, by omega⟩
        rcases Nat.lt_succ_iff_lt_or_eq.1 hk2 with h | rfl
        · exact g2 k hk1 h
        · exact h0
    · refine AW.exit ?_
      try simp
      exact fun k a b => g2 k a (by omega)
  rintro _ hno
  (repeat refine AW.seq_k fun K hK => ?_); refine AW.rg ?_; simp; try (refine hK _ rfl ?_; clear hK; clear K)
  refine AW.ret (ret_mem rfl hones ?_)
  unfold pivOut
  rw [pivR_none hno]
  exact ⟨rfl, rfl⟩
end Go.Av
end
section
namespace Go.Av
open Go.Proofs
theorem Recast.sub {m m' : Mem} (h : ∀ b x, m' b = some x → m b = some x ∧ ∀ v ∈ x.l, v.cells.all AV.one = true) : Recast m m' := by
  refine ⟨fun c y hy => ⟨y, (h c y hy).1, rfl, rfl, rfl, fun k v v' q1 q2 => ?_⟩⟩
  rw [q1] at q2
  cases q2
  exact ⟨.same _, (h c y hy).2 v (List.mem_of_getElem? q1)⟩
/-- A block given up. -/
theorem Recast.drop {m : Mem} {b : Nat} {x : Blk} (hb : m b = none) (h1 : ∀ c y, m c = some y → ∀ v ∈ y.l, v.cells.all AV.one = true) : Recast (m.set b x) m :=
  Recast.sub fun c y hy => ⟨by
    simp only [set_at]
    rw [if_neg (by rintro rfl; rw [hb] at hy; cases hy)]; exact hy, h1 c y hy⟩
theorem view_temp {M : Mem} {b z : Nat} {e : TypeId} {cs : List AV} (hb : M b = none) : View (M.set b ⟨e, z, [.agg cs]⟩) M (.ptr b z 0 0) (.rptr cs) :=
  View.ptr b z 0 0 ⟨e, z, [.agg cs]⟩ (.agg cs) (Mem.set_same _ _ _) hb rfl rfl
section
variable {av : Nat → Prop} {m : Mem} {k : AV → Mem → Prop} {c : Nat} {x : AV} {e : Int} {a b : RR}
theorem nadd_K (hc : m c = some ⟨61, 1, [x]⟩) (hv : ¬ av c) (hx : isE x e) (ha : a.Lb) (hb : b.Lb) (h : e = 0 → a.ok = true ∧ b.ok = true) (hk : ∀ x', isE x' (nOut e a (addQ a.q b.q)).1 → k (nOut e a (addQ a.q b.q)).2.av (m.set c ⟨61, 1, [x']⟩)) : CallK Tryz.prog av 75 [.ptr c 1 0 0, a.av, b.av] m k :=
  CallK.grant (R := fun v y => v = (nOut e a (addQ a.q b.q)).2.av ∧ ∃ x', isE x' (nOut e a (addQ a.q b.q)).1 ∧ y = ⟨61, 1, [x']⟩) c _ hc hv ((nadd_call c x e hx a b ha hb h).mono fun v m ⟨h1, x', h2, h3⟩ => ⟨_, ⟨h1, x', h2, rfl⟩, h3⟩) (by rintro _ _ ⟨rfl, x', hx', rfl⟩; exact hk x' hx')
theorem nsub_K (hc : m c = some ⟨61, 1, [x]⟩) (hv : ¬ av c) (hx : isE x e) (ha : a.Lb) (hb : b.Lb) (h : e = 0 → a.ok = true ∧ b.ok = true) (hk : ∀ x', isE x' (nOut e a (subQ a.q b.q)).1 → k (nOut e a (subQ a.q b.q)).2.av (m.set c ⟨61, 1, [x']⟩)) : CallK Tryz.prog av 56 [.ptr c 1 0 0, a.av, b.av] m k :=
  CallK.grant (R := fun v y => v = (nOut e a (subQ a.q b.q)).2.av ∧ ∃ x', isE x' (nOut e a (subQ a.q b.q)).1 ∧ y = ⟨61, 1, [x']⟩) c _ hc hv ((nsub_call c x e hx a b ha hb h).mono fun v m ⟨h1, x', h2, h3⟩ => ⟨_, ⟨h1, x', h2, rfl⟩, h3⟩) (by rintro _ _ ⟨rfl, x', hx', rfl⟩; exact hk x' hx')
theorem nmul_K (hc : m c = some ⟨61, 1, [x]⟩) (hv : ¬ av c) (hx : isE x e) (ha : a.Lb) (hb : b.Lb) (h : e = 0 → a.ok = true ∧ b.ok = true) (hk : ∀ x', isE x' (nOut e a (mulQ a.q b.q)).1 → k (nOut e a (mulQ a.q b.q)).2.av (m.set c ⟨61, 1, [x']⟩)) : CallK Tryz.prog av 57 [.ptr c 1 0 0, a.av, b.av] m k :=
  CallK.grant (R := fun v y => v = (nOut e a (mulQ a.q b.q)).2.av ∧ ∃ x', isE x' (nOut e a (mulQ a.q b.q)).1 ∧ y = ⟨61, 1, [x']⟩) c _ hc hv ((nmul_call c x e hx a b ha hb h).mono fun v m ⟨h1, x', h2, h3⟩ => ⟨_, ⟨h1, x', h2, rfl⟩, h3⟩) (by rintro _ _ ⟨rfl, x', hx', rfl⟩; exact hk x' hx')
theorem ndiv_K (hc : m c = some ⟨61, 1, [x]⟩) (hv : ¬ av c) (hx : isE x e) (ha : a.Lb) (hb : b.Lb) (h : e = 0 → a.ok = true ∧ b.ok = true ∧ b.q ≠ 0) (hk : ∀ x', isE x' (nOut e a (divQ a.q b.q)).1 → k (nOut e a (divQ a.q b.q)).2.av (m.set c ⟨61, 1, [x']⟩)) : CallK Tryz.prog av 59 [.ptr c 1 0 0, a.av, b.av] m k :=
  CallK.grant (R := fun v y => v = (nOut e a (divQ a.q b.q)).2.av ∧ ∃ x', isE x' (nOut e a (divQ a.q b.q)).1 ∧ y = ⟨61, 1, [x']⟩) c _ hc hv ((ndiv_call c x e hx a b ha hb h).mono fun v m ⟨h1, x', h2, h3⟩ => ⟨_, ⟨h1, x', h2, rfl⟩, h3⟩) (by rintro _ _ ⟨rfl, x', hx', rfl⟩; exact hk x' hx')
end
theorem mode_ok {e : Int} {rows : List (List RR)} {Z : Option (List (List Rat))} (h : Mode e rows Z) (he : e = 0) {i j : Nat} (hj : j < (mrow rows i).length) : (rr (mrow rows i) j).ok = true := by
  cases Z with
  | none => have : e = 2 := h; omega
  | some M =>
    obtain ⟨_, m2, m3⟩ : e = 0 ∧ rows = emb M ∧ GoodM M := h
    subst m2
    rw [emb_row, List.length_map] at hj
    rw [emb_row, rr_map hj]
    exact ofQ_ok (m3.at hj)
theorem nOut_ne {e : Int} {a : RR} {q : Option Rat} (h : e ≠ 0) : nOut e a q = (e, a) := if_neg h
theorem nOut_eq {e : Int} {a : RR} {q : Option Rat} (h : e = 0) : match q with | some z => (nOut e a q).1 = 0 ∧ (nOut e a q).2 = ofQ z | none => (nOut e a q).1 = 2 := by
  unfold nOut
  rw [if_pos h]
  cases q with
  | none => rfl
  | some z => exact ⟨rfl, rfl⟩
theorem nOut_none {e : Int} {a : RR} (h : e = 0) : nOut e a none = (2, badR) := if_pos h
theorem nOut_some {e : Int} {a : RR} {z : Rat} (h : e = 0) : nOut e a (some z) = (0, ofQ z) := if_pos h
def ints (l : List Nat) : List AV := l.map fun p => .int .i64 (p : Nat)
@[simp] theorem ints_length (l : List Nat) : (ints l).length = l.length := by simp [ints]
theorem ints_one (l : List Nat) : ∀ v ∈ ints l, v.cells.all AV.one = true := by
  intro v hv
  obtain ⟨p, _, rfl⟩ := List.mem_map.1 hv
  rfl
theorem ints_snoc (l : List Nat) (p : Nat) : ints (l ++ [p]) = ints l ++ [.int .i64 (p : Nat)] := by simp [ints]
/-- A list of numbers in memory. -/
def PivV (M : Mem) (pv : AV) (pb ps : List Nat) : Prop :=
  (ps = [] ∧ pb = [] ∧ pv = .nil) ∨ ∃ b, pb = [b] ∧ pv = .osl b 1 0 ps.length ∧ M b = some ⟨3, 1, ints ps⟩
theorem PivV.keep {M M' : Mem} {pv : AV} {pb ps : List Nat} (h : PivV M pv pb ps) (hm : ∀ b ∈ pb, M' b = M b) : PivV M' pv pb ps := by
  rcases h with h | ⟨b, h1, h2, h3⟩
  · exact .inl h
  · exact .inr ⟨b, h1, h2, by rw [hm b (by simp [h1])]; exact h3⟩
theorem PivV.len {M : Mem} {pv : AV} {pb ps : List Nat} (h : PivV M pv pb ps) (size bytes : Nat) (e : TypeId) (zero : AV) (fs : List (Nat × Nat × Option Bool)) : lenAV ⟨size, bytes, .slice e, zero, fs⟩ pv = some (.int .i64 ps.length) := by
  rcases h with ⟨rfl, _, rfl⟩ | ⟨b, _, rfl, _⟩
  · simp
  · simp
theorem PivV.view {M : Mem} {pv : AV} {pb ps : List Nat} (h : PivV M pv pb ps) : View M Mem.emp pv (.sl 1 (ints ps)) := by
  rcases h with ⟨rfl, _, rfl⟩ | ⟨b, _, rfl, h⟩
  · exact .nilsl 1
  · refine .osl b 1 0 ps.length _ _ h rfl rfl (by simp) (by simp) fun j u u' g1 g2 => ?_
    simp only [Nat.zero_add] at g1
    rw [g1] at g2
    cases g2
    exact .same _
structure RedM (M : Mem) (c B : Nat) (bs : List Nat) (rows : List (List RR)) (x pv : AV) (pb ps : List Nat) : Prop where
  mat : MatM M B bs rows
  cell : M c = some ⟨61, 1, [x]⟩
  piv : PivV M pv pb ps
  only : OnlyM M (c :: B :: (bs ++ pb))
  cB : c ≠ B
  cb : c ∉ bs
  pB : B ∉ pb
  pc : c ∉ pb
  pd : ∀ b ∈ pb, b ∉ bs
section
variable {M : Mem} {c B : Nat} {bs : List Nat} {rows : List (List RR)} {x pv : AV} {pb ps : List Nat}
theorem isE_one {x : AV} {e : Int} (h : isE x e) : x.cells.all AV.one = true := by unfold isE at h; rw [h]; rfl
theorem RedM.nc (h : RedM M c B bs rows x pv pb ps) {i : Nat} (hi : i < rows.length) : nb bs i ≠ c := fun e => h.cb (e ▸ nb_mem (by rw [h.mat.len]; exact hi))
theorem RedM.np (h : RedM M c B bs rows x pv pb ps) {i : Nat} (hi : i < rows.length) : nb bs i ∉ pb := fun e => h.pd _ e (nb_mem (by rw [h.mat.len]; exact hi))
theorem RedM.setE (h : RedM M c B bs rows x pv pb ps) (x' : AV) : RedM (M.set c ⟨61, 1, [x']⟩) c B bs rows x' pv pb ps :=
  ⟨h.mat.other h.cB h.cb _, by simp, h.piv.keep fun b hb => by simp only [set_at]; rw [if_neg (by rintro rfl; exact h.pc hb)], h.only.set (by simp) _, h.cB, h.cb, h.pB, h.pc, h.pd⟩
theorem RedM.setRow (h : RedM M c B bs rows x pv pb ps) {i : Nat} (hi : i < rows.length) (r : List RR) (hr : r.length = (mrow rows i).length) : RedM (M.set (nb bs i) ⟨36, 4, rrs r⟩) c B bs (rows.set i r) x pv pb ps :=
  ⟨h.mat.setRow hi r hr, by simp only [set_at]; rw [if_neg (Ne.symm (h.nc hi))]; exact h.cell, h.piv.keep fun b hb => by simp only [set_at]; rw [if_neg (by rintro rfl; exact h.np hi hb)],
    h.only.set (by simp [nb_mem (show i < bs.length by rw [h.mat.len]; exact hi)]) _, h.cB, h.cb, h.pB, h.pc, h.pd⟩
theorem RedM.ones (h : RedM M c B bs rows x pv pb ps) {e : Int} (hx : isE x e) : ∀ (b : Nat) (y : Blk), M b = some y → ∀ v ∈ y.l, v.cells.all AV.one = true := by
  refine h.mat.ones (l := c :: pb) (h.only.sub fun b hb => by simp at hb ⊢; rcases hb with h | h | h | h <;> simp [h]) fun b hb y hy => ?_
  rcases List.mem_cons.1 hb with rfl | hb
  · rw [h.cell] at hy; cases hy
    intro v hv
    simp at hv
    subst hv
    exact isE_one hx
  · rcases h.piv with ⟨_, h1, _⟩ | ⟨b', h1, _, h3⟩
    · rw [h1] at hb; cases hb
    · rw [h1] at hb
      simp at hb
      subst hb
      rw [h3] at hy; cases hy
      exact ints_one ps
/-- The matrix is handed over and comes back. -/
theorem RedM.back (h : RedM M c B bs rows x pv pb ps) {g : Mem} {bs' : List Nat} {rows' : List (List RR)} (hg : MatM g B bs' rows') (ho : OnlyM g (B :: bs)) (hb : ∀ b, b ∈ bs' ↔ b ∈ bs) : RedM (M.back (B :: bs) g) c B bs' rows' x pv pb ps := by
  have hout : ∀ b, b ∉ B :: bs → (M.back (B :: bs) g) b = M b := fun b hb => back_out (ho.none hb) hb
  refine ⟨hg.back _, by rw [hout c (by simp [h.cB, h.cb])]; exact h.cell, h.piv.keep fun b hb' => hout b ?_, fun b hb' => ?_, h.cB, fun hh => h.cb ((hb _).1 hh), h.pB, h.pc, fun b h1 h2 => h.pd b h1 ((hb _).1 h2)⟩
  · simp only [List.mem_cons, not_or]
    exact ⟨by rintro rfl; exact h.pB hb', h.pd b hb'⟩
  · by_cases hm : b ∈ B :: bs
    · simp only [List.mem_cons, List.mem_append, hb] at hm ⊢
      rcases hm with h | h <;> simp [h]
    · rw [hout b hm] at hb'
      have := h.only b hb'
      simp only [List.mem_cons, List.mem_append, hb] at this ⊢
      exact this
theorem RedM.matOnly (h : RedM M c B bs rows x pv pb ps) : MatM (M.only (B :: bs)) B bs rows ∧ OnlyM (M.only (B :: bs)) (B :: bs) :=
  ⟨h.mat.only fun b hb => by simpa using hb, onlyM_only _ _⟩
theorem RedM.fresh (h : RedM M c B bs rows x pv pb ps) {b : Nat} (hb : M b = none) : b ≠ c ∧ b ≠ B ∧ b ∉ bs ∧ b ∉ pb := by
  refine ⟨(by rintro rfl; rw [h.cell] at hb; cases hb), (by rintro rfl; rw [h.mat.top] at hb; cases hb), fun hm => ?_, fun hm => ?_⟩
  · obtain ⟨i, hi, e⟩ := List.mem_iff_getElem.1 hm
    rw [← nb_eq hi] at e
    have := h.mat.row i (by rw [← h.mat.len]; exact hi)
    rw [e, hb] at this; cases this
  · rcases h.piv with ⟨_, h1, _⟩ | ⟨b', h1, _, h3⟩
    · rw [h1] at hm; cases hm
    · rw [h1] at hm
      simp at hm
      subst hm
      rw [h3] at hb; cases hb
/-- The list grows. -/
theorem RedM.push0 (h : RedM M c B bs rows x .nil [] []) {b : Nat} (hb : M b = none) (j : Nat) : RedM (M.set b ⟨3, 1, [.int .i64 (j : Nat)]⟩) c B bs rows x (.osl b 1 0 1) [b] [j] := by
  obtain ⟨f1, f2, f3, _⟩ := h.fresh hb
  refine ⟨h.mat.other f2 f3 _, by simp only [set_at]; rw [if_neg (Ne.symm f1)]; exact h.cell, .inr ⟨b, rfl, rfl, by simp [ints]⟩, ?_, h.cB, h.cb, by simpa using Ne.symm f2, by simpa using Ne.symm f1, by simpa using f3⟩
  exact (h.only.sub fun a ha => by simp at ha ⊢; rcases ha with h | h | h <;> simp [h]).set (by simp) _
theorem RedM.push1 {b0 : Nat} (h : RedM M c B bs rows x (.osl b0 1 0 ps.length) [b0] ps) {b : Nat} (hb : (M.del b0) b = none) (j : Nat) : RedM ((M.del b0).set b ⟨3, 1, ints ps ++ [.int .i64 (j : Nat)]⟩) c B bs rows x (.osl b 1 0 (ps.length + 1)) [b] (ps ++ [j]) := by
  have hB : B ≠ b0 := by have := h.pB; simpa using this
  have hc : c ≠ b0 := by have := h.pc; simpa using this
  have hd : b0 ∉ bs := h.pd b0 (by simp)
  have hh : RedM (M.del b0) c B bs rows x .nil [] [] := by
    have hdel : ∀ a, a ≠ b0 → (M.del b0) a = M a := fun a ha => if_neg ha
    refine ⟨⟨by rw [hdel B hB]; exact h.mat.top, h.mat.len, fun i hi => ?_, h.mat.nd, h.mat.nB⟩, by rw [hdel c hc]; exact h.cell, .inl ⟨rfl, rfl, rfl⟩, fun a ha => ?_, h.cB, h.cb, by simp, by simp, by simp⟩
    · rw [hdel _ (fun e => hd (e ▸ nb_mem (by rw [h.mat.len]; exact hi)))]
      exact h.mat.row i hi
    · have h1 : a ≠ b0 := by
        rintro rfl
        exact ha (if_pos rfl)
      rw [hdel a h1] at ha
      have := h.only a ha
      simp at this ⊢
      rcases this with h | h | h | h
      · exact .inl h
      · exact .inr (.inl h)
      · exact .inr (.inr h)
      · exact absurd h h1
  obtain ⟨f1, f2, f3, _⟩ := hh.fresh hb
  refine ⟨hh.mat.other f2 f3 _, by simp only [set_at]; rw [if_neg (Ne.symm f1)]; exact hh.cell, .inr ⟨b, rfl, by simp, by simp [ints_snoc]⟩, ?_, h.cB, h.cb, by simpa using Ne.symm f2, by simpa using Ne.symm f1, by simpa using f3⟩
  exact (hh.only.sub fun a ha => by simp at ha ⊢; rcases ha with h | h | h <;> simp [h]).set (by simp) _
end
end Go.Av
end
section
namespace Go.Av
open Go.Proofs
theorem back_only (M : Mem) (l : List Nat) : M.back l (M.only l) = M := by
  funext b
  by_cases hb : b ∈ l
  · rw [back_in hb, only_in hb]
  · rw [back_out (only_out hb) hb]
/-- What the reduction leaves. -/
def redOut (c B : Nat) (X0 : List (List Rat)) (v : AV) (M' : Mem) : Prop :=
  ∃ x', M' c = some ⟨61, 1, [x']⟩ ∧ (∀ b y, M' b = some y → ∀ v ∈ y.l, v.cells.all AV.one = true) ∧ match reduceQ X0 with
  | none => isE x' 2
  | some z => isE x' 0 ∧ ∃ bs' pb, RedM M' c B bs' (emb z.1) x' v pb z.2
structure RedS where
  X : List (List Rat)
  ps : List Nat
  M : Mem
  bs : List Nat
  pv : AV
  pb : List Nat
  x : AV
structure RowS where
  M : Mem
  rows : List (List RR)
  x : AV
  e : Int
/-- The state of the reduction ahead of a column. -/
def InvR (X0 : List (List Rat)) (c B w j : Nat) (s : RedS) : Prop :=
  iterO colStep j (X0, []) = some (s.X, s.ps) ∧ GoodM s.X ∧ dimM s.X w ∧ s.X.length = X0.length ∧ s.ps.length ≤ j ∧ RedM s.M c B s.bs (emb s.X) s.x s.pv s.pb s.ps ∧ isE s.x 0
/-- The state inside a column. -/
def InvW (c B : Nat) (bs : List Nat) (pv : AV) (pb ps : List Nat) (w n : Nat) (Z : Option (List (List Rat))) (s : RowS) : Prop :=
  RedM s.M c B bs s.rows s.x pv pb ps ∧ isE s.x s.e ∧ LbM s.rows ∧ dimM s.rows w ∧ s.rows.length = n ∧ Mode s.e s.rows Z
theorem InvW.row {op : Rat → Nat → Option Rat} (hop : ∀ q k x, op q k = some x → Good x) {c B : Nat} {bs : List Nat} {pv : AV} {pb ps : List Nat} {w n : Nat} {Z0 : Option (List (List Rat))} {s : RowS} (h : InvW c B bs pv pb ps w n Z0 s) {i k : Nat} (hi : i < n) (hk : k < w)
    {Z : Option (List (List Rat) × List Rat)} (hZ : Z0 = Z.map fun z => z.1.set i z.2) {e' : Int} {y : RR} {x' : AV} (hx : isE x' e') (hy : y.Lb) (h1 : s.e ≠ 0 → e' = s.e) (h2 : s.e = 0 → match op (rr (mrow s.rows i) k).q k with | some z => e' = 0 ∧ y = ofQ z | none => e' = 2) :
    InvW c B bs pv pb ps w n (Z.bind fun z => (rowStep op k z.2).map fun row => z.1.set i row) ⟨(s.M.set c ⟨61, 1, [x']⟩).set (nb bs i) ⟨36, 4, rrs ((mrow s.rows i).set k y)⟩, s.rows.set i ((mrow s.rows i).set k y), x', e'⟩ := by
  obtain ⟨g1, g2, g3, g4, g5, g6⟩ := h
  exact ⟨(g1.setE x').setRow (by omega) _ (by simp), hx, g3.set i (lb_set (g3.row i) k hy), g4.set (by rw [List.length_set]; exact g4 i (by omega)), by simp [g5], mode_row hop g5 hi g4 hk hZ g6 h1 h2⟩
theorem Mode.mono {e : Int} {rows : List (List RR)} {Z Z' : Option (List (List Rat))} (h : Mode e rows Z) (hZ : Z' = Z) : Mode e rows Z' := hZ ▸ h
theorem InvW.to {c B : Nat} {bs : List Nat} {pv : AV} {pb ps : List Nat} {w n : Nat} {Z Z' : Option (List (List Rat))} {s : RowS} (h : InvW c B bs pv pb ps w n Z s) (hZ : Z' = Z) : InvW c B bs pv pb ps w n Z' s := hZ ▸ h
/-- A number less a product, with errors kept. -/
theorem less_out {e : Int} {a b f : RR} {bq fq : Rat} (hb : e = 0 → b.q = bq ∧ f.q = fq) {e1 : Int} {p : RR} (hp : nOut e b (mulQ b.q f.q) = (e1, p)) :
    (e ≠ 0 → (nOut e1 a (subQ a.q p.q)).1 = e) ∧ (e = 0 → match lessQ a.q fq bq with | some z => (nOut e1 a (subQ a.q p.q)).1 = 0 ∧ (nOut e1 a (subQ a.q p.q)).2 = ofQ z | none => (nOut e1 a (subQ a.q p.q)).1 = 2) := by
  constructor
  · intro he
    rw [nOut_ne he] at hp
    cases hp
    rw [nOut_ne he]
  · intro he
    obtain ⟨h1, h2⟩ := hb he
    unfold lessQ
    rw [h1, h2] at hp
    cases hm : mulQ bq fq with
    | none =>
      rw [hm, nOut_none he] at hp
      cases hp
      show (nOut 2 a _).1 = 2
      rw [nOut_ne (by omega)]
    | some m =>
      rw [hm, nOut_some he] at hp
      cases hp
      rw [ofQ_q]
      exact nOut_eq rfl
theorem less_ok {e : Int} {b f : RR} (hg : ∀ z, mulQ b.q f.q = some z → Good z) {e1 : Int} {p : RR} (hp : nOut e b (mulQ b.q f.q) = (e1, p)) (h1 : e1 = 0) : e = 0 ∧ p.ok = true := by
  by_cases he : e = 0
  · refine ⟨he, ?_⟩
    cases hm : mulQ b.q f.q with
    | none => rw [hm, nOut_none he] at hp; cases hp; omega
    | some m =>
      rw [hm, nOut_some he] at hp
      cases hp
      exact ofQ_ok (hg m hm)
  · rw [nOut_ne he] at hp
    cases hp
    exact absurd h1 he
theorem good_less {a f b c : Rat} (h : lessQ a f b = some c) : Good c := by
  unfold lessQ at h
  cases hm : mulQ b f with
  | none => rw [hm] at h; cases h
  | some m => rw [hm] at h; exact good_sub h
theorem pivQ_some {M : List (List Rat)} {j r i : Nat} (h : pivQ M j r = some i) : i < M.length ∧ r ≤ i ∧ qel M i j ≠ 0 := by
  obtain ⟨h1, h2, _⟩ := find_range h
  simp at h2
  exact ⟨h1, h2.1, h2.2⟩
theorem nreduce_call (M0 : Mem) (c B : Nat) (bs0 : List Nat) (X0 : List (List Rat)) (x0 : AV) (w : Nat) (hR0 : RedM M0 c B bs0 (emb X0) x0 .nil [] []) (hx0 : isE x0 0) (hg0 : GoodM X0) (hd0 : dimM X0 w) (hw : w = (mrow X0 0).length) (hn : X0.length < 2^40) (hw2 : w < 2^40) :
    ACall Tryz.prog 46 [.ptr c 1 0 0, .osl B 1 0 X0.length] M0 (redOut c B X0) := by
  have hwid := width_call (emb X0)
  have e0 : (mrow (emb X0) 0).length = w := by rw [emb_row, List.length_map, hw]
  have hv0 := hR0.mat.view
  rw [emb_length] at hv0
  rw [e0] at hwid
  have hq : reduceQ X0 = iterO colStep w (X0, []) := by unfold reduceQ; rw [hw]
  generalize hN : X0.length = n at *
  refine acall_S Tryz.func46 rfl rfl 129 rfl (Nat.le_of_ble_eq_true rfl) ?_
  (repeat refine AW.seq_k fun K hK => ?_); refine AW.rg ?_; simp [argsL]; try (refine hK _ rfl ?_; clear hK; clear K)
  refine AW.scope ?_
  (repeat refine AW.seq_k fun K hK => ?_); refine AW.rg ?_; simp; try (refine hK _ rfl ?_; clear hK; clear K)
  refine AW.seq (AW.label ?_)
  intro _
  refine AW.seq_ex (ι := Mem × AV) (fun z => [(5, z.2)]) (fun z => z.1) (fun z => redOut c B X0 z.2 z.1) ?_ ?_
  · (repeat refine AW.seq_k fun K hK => ?_); refine AW.rg ?_; simp; try (refine hK _ rfl ?_; clear hK; clear K)
    refine CallK.borrow [matAV (emb X0)] (by simpa using hv0) hwid ?_
    rintro _ rfl
    refine ⟨rfl, ?_⟩
    simp; refine hK _ rfl ?_; clear hK; clear K
    refine AW.block (AW.loopS (ι := Nat × RedS) (fun z => [(0, .ptr c 1 0 0), (1, .osl B 1 0 n), (5, z.2.pv), (16, .int .i64 w), (17, .int .i64 (z.1 : Nat))]) (fun z => z.2.M) (fun z => z.1 ≤ w ∧ InvR X0 c B w z.1 z.2) (fun z => w - z.1) (0, ⟨X0, [], M0, bs0, .nil, [], x0⟩) ⟨by simp, rfl, hg0, hd0, rfl, by simp, hR0, hx0⟩ rfl (by simp) ?_)
    rintro ⟨j, X, ps, M, bs, pv, pb, x⟩ ⟨hjw, i1, i2, i3, i4, i5, i6, i7⟩
    simp only at hjw i1 i2 i3 i4 i5 i6 i7
    rw [hN] at i4
    simp only; (repeat refine AW.seq_k fun K hK => ?_); refine AW.rg ?_; simp; try (refine hK _ rfl ?_; clear hK; clear K)
    (repeat refine AW.seq ?_)
    refine AW.cs (fun hj => ?_) (fun hj => ?_) rfl <;> (try simp at hj)
    · refine AW.skip ?_; try simp
      have w1 : IntKind.i64.wrap ((j + 1 : Nat) : Int) = ((j + 1 : Nat) : Int) := wi (by omega)
      have hlen := i6.piv.len
      refine AW.seq_ex (ι := RedS) (fun s => [(0, .ptr c 1 0 0), (1, .osl B 1 0 n), (5, s.pv), (16, .int .i64 w), (17, .int .i64 (j : Nat))]) (fun s => s.M) (fun s => InvR X0 c B w (j + 1) s) ?_ ?_
      · (repeat refine AW.seq ?_); refine AW.block ?_; (repeat refine AW.seq_k fun K hK => ?_); refine AW.rg ?_; simp; try (refine hK _ rfl ?_; clear hK; clear K)
        (repeat refine AW.seq_k fun K hK => ?_); refine AW.rg ?_; simp [hlen]; try (refine hK _ rfl ?_; clear hK; clear K)
        have hp := pivot_call _ B bs (emb X) i6.matOnly.1 i6.matOnly.2 (lb_emb X) w j ps.length (dim_emb i3) hj (by rw [emb_length]; omega) hw2 (by omega)
        rw [emb_length, i4] at hp
        (repeat refine AW.seq_k fun K hK => ?_); refine AW.rg ?_; simp; try (refine hK _ rfl ?_; clear hK; clear K)
        refine CallK.hand (B :: bs) (by simp) hp ?_
        intro v g hv _
        unfold pivOut at hv
        rw [pivR_emb i2 i3 hj] at hv
        have hcol : iterO colStep (j + 1) (X0, []) = colStep j (X, ps) := by rw [iterO_succ, i1]; rfl
        cases hpq : pivQ X j ps.length with
        | none =>
          rw [hpq] at hv
          obtain ⟨rfl, rfl⟩ := hv
          rw [back_only]; simp; refine hK _ rfl ?_; clear hK; clear K; (repeat refine AW.seq_k fun K hK => ?_); refine AW.rg ?_; simp; try (refine hK _ rfl ?_; clear hK; clear K)
          refine AW.yes ?_ rfl
          refine AW.exit ?_
          try simp
          refine ⟨⟨X, ps, M, bs, pv, pb, x⟩, ⟨?_, i2, i3, by rw [hN]; exact i4, by show ps.length ≤ j + 1; omega, i6, i7⟩, by simp⟩
          rw [hcol]; unfold colStep; simp only [hpq]
        | some i =>
          rw [hpq] at hv
          obtain ⟨rfl, hg1, hg2⟩ := hv
          obtain ⟨p1, p2, p3⟩ := pivQ_some hpq
          rw [i4] at p1
          have hr : ps.length < n := by omega
          have hR1 := i6.back hg1 hg2 (fun b => swapB_mem (bs := bs) (i := i) (r := ps.length) (by rw [i6.mat.len, emb_length, i4]; exact p1) (by rw [i6.mat.len, emb_length, i4]; exact hr) b)
          rw [← emb_swap] at hR1
          have hcol : iterO colStep (j + 1) (X0, []) = (clearQ (swapL X i ps.length) j ps.length).map fun M => (M, ps ++ [j]) := by rw [hcol]; unfold colStep; simp only [hpq]
          have hX1 : GoodM (swapL X i ps.length) := i2.swap _ _
          have hd1 : dimM (swapL X i ps.length) w := i3.swap (by omega) (by omega)
          have hn1 : (swapL X i ps.length).length = n := by rw [swapL_length, i4]
          have hdq : qel (swapL X i ps.length) ps.length j ≠ 0 := by
            unfold qel; rw [mrow_swap (by omega) (by omega), if_pos rfl]; exact p3
          generalize swapL X i ps.length = X1 at *
          generalize M.back (B :: bs) g = M1 at *
          generalize swapB bs i ps.length = bs1 at *
          generalize decide (i ≠ ps.length) = sw
          simp; refine hK _ rfl ?_; clear hK; clear K; (repeat refine AW.seq_k fun K hK => ?_); refine AW.rg ?_; simp; try (refine hK _ rfl ?_; clear hK; clear K)
          refine AW.no ?_ rfl; refine AW.skip ?_; try simp
          refine hK _ rfl ?_; clear hK; clear K
          have hrl : (mrow (emb X1) ps.length).length = w := by rw [emb_row, List.length_map]; exact hd1 _ (by omega)
          have hre : ps.length < (emb X1).length := by rw [emb_length, hn1]; exact hr
          have hde : rr (mrow (emb X1) ps.length) j = ofQ (qel X1 ps.length j) := by rw [emb_row, rr_map (by rw [hd1 _ (by omega)]; exact hj)]; rfl
          have hd0 : Good (qel X1 ps.length j) := hX1.at (by rw [hd1 _ (by omega)]; exact hj)
          (repeat refine AW.seq_k fun K hK => ?_); refine AW.rg ?_; simp [hr, hR1.mat.top, ↓hR1.mat.get hre, hR1.mat.row ps.length hre, hrl, hj]; try (refine hK _ rfl ?_; clear hK; clear K)
          refine Fresh.intro fun b10 hb10 => ?_
          refine hK _ rfl ?_; clear hK; clear K
          have hdlb : (rr (mrow (emb X1) ps.length) j).Lb := rr_lb ((lb_emb X1).row _) j
          generalize hrr : ps.length = r at *
          generalize hdr : rr (mrow (emb X1) r) j = dr at *
          refine AW.turn [(0, .ptr c 1 0 0), (1, .osl B 1 0 n), (5, pv), (16, .int .i64 w), (17, .int .i64 (j : Nat)), (6, .int .i64 (j : Nat)), (7, .int .i64 r), (10, .rptr [.bool dr.n1, lim dr.l1, .bool dr.n2, lim dr.l2])] M1 (Recast.drop hb10 (hR1.ones i7)) ?_ ?_
          · simp [view_temp hb10]
          generalize hrow0 : mrow X1 r = row0 at *
          generalize hd : qel X1 r j = d at *
          refine AW.seq_ex (ι := RowS) (fun s => [(0, .ptr c 1 0 0), (1, .osl B 1 0 n), (5, pv), (16, .int .i64 w), (17, .int .i64 (j : Nat)), (6, .int .i64 (j : Nat)), (7, .int .i64 r), (10, .rptr [.bool dr.n1, lim dr.l1, .bool dr.n2, lim dr.l2])]) (fun s => s.M) (fun s => InvW c B bs1 pv pb ps w n ((iterO (divStep d) w row0).map fun row => X1.set r row) s) ?_ ?_
          · (repeat refine AW.seq_k fun K hK => ?_); refine AW.rg ?_; simp [hr, hR1.mat.top, ↓hR1.mat.get hre, hrl]; try (refine hK _ rfl ?_; clear hK; clear K)
            refine AW.block (AW.loopS (ι := Nat × RowS) (fun z => [(0, .ptr c 1 0 0), (1, .osl B 1 0 n), (5, pv), (16, .int .i64 w), (17, .int .i64 (j : Nat)), (6, .int .i64 (j : Nat)), (7, .int .i64 r), (10, .rptr [.bool dr.n1, lim dr.l1, .bool dr.n2, lim dr.l2]), (42, .int .i64 w), (43, .int .i64 (z.1 : Nat))]) (fun z => z.2.M) (fun z => z.1 ≤ w ∧ InvW c B bs1 pv pb ps w n ((iterO (divStep d) z.1 row0).map fun row => X1.set r row) z.2) (fun z => w - z.1) (0, ⟨M1, emb X1, x, 0⟩) ⟨by simp, hR1, i7, lb_emb X1, dim_emb hd1, by rw [emb_length, hn1], ?_⟩ rfl (by simp) ?_)
            · show Mode 0 (emb X1) (some (X1.set r row0))
              rw [← hrow0, mrow_eq (by omega), List.set_getElem_self]
              exact ⟨rfl, rfl, hX1⟩
            rintro ⟨k, M, rows, x, e⟩ ⟨g1, g2, g3, g4, g5, g6, g7⟩
            simp only at g1 g2 g3 g4 g5 g6 g7; (repeat refine AW.seq_k fun K hK => ?_); refine AW.rg ?_; simp; try (refine hK _ rfl ?_; clear hK; clear K)
            (repeat refine AW.seq ?_)
            refine AW.cs (fun hk => ?_) (fun hk => ?_) rfl <;> (try simp at hk)
            · refine AW.skip ?_; try simp
              (repeat refine AW.seq ?_); refine AW.block ?_; (repeat refine AW.seq_k fun K hK => ?_); refine AW.rg ?_; simp; try (refine hK _ rfl ?_; clear hK; clear K)
              have hrr' : r < rows.length := by omega
              have hlr := g5 r hrr'
              (repeat refine AW.seq_k fun K hK => ?_)
              refine AW.rdT [] [10] [] [B, nb bs1 r] [0, 1, 2, 3, 4, 5, 6, 7, 8, 9, 10, 11, 12, 13, 14, 15, 16] mix (by simp [hr, hk, g2.mat.top, ↓g2.mat.get hrr', g2.mat.row r hrr', hlr]) (by simp [hr, hk, g2.mat.top, ↓g2.mat.get hrr', g2.mat.row r hrr', hlr]) (by simp [hr, hk, g2.mat.top, ↓g2.mat.get hrr', g2.mat.row r hrr', hlr]) (by simp [hr, hk, g2.mat.top, ↓g2.mat.get hrr', g2.mat.row r hrr', hlr]) (by simp [hr, hk, g2.mat.top, ↓g2.mat.get hrr', g2.mat.row r hrr', hlr]) ?_
              simp [hr, hk, g2.mat.top, ↓g2.mat.get hrr', g2.mat.row r hrr', hlr]; try (refine hK _ rfl ?_; clear hK; clear K)
              have nB := Ne.symm g2.cB
              have nR := g2.nc hrr'
              have n0 := g2.mat.ne hrr'
              refine ndiv_K (a := rr (mrow rows r) k) (b := dr) g2.cell (by simp [nB, Ne.symm nR, g2.cB]) g3 (rr_lb (g4.row r) k) hdlb (fun he => ⟨mode_ok g7 he (by rw [hlr]; exact hk), by rw [hde]; exact ofQ_ok hd0, by rw [hde, ofQ_q]; exact hdq⟩) ?_
              intro x' hx'
              simp [hr, hk, nR, n0, g2.mat.row r hrr', hlr]
              have w2 : IntKind.i64.wrap ((k + 1 : Nat) : Int) = ((k + 1 : Nat) : Int) := wi (by omega)
              (repeat refine AW.seq_k fun K hK => ?_); refine AW.rg ?_; simp [-Int.natCast_add, w2]; try (refine hK _ rfl ?_; clear hK; clear K)
              have hs := InvW.row (op := fun q _ => divQ q d) (y := (nOut e (rr (mrow rows r) k) (divQ (rr (mrow rows r) k).q dr.q)).2) (fun q k x hx => good_div hdq hx) (s := ⟨M, rows, x, e⟩) ⟨g2, g3, g4, g5, g6, g7⟩ hr hk (Z := (iterO (divStep d) k row0).map fun row => (X1, row)) (by cases iterO (divStep d) k row0 <;> rfl) hx' (nOut_lb (rr_lb (g4.row r) k)) (fun he => by rw [nOut_ne he]) (fun he => by
                have := nOut_eq (a := rr (mrow rows r) k) (q := divQ (rr (mrow rows r) k).q dr.q) he
                rw [hde, ofQ_q] at this ⊢
                exact this)
              exact ⟨k + 1, _, ⟨hk, hs.to (by rw [iterO_succ]; cases iterO (divStep d) k row0 <;> rfl)⟩, by omega, rfl, rfl⟩
            · refine AW.exit ?_
              try simp
              have : k = w := by omega
              subst this
              exact ⟨⟨M, rows, x, e⟩, ⟨g2, g3, g4, g5, g6, g7⟩, rfl⟩
          rintro ⟨M2, rows2, x2, e2⟩ hs2
          simp only
          refine AW.seq_ex (ι := RowS) (fun s => [(0, .ptr c 1 0 0), (1, .osl B 1 0 n), (5, pv), (16, .int .i64 w), (17, .int .i64 (j : Nat)), (6, .int .i64 (j : Nat)), (7, .int .i64 r), (10, .rptr [.bool dr.n1, lim dr.l1, .bool dr.n2, lim dr.l2])]) (fun s => s.M) (fun s => InvW c B bs1 pv pb ps w n ((iterO (divStep d) w row0).bind fun row => iterO (elimStep r j) n (X1.set r row)) s) ?_ ?_
          · (repeat refine AW.seq_k fun K hK => ?_); refine AW.rg ?_; simp; try (refine hK _ rfl ?_; clear hK; clear K)
            refine AW.block (AW.loopS (ι := Nat × RowS) (fun z => [(0, .ptr c 1 0 0), (1, .osl B 1 0 n), (5, pv), (16, .int .i64 w), (17, .int .i64 (j : Nat)), (6, .int .i64 (j : Nat)), (7, .int .i64 r), (10, .rptr [.bool dr.n1, lim dr.l1, .bool dr.n2, lim dr.l2]), (64, .int .i64 n), (65, .int .i64 (z.1 : Nat))]) (fun z => z.2.M) (fun z => z.1 ≤ n ∧ InvW c B bs1 pv pb ps w n ((iterO (divStep d) w row0).bind fun row => iterO (elimStep r j) z.1 (X1.set r row)) z.2) (fun z => n - z.1) (0, ⟨M2, rows2, x2, e2⟩) ⟨by simp, hs2.to (by cases iterO (divStep d) w row0 <;> rfl)⟩ rfl (by simp) ?_)
            rintro ⟨i, M, rows, x, e⟩ ⟨g1, g2, g3, g4, g5, g6, g7⟩
            simp only at g1 g2 g3 g4 g5 g6 g7
            generalize hZ : ((iterO (divStep d) w row0).bind fun row => iterO (elimStep r j) i (X1.set r row)) = Z at g7
            have hZ1 : ((iterO (divStep d) w row0).bind fun row => iterO (elimStep r j) (i + 1) (X1.set r row)) = Z.bind (elimStep r j i) := by
              rw [← hZ]; cases iterO (divStep d) w row0 <;> rfl
            (repeat refine AW.seq_k fun K hK => ?_); refine AW.rg ?_; simp; try (refine hK _ rfl ?_; clear hK; clear K)
            (repeat refine AW.seq ?_)
            refine AW.cs (fun hi => ?_) (fun hi => ?_) rfl <;> (try simp at hi)
            · refine AW.skip ?_; try simp
              have hi' : i < rows.length := by omega
              have hr' : r < rows.length := by omega
              have hli := g5 i hi'
              have hlr := g5 r hr'
              have w3 : IntKind.i64.wrap ((i + 1 : Nat) : Int) = ((i + 1 : Nat) : Int) := wi (by omega)
              refine AW.seq_ex (ι := RowS) (fun s => [(0, .ptr c 1 0 0), (1, .osl B 1 0 n), (5, pv), (16, .int .i64 w), (17, .int .i64 (j : Nat)), (6, .int .i64 (j : Nat)), (7, .int .i64 r), (10, .rptr [.bool dr.n1, lim dr.l1, .bool dr.n2, lim dr.l2]), (64, .int .i64 n), (65, .int .i64 (i : Nat))]) (fun s => s.M) (fun s => InvW c B bs1 pv pb ps w n ((iterO (divStep d) w row0).bind fun row => iterO (elimStep r j) (i + 1) (X1.set r row)) s) ?_ ?_
              · (repeat refine AW.seq ?_); refine AW.block ?_; (repeat refine AW.seq_k fun K hK => ?_); refine AW.rg ?_; simp; try (refine hK _ rfl ?_; clear hK; clear K)
                (repeat refine AW.seq_k fun K hK => ?_); refine AW.rg ?_; simp [hi, g2.mat.top, ↓g2.mat.get hi', g2.mat.row i hi', hli, hj]; try (refine hK _ rfl ?_; clear hK; clear K)
                refine Fresh.intro fun b13 hb13 => ?_
                refine hK _ rfl ?_; clear hK; clear K
                have hflb : (rr (mrow rows i) j).Lb := rr_lb (g4.row i) j
                have hfq : ∀ X', Z = some X' → rr (mrow rows i) j = ofQ (qel X' i j) ∧ Good (qel X' i j) := by
                  intro X' hX'
                  subst hX'
                  obtain ⟨_, m2, m3⟩ : e = 0 ∧ rows = emb X' ∧ GoodM X' := g7
                  subst m2
                  have hjl : j < (mrow X' i).length := by rw [emb_row, List.length_map] at hli; omega
                  exact ⟨by rw [emb_row, rr_map hjl]; rfl, m3.at hjl⟩
                have hsg := rsign_call _ hflb
                generalize hfr : rr (mrow rows i) j = fr at *
                refine AW.turn [(0, .ptr c 1 0 0), (1, .osl B 1 0 n), (5, pv), (16, .int .i64 w), (17, .int .i64 (j : Nat)), (6, .int .i64 (j : Nat)), (7, .int .i64 r), (10, .rptr [.bool dr.n1, lim dr.l1, .bool dr.n2, lim dr.l2]), (64, .int .i64 n), (65, .int .i64 (i : Nat)), (12, .int .i64 (i : Nat)), (13, .rptr [.bool fr.n1, lim fr.l1, .bool fr.n2, lim fr.l2])] M (Recast.drop hb13 (g2.ones g3)) ?_ ?_
                · simp [view_temp hb13]
                have hskip : i = r ∨ signR fr = 0 → ((iterO (divStep d) w row0).bind fun row => iterO (elimStep r j) (i + 1) (X1.set r row)) = Z := by
                  intro h
                  rw [hZ1]
                  cases Z with
                  | none => rfl
                  | some X' =>
                    obtain ⟨q1, q2⟩ := hfq X' rfl
                    have : i = r ∨ qel X' i j = 0 := h.imp id fun h => by rw [q1, signR_ofQ q2] at h; exact signQ_zero.1 h
                    exact if_pos this
                refine AW.seq_ex (ι := Unit) (fun _ => [(0, .ptr c 1 0 0), (1, .osl B 1 0 n), (5, pv), (16, .int .i64 w), (17, .int .i64 (j : Nat)), (6, .int .i64 (j : Nat)), (7, .int .i64 r), (10, .rptr [.bool dr.n1, lim dr.l1, .bool dr.n2, lim dr.l2]), (64, .int .i64 n), (65, .int .i64 (i : Nat)), (12, .int .i64 (i : Nat)), (13, .rptr [.bool fr.n1, lim fr.l1, .bool fr.n2, lim fr.l2])]) (fun _ => M) (fun _ => i ≠ r ∧ signR fr ≠ 0) ?_ ?_
                · by_cases hir : i = r
                  · (repeat refine AW.seq_k fun K hK => ?_); refine AW.rg ?_; simp [hir]; try (refine hK _ rfl ?_; clear hK; clear K)
                    refine AW.yes ?_ rfl
                    refine AW.exit ?_
                    try simp
                    exact ⟨⟨M, rows, x, e⟩, InvW.to ⟨g2, g3, g4, g5, g6, g7⟩ (hskip (.inl hir)), by simp [hir]⟩
                  · (repeat refine AW.seq_k fun K hK => ?_); refine AW.rg ?_; simp [hir]; try (refine hK _ rfl ?_; clear hK; clear K)
                    refine CallK.val hsg ?_; simp; refine hK _ rfl ?_; clear hK; clear K; (repeat refine AW.seq ?_)
                    refine AW.cs (fun h0 => ?_) (fun h0 => ?_) rfl <;> (try simp at h0)
                    · refine AW.exit ?_
                      try simp
                      exact ⟨⟨M, rows, x, e⟩, InvW.to ⟨g2, g3, g4, g5, g6, g7⟩ (hskip (.inr h0)), by simp⟩
                    · refine AW.skip ?_; try simp
                      exact ⟨hir, h0⟩
                rintro _ ⟨h1, h2⟩
                have hgo : ∀ X', Z = some X' → elimStep r j i X' = (iterO (subStep (mrow X' r) (qel X' i j)) (mrow X' i).length (mrow X' i)).map (X'.set i) := by
                  intro X' hX'
                  obtain ⟨q1, q2⟩ := hfq X' hX'
                  refine if_neg ?_
                  rintro (h | h)
                  · exact h1 h
                  · exact h2 (by rw [q1, signR_ofQ q2]; exact signQ_zero.2 h)
                clear hskip
                have hZl : ∀ X', Z = some X' → X'.length = n ∧ ∀ k, k < n → (mrow X' k).length = w := by
                  intro X' hX'
                  subst hX'
                  obtain ⟨_, m2, _⟩ : e = 0 ∧ rows = emb X' ∧ GoodM X' := g7
                  subst m2
                  rw [emb_length] at g6
                  exact ⟨g6, fun k hk => by have := g5 k (by rw [emb_length]; omega); rwa [emb_row, List.length_map] at this⟩
                have hend : ((iterO (divStep d) w row0).bind fun row => iterO (elimStep r j) (i + 1) (X1.set r row)) = Z.bind fun X' => (iterO (subStep (mrow X' r) (qel X' i j)) w (mrow X' i)).map (X'.set i) := by
                  rw [hZ1]
                  cases hZ2 : Z with
                  | none => rfl
                  | some X' =>
                    show elimStep r j i X' = _
                    rw [hgo X' hZ2, (hZl X' hZ2).2 i hi]
                    rfl
                have hbeg : (Z.bind fun X' => (iterO (subStep (mrow X' r) (qel X' i j)) 0 (mrow X' i)).map (X'.set i)) = Z := by
                  cases hZ2 : Z with
                  | none => rfl
                  | some X' =>
                    have := (hZl X' hZ2).1
                    show some (X'.set i (mrow X' i)) = some X'
                    rw [mrow_eq (by omega), List.set_getElem_self]
                (repeat refine AW.seq_k fun K hK => ?_); refine AW.rg ?_; simp [hi, g2.mat.top, ↓g2.mat.get hi', hli]; try (refine hK _ rfl ?_; clear hK; clear K)
                refine AW.block (AW.loopS (ι := Nat × RowS) (fun z => [(0, .ptr c 1 0 0), (1, .osl B 1 0 n), (5, pv), (16, .int .i64 w), (17, .int .i64 (j : Nat)), (6, .int .i64 (j : Nat)), (7, .int .i64 r), (10, .rptr [.bool dr.n1, lim dr.l1, .bool dr.n2, lim dr.l2]), (64, .int .i64 n), (65, .int .i64 (i : Nat)), (12, .int .i64 (i : Nat)), (13, .rptr [.bool fr.n1, lim fr.l1, .bool fr.n2, lim fr.l2]), (87, .int .i64 w), (88, .int .i64 (z.1 : Nat))]) (fun z => z.2.M) (fun z => z.1 ≤ w ∧ InvW c B bs1 pv pb ps w n (Z.bind fun X' => (iterO (subStep (mrow X' r) (qel X' i j)) z.1 (mrow X' i)).map (X'.set i)) z.2) (fun z => w - z.1) (0, ⟨M, rows, x, e⟩) ⟨by simp, InvW.to ⟨g2, g3, g4, g5, g6, g7⟩ hbeg⟩ rfl (by simp) ?_)
                clear hbeg
                clear g2 g3 g4 g5 g6 hi' hr' hli hlr
                rintro ⟨k, M, rows, x, e⟩ ⟨g1, g2, g3, g4, g5, g6, g8⟩
                simp only at g1 g2 g3 g4 g5 g6 g8; (repeat refine AW.seq_k fun K hK => ?_); refine AW.rg ?_; simp; try (refine hK _ rfl ?_; clear hK; clear K)
                (repeat refine AW.seq ?_)
                refine AW.cs (fun hk => ?_) (fun hk => ?_) rfl <;> (try simp at hk)
                · refine AW.skip ?_; try simp
                  (repeat refine AW.seq ?_); refine AW.block ?_; (repeat refine AW.seq_k fun K hK => ?_); refine AW.rg ?_; simp; try (refine hK _ rfl ?_; clear hK; clear K)
                  have hi' : i < rows.length := by omega
                  have hr' : r < rows.length := by omega
                  have hli := g5 i hi'
                  have hlr := g5 r hr'
                  have nB := Ne.symm g2.cB
                  have nI := g2.nc hi'
                  have nR := g2.nc hr'
                  have n0 := g2.mat.ne hi'
                  have hb : e = 0 → (rr (mrow rows r) k).q = qat (mrow (Z.getD []) r) k ∧ fr.q = qel (Z.getD []) i j := by
                    intro he
                    cases hZ2 : Z with
                    | none => rw [hZ2] at g8; have : e = 2 := g8; omega
                    | some X' =>
                      rw [hZ2] at g8
                      obtain ⟨q1, q2⟩ := hfq X' hZ2
                      show _ = qat (mrow X' r) k ∧ fr.q = qel X' i j
                      refine ⟨?_, by rw [q1, ofQ_q]⟩
                      replace g8 : Mode e rows ((iterO (subStep (mrow X' r) (qel X' i j)) k (mrow X' i)).map (X'.set i)) := g8
                      cases hit : iterO (subStep (mrow X' r) (qel X' i j)) k (mrow X' i) with
                      | none => rw [hit] at g8; have : e = 2 := g8; omega
                      | some row =>
                        rw [hit] at g8
                        obtain ⟨_, m2, _⟩ : e = 0 ∧ rows = emb (X'.set i row) ∧ GoodM (X'.set i row) := g8
                        rw [m2, emb_row, mrow_set (by rw [(hZl X' hZ2).1]; exact hi), if_neg (Ne.symm h1), rr_map (by rw [(hZl X' hZ2).2 r hr]; exact hk), ofQ_q]
                  (repeat refine AW.seq_k fun K hK => ?_)
                  refine AW.rdT [] [13] [] [B, nb bs1 i, nb bs1 r] [0, 1, 2, 3, 4, 5, 6, 7, 8, 9, 10, 11, 12, 13, 14, 15, 16, 17, 18, 19, 20, 21, 22, 23, 24, 25] mix (by simp [hi, hr, hk, g2.mat.top, ↓g2.mat.get hi', ↓g2.mat.get hr', g2.mat.row i hi', g2.mat.row r hr', hli, hlr]) (by simp [hi, hr, hk, g2.mat.top, ↓g2.mat.get hi', ↓g2.mat.get hr', g2.mat.row i hi', g2.mat.row r hr', hli, hlr]) (by simp [hi, hr, hk, g2.mat.top, ↓g2.mat.get hi', ↓g2.mat.get hr', g2.mat.row i hi', g2.mat.row r hr', hli, hlr]) (by simp [hi, hr, hk, g2.mat.top, ↓g2.mat.get hi', ↓g2.mat.get hr', g2.mat.row i hi', g2.mat.row r hr', hli, hlr]) (by simp [hi, hr, hk, g2.mat.top, ↓g2.mat.get hi', ↓g2.mat.get hr', g2.mat.row i hi', g2.mat.row r hr', hli, hlr]) ?_
                  simp [hi, hr, hk, g2.mat.top, ↓g2.mat.get hi', ↓g2.mat.get hr', g2.mat.row i hi', g2.mat.row r hr', hli, hlr]; try (refine hK _ rfl ?_; clear hK; clear K)
                  have hfok : e = 0 → fr.ok = true := by
                    intro he
                    cases hZ2 : Z with
                    | none => rw [hZ2] at g8; have : e = 2 := g8; omega
                    | some X' => obtain ⟨q1, q2⟩ := hfq X' hZ2; rw [q1]; exact ofQ_ok q2
                  refine nmul_K (a := rr (mrow rows r) k) (b := fr) g2.cell (by simp [nB, Ne.symm nR, Ne.symm nI, g2.cB]) g3 (rr_lb (g4.row r) k) hflb (fun he => ⟨mode_ok g8 he (by rw [hlr]; exact hk), hfok he⟩) ?_
                  intro x1 hx1
                  have hplb : (nOut e (rr (mrow rows r) k) (mulQ (rr (mrow rows r) k).q fr.q)).2.Lb := nOut_lb (rr_lb (g4.row r) k)
                  have hlo := less_out (a := rr (mrow rows i) k) hb (e1 := (nOut e (rr (mrow rows r) k) (mulQ (rr (mrow rows r) k).q fr.q)).1) (p := (nOut e (rr (mrow rows r) k) (mulQ (rr (mrow rows r) k).q fr.q)).2) rfl
                  have hlk := less_ok (b := rr (mrow rows r) k) (f := fr) (e := e) (fun z hz => good_mul hz) (e1 := (nOut e (rr (mrow rows r) k) (mulQ (rr (mrow rows r) k).q fr.q)).1) (p := (nOut e (rr (mrow rows r) k) (mulQ (rr (mrow rows r) k).q fr.q)).2) rfl
                  generalize (nOut e (rr (mrow rows r) k) (mulQ (rr (mrow rows r) k).q fr.q)) = ep at *
                  obtain ⟨e1, p⟩ := ep
                  simp only at hx1 hplb hlo hlk; simp
                  refine nsub_K (a := rr (mrow rows i) k) (b := p) (Mem.set_same _ _ _) (by simp [nB, Ne.symm nR, Ne.symm nI, g2.cB]) hx1 (rr_lb (g4.row i) k) hplb (fun he => ⟨mode_ok g8 (hlk he).1 (by rw [hli]; exact hk), (hlk he).2⟩) ?_
                  intro x2 hx2
                  simp [hi, hk, nI, nR, n0, g2.mat.row i hi', hli]
                  have w2 : IntKind.i64.wrap ((k + 1 : Nat) : Int) = ((k + 1 : Nat) : Int) := wi (by omega)
                  (repeat refine AW.seq_k fun K hK => ?_); refine AW.rg ?_; simp [-Int.natCast_add, w2]; try (refine hK _ rfl ?_; clear hK; clear K)
                  have hs := InvW.row (op := fun q k => lessQ q (qel (Z.getD []) i j) (qat (mrow (Z.getD []) r) k)) (y := (nOut e1 (rr (mrow rows i) k) (subQ (rr (mrow rows i) k).q p.q)).2) (fun q k x hx => good_less hx) (s := ⟨M, rows, x, e⟩) ⟨g2, g3, g4, g5, g6, g8⟩ hi hk (Z := Z.bind fun X' => (iterO (subStep (mrow X' r) (qel X' i j)) k (mrow X' i)).map fun row => (X', row)) (by
                    cases Z with
                    | none => rfl
                    | some X' =>
                      show (iterO _ k (mrow X' i)).map _ = _
                      cases hit : iterO (subStep (mrow X' r) (qel X' i j)) k (mrow X' i) <;> simp [hit]) hx2 (nOut_lb (rr_lb (g4.row i) k)) hlo.1 hlo.2
                  exact ⟨k + 1, _, ⟨hk, hs.to (by
                    cases Z with
                    | none => rfl
                    | some X' =>
                      show (iterO _ (k + 1) (mrow X' i)).map _ = _
                      rw [iterO_succ]
                      cases hit : iterO (subStep (mrow X' r) (qel X' i j)) k (mrow X' i) with
                      | none => simp [hit]
                      | some row => simp [hit]; rfl)⟩, by omega, rfl, rfl⟩
                · refine AW.exit ?_
                  try simp
                  have : k = w := by omega
                  subst this
                  exact ⟨⟨M, rows, x, e⟩, InvW.to ⟨g2, g3, g4, g5, g6, g8⟩ hend, rfl⟩
              rintro ⟨M3, rows3, x3, e3⟩ hs3
              (repeat refine AW.seq_k fun K hK => ?_); refine AW.rg ?_; simp [-Int.natCast_add, w3]; try (refine hK _ rfl ?_; clear hK; clear K)
              exact ⟨i + 1, ⟨M3, rows3, x3, e3⟩, ⟨hi, hs3⟩, by omega, rfl, rfl⟩
            · refine AW.exit ?_
              try simp
              have : i = n := by omega
              subst this
              exact ⟨⟨M, rows, x, e⟩, ⟨g2, g3, g4, g5, g6, hZ ▸ g7⟩, rfl⟩
          rintro ⟨M3, rows3, x3, e3⟩ ⟨g1, g2, g3, g4, g5, g6⟩
          simp only at g1 g2 g3 g4 g5 g6; simp only
          have hcl : clearQ X1 j r = (iterO (divStep d) w row0).bind fun row => iterO (elimStep r j) n (X1.set r row) := by
            unfold clearQ
            rw [hd, hrow0, hn1, show row0.length = w by rw [← hrow0]; exact hd1 r (by omega)]
          rw [hcl] at hcol
          refine AW.seq_ex (ι := Mem × Nat) (fun z => [(0, .ptr c 1 0 0), (1, .osl B 1 0 n), (5, .osl z.2 1 0 (r + 1)), (16, .int .i64 w), (17, .int .i64 (j : Nat))]) (fun z => z.1) (fun z => RedM z.1 c B bs1 rows3 x3 (.osl z.2 1 0 (r + 1)) [z.2] (ps ++ [j])) ?_ ?_
          · rcases g1.piv with ⟨z1, z2, z3⟩ | ⟨b0, z2, z3, z4⟩
            · subst z1 z2 z3
              have hr0 : r = 0 := hrr.symm
              subst hr0; (repeat refine AW.seq_k fun K hK => ?_)
              refine AW.rgR [120] ?_
              simp; try (refine hK _ rfl ?_; clear hK; clear K)
              exact ⟨by unfold maxLen; omega, Fresh.intro fun b hb => g1.push0 hb j⟩
            · subst z2 z3
              have hps : ps.length < 2^40 := by omega
              (repeat refine AW.seq_k fun K hK => ?_)
              refine AW.rgR [120] ?_
              simp [z4]; try (refine hK _ rfl ?_; clear hK; clear K)
              refine ⟨by omega, by unfold maxLen; omega, Fresh.intro fun b hb => ⟨_, b, ?_, rfl, rfl, hrr⟩⟩
              have := g1.push1 hb j
              rwa [hrr] at this
          rintro ⟨M4, b4⟩ hR4
          simp only at hR4
          have hx3 : x3.cells = [.int .i64 e3] := g2
          (repeat refine AW.seq_k fun K hK => ?_); refine AW.rg ?_; simp [hR4.cell, hx3]; try (refine hK _ rfl ?_; clear hK; clear K)
          (repeat refine AW.seq ?_)
          refine AW.cs (fun he => ?_) (fun he => ?_) rfl <;> (try simp at he)
          · refine AW.exit ?_
            try simp
            have hno : iterO colStep (j + 1) (X0, []) = none := by
              rw [hcol]
              generalize ((iterO (divStep d) w row0).bind fun row => iterO (elimStep r j) n (X1.set r row)) = Z at g6
              cases Z with
              | none => rfl
              | some Y => exact absurd g6.1 he
            have he2 : e3 = 2 := by
              generalize ((iterO (divStep d) w row0).bind fun row => iterO (elimStep r j) n (X1.set r row)) = Z at g6
              cases Z with
              | none => exact g6
              | some Y => exact absurd g6.1 he
            refine ⟨x3, hR4.cell, hR4.ones g2, ?_⟩
            rw [hq, iterO_none' hno (by omega)]
            rw [he2] at g2
            exact g2
          · refine AW.skip ?_; try simp
            generalize ((iterO (divStep d) w row0).bind fun row => iterO (elimStep r j) n (X1.set r row)) = Z at g6 hcol
            cases Z with
            | none => have : e3 = 2 := g6; omega
            | some Y =>
              obtain ⟨_, m2, m3⟩ : e3 = 0 ∧ rows3 = emb Y ∧ GoodM Y := g6
              subst m2
              refine ⟨⟨Y, ps ++ [j], M4, bs1, .osl b4 1 0 (r + 1), [b4], x3⟩, ⟨hcol, m3, ?_, ?_, by simp [hrr]; omega, hR4, he ▸ g2⟩, rfl, rfl⟩
              · intro i hi
                have := g4 i (by rw [emb_length]; exact hi)
                rwa [emb_row, List.length_map] at this
              · rw [emb_length] at g5; rw [hN]; exact g5
      rintro ⟨X, ps, M, bs, pv, pb, x⟩ hs
      (repeat refine AW.seq_k fun K hK => ?_); refine AW.rg ?_; simp [-Int.natCast_add, w1]; try (refine hK _ rfl ?_; clear hK; clear K)
      exact ⟨j + 1, ⟨X, ps, M, bs, pv, pb, x⟩, ⟨hj, hs⟩, by omega, by simp⟩
    · refine AW.exit ?_
      try simp
      have : j = w := by omega
      subst this
      refine ⟨x, i6.cell, i6.ones i7, ?_⟩
      rw [hq, i1]
      exact ⟨i7, bs, pb, i6⟩
  rintro ⟨M, pv⟩ hs
  (repeat refine AW.seq_k fun K hK => ?_); refine AW.rg ?_; simp; try (refine hK _ rfl ?_; clear hK; clear K)
  obtain ⟨x', h1, h2, h3⟩ := hs
  exact AW.ret (ret_mem rfl h2 ⟨x', h1, h2, h3⟩)
end Go.Av
end
section
namespace Go.Av
open Go.Proofs
section
variable {P : Program} {av : Nat → Prop} {f : FuncId} {args : List AV} {m : Mem} {k : AV → Mem → Prop}
/-- A call that makes memory. -/
theorem CallK.news {R : AV → Mem → Prop} (h : ACall P f args Mem.emp R) (hk : ∀ v g, R v g → (∀ b, g b ≠ none → m b = none ∧ ¬ av b) → k v (m.back [] g)) : CallK P av f args m k := by
  have e : m.only [] = Mem.emp := by funext b; rfl
  refine CallK.hand [] (by simp) (by rw [e]; exact h) fun v g hr hf => hk v g hr fun b hb => ?_
  rcases hf b hb with h | h
  · cases h
  · exact h
/-- A call that is handed all memory. -/
theorem CallK.whole {R : AV → Mem → Prop} (hav : ∀ b, ¬ av b) (h : ACall P f args m R) (hk : ∀ v g, R v g → k v g) : CallK P av f args m k := by
  refine .inl ⟨m, R, fun c y hy => ⟨hy, hav c⟩, h, fun v g hr _ => ?_⟩
  have e : merge m m g = g := by
    funext c
    unfold merge
    cases g c with
    | some x => rfl
    | none => cases hm : m c <;> rfl
  rw [e]
  exact hk v g hr
end
def unq (m : List (List RR)) : List (List Rat) := m.map fun r => r.map RR.q
theorem unq_length (m : List (List RR)) : (unq m).length = m.length := by simp [unq]
theorem unq_row (m : List (List RR)) (i : Nat) : mrow (unq m) i = (mrow m i).map RR.q := by
  unfold mrow unq
  rw [List.getD_eq_getElem?_getD, List.getD_eq_getElem?_getD, List.getElem?_map]
  cases m[i]? <;> rfl
theorem chk_zero {m : List (List RR)} (h : chk m = 0) : ¬ (64 < m.length ∨ bigRow m) ∧ okRows m := by
  by_cases h1 : 64 < m.length ∨ bigRow m
  · rw [chk_big h1] at h; omega
  · refine ⟨h1, ?_⟩
    by_cases h2 : okRows m
    · exact h2
    · rw [chk_bad h1 h2] at h; omega
theorem mem_row {m : List (List RR)} {r : List RR} (h : r ∈ m) : ∃ i, i < m.length ∧ mrow m i = r := by
  obtain ⟨i, hi, e⟩ := List.mem_iff_getElem.1 h
  exact ⟨i, hi, by rw [mrow_eq hi, e]⟩
theorem mem_rr {r : List RR} {x : RR} (h : x ∈ r) : ∃ j, j < r.length ∧ rr r j = x := by
  obtain ⟨j, hj, e⟩ := List.mem_iff_getElem.1 h
  exact ⟨j, hj, by rw [rr_eq hj, e]⟩
theorem chk_emb {m : List (List RR)} (hm : LbM m) (h : chk m = 0) : m = emb (unq m) ∧ GoodM (unq m) ∧ dimM (unq m) (mrow (unq m) 0).length ∧ m.length ≤ 64 ∧ (mrow (unq m) 0).length ≤ 64 := by
  obtain ⟨h1, h2⟩ := chk_zero h
  have hok : ∀ r ∈ m, ∀ x ∈ r, x.ok = true := by
    intro r hr x hx
    obtain ⟨i, hi, rfl⟩ := mem_row hr
    obtain ⟨j, hj, rfl⟩ := mem_rr hx
    exact (h2 i hi).2 j hj
  refine ⟨?_, ?_, ?_, ?_, ?_⟩
  · unfold emb unq
    rw [List.map_map]
    conv => lhs; rw [← List.map_id m]
    refine List.map_congr_left fun r hr => ?_
    show r = (r.map RR.q).map ofQ
    rw [List.map_map]
    conv => lhs; rw [← List.map_id r]
    refine List.map_congr_left fun x hx => ?_
    exact (ok_good (hm r hr x hx) (hok r hr x hx)).2
  · intro r hr q hq
    obtain ⟨s, hs, rfl⟩ := List.mem_map.1 hr
    obtain ⟨x, hx, rfl⟩ := List.mem_map.1 hq
    exact (ok_good (hm s hs x hx) (hok s hs x hx)).1
  · intro i hi
    rw [unq_row, unq_row, List.length_map, List.length_map]
    exact (h2 i (by rwa [unq_length] at hi)).1
  · rcases Nat.lt_or_ge 64 m.length with h | h
    · exact absurd (.inl h) h1
    · exact h
  · rw [unq_row, List.length_map]
    rcases Nat.lt_or_ge 64 (mrow m 0).length with h | h
    · rcases Nat.eq_zero_or_pos m.length with h0 | h0
      · have : m = [] := List.eq_nil_of_length_eq_zero h0
        subst this
        simp [mrow] at h
      · exact absurd (.inr ⟨0, h0, h⟩) h1
    · exact h
/-! ### What the steps keep -/
def rowGood (r : List Rat) : Prop := ∀ q ∈ r, Good q
theorem iter_keep {α : Type} {f : Nat → α → Option α} {p : α → Prop} (h : ∀ i s t, p s → f i s = some t → p t) : ∀ {n : Nat} {s t : α}, p s → iterO f n s = some t → p t
  | 0, s, t, hs, he => by cases he; exact hs
  | n + 1, s, t, hs, he => by
    rw [iterO_succ] at he
    cases hm : iterO f n s with
    | none => rw [hm] at he; cases he
    | some u => rw [hm] at he; exact h n u t (iter_keep h hs hm) he
theorem rowStep_keep {op : Rat → Nat → Option Rat} (hop : ∀ q k x, op q k = some x → Good x) {w k : Nat} {row row' : List Rat} (h : rowGood row ∧ row.length = w) (he : rowStep op k row = some row') : rowGood row' ∧ row'.length = w := by
  unfold rowStep at he
  cases ho : op (qat row k) k with
  | none => rw [ho] at he; cases he
  | some z => rw [ho] at he; cases he; exact ⟨good_set h.1 k (hop _ _ _ ho), by simpa using h.2⟩
def matGood (n w : Nat) (M : List (List Rat)) : Prop := GoodM M ∧ dimM M w ∧ M.length = n
theorem matGood.set {n w : Nat} {M : List (List Rat)} (h : matGood n w M) (i : Nat) {r : List Rat} (hr : rowGood r ∧ r.length = w) : matGood n w (M.set i r) :=
  ⟨h.1.set i hr.1, h.2.1.set hr.2, by simpa using h.2.2⟩
theorem matGood.row {n w : Nat} {M : List (List Rat)} (h : matGood n w M) {i : Nat} (hi : i < n) : rowGood (mrow M i) ∧ (mrow M i).length = w := ⟨h.1.row i, h.2.1 i (by rw [h.2.2]; exact hi)⟩
theorem matGood.swap {n w : Nat} {M : List (List Rat)} (h : matGood n w M) {i j : Nat} (hi : i < n) (hj : j < n) : matGood n w (swapL M i j) := (h.set i (h.row hj)).set j (h.row hi)
theorem elim_keep {n w r j i : Nat} {M M' : List (List Rat)} (hi : i < n) (h : matGood n w M) (he : elimStep r j i M = some M') : matGood n w M' := by
  unfold elimStep at he
  split at he
  · cases he; exact h
  · cases hm : iterO (subStep (mrow M r) (qel M i j)) (mrow M i).length (mrow M i) with
    | none => rw [hm] at he; cases he
    | some row =>
      rw [hm] at he
      cases he
      exact h.set i (iter_keep (p := fun row => rowGood row ∧ row.length = w) (fun k s t hs hst => rowStep_keep (fun q k x hx => good_less hx) hs hst) (h.row hi) hm)
theorem iter_keep' {α : Type} {f : Nat → α → Option α} {p : α → Prop} : ∀ {n : Nat} (h : ∀ i s t, i < n → p s → f i s = some t → p t) {s t : α}, p s → iterO f n s = some t → p t
  | 0, _, s, t, hs, he => by cases he; exact hs
  | n + 1, h, s, t, hs, he => by
    rw [iterO_succ] at he
    cases hm : iterO f n s with
    | none => rw [hm] at he; cases he
    | some u => rw [hm] at he; exact h n u t (by omega) (iter_keep' (fun i s t hi => h i s t (by omega)) hs hm) he
theorem clear_keep {n w r j : Nat} {M M' : List (List Rat)} (hr : r < n) (h : matGood n w M) (hd : qel M r j ≠ 0) (he : clearQ M j r = some M') : matGood n w M' := by
  unfold clearQ at he
  cases hm : iterO (divStep (qel M r j)) (mrow M r).length (mrow M r) with
  | none => rw [hm] at he; cases he
  | some row =>
    rw [hm] at he
    have h1 := iter_keep (p := fun row => rowGood row ∧ row.length = w) (fun k s t hs hst => rowStep_keep (fun q k x hx => good_div hd hx) hs hst) (h.row hr) hm
    have he' : iterO (elimStep r j) n (M.set r row) = some M' := by rw [← h.2.2]; exact he
    exact iter_keep' (p := matGood n w) (fun i s t hi hs hst => elim_keep hi hs hst) (h.set r h1) he'
/-- The state of the reduction. -/
def colGood (n w j : Nat) (z : List (List Rat) × List Nat) : Prop := matGood n w z.1 ∧ z.2.length ≤ n ∧ z.2.length ≤ j ∧ ∀ p ∈ z.2, p < j
theorem col_keep {n w j : Nat} {z z' : List (List Rat) × List Nat} (h : colGood n w j z) (he : colStep j z = some z') : colGood n w (j + 1) z' := by
  obtain ⟨h1, h2, h3, h4⟩ := h
  unfold colStep at he
  cases hp : pivQ z.1 j z.2.length with
  | none => simp only [hp] at he; cases he; exact ⟨h1, h2, by omega, fun p hp => by have := h4 p hp; omega⟩
  | some i =>
    simp only [hp] at he
    obtain ⟨p1, p2, p3⟩ := pivQ_some hp
    rw [h1.2.2] at p1
    have hr : z.2.length < n := by omega
    cases hc : clearQ (swapL z.1 i z.2.length) j z.2.length with
    | none => rw [hc] at he; cases he
    | some M =>
      rw [hc] at he
      cases he
      refine ⟨clear_keep hr (h1.swap p1 hr) ?_ hc, by simp; omega, by simp; omega, fun p hp => ?_⟩
      · unfold qel; rw [mrow_swap (by rw [h1.2.2]; exact p1) (by rw [h1.2.2]; exact hr), if_pos rfl]; exact p3
      · simp at hp
        rcases hp with hp | rfl
        · have := h4 p hp; omega
        · omega
theorem cols_keep {n w : Nat} {z0 : List (List Rat) × List Nat} (h : colGood n w 0 z0) : ∀ {j : Nat} {z : List (List Rat) × List Nat}, iterO colStep j z0 = some z → colGood n w j z
  | 0, z, he => by cases he; exact h
  | j + 1, z, he => by
    rw [iterO_succ] at he
    cases hm : iterO colStep j z0 with
    | none => rw [hm] at he; cases he
    | some u => rw [hm] at he; exact col_keep (cols_keep h hm) he
theorem reduce_keep {n w : Nat} {M : List (List Rat)} (h : matGood n w M) {z : List (List Rat) × List Nat} (he : reduceQ M = some z) : colGood n (w) ((mrow M 0).length) z :=
  cols_keep (z0 := (M, [])) ⟨h, by simp, by simp, by simp⟩ he
/-! ### Reduce -/
theorem short_emb {X : List (List Rat)} (h : GoodM X) : shortM (emb X) := by
  intro r hr x hx
  obtain ⟨s, hs, rfl⟩ := List.mem_map.1 hr
  obtain ⟨q, hq, rfl⟩ := List.mem_map.1 hx
  have := h s hs q hq
  have key : ∀ n, n < B128 → (dig n).length < 2^40 := fun n hn => by
    have := dig_128 hn
    omega
  exact ⟨key _ this.1, key _ this.2⟩
/-- The error, the reduced form and the pivots. -/
noncomputable def redR (m : List (List RR)) : Int × List (List Rat) × List Nat :=
  if chk m ≠ 0 then (chk m, [], []) else match reduceQ (unq m) with
    | none => (2, [], [])
    | some z => (0, z.1, z.2)
theorem RedM.start {X : List (List Rat)} {c : Nat} {x : AV} {g : Mem} {B : Nat} {bs : List Nat} (hg : MatM g B bs (emb X)) (ho : OnlyM g (B :: bs)) (hf : ∀ b, g b ≠ none → (Mem.emp.set c ⟨61, 1, [x]⟩) b = none) :
    RedM ((Mem.emp.set c ⟨61, 1, [x]⟩).back [] g) c B bs (emb X) x .nil [] [] := by
  have hc : g c = none := by
    cases h : g c with
    | none => rfl
    | some y => have := hf c (by rw [h]; simp); simp at this
  refine ⟨hg.back _, by rw [back_out hc (by simp)]; simp, .inl ⟨rfl, rfl, rfl⟩, fun b hb => ?_, ?_, fun hm => ?_, by simp, by simp, by simp⟩
  · cases h : g b with
    | some y => have := ho b (by rw [h]; simp); simp at this ⊢; exact .inr this
    | none =>
      rw [back_out h (by simp)] at hb
      by_cases e : b = c
      · simp [e]
      · simp [e] at hb
  · rintro rfl
    rw [hg.top] at hc; cases hc
  · obtain ⟨i, hi, e⟩ := List.mem_iff_getElem.1 hm
    rw [← nb_eq hi] at e
    have := hg.row i (by rw [← hg.len]; exact hi)
    rw [e, hc] at this; cases this
theorem reduceL_call (m : List (List RR)) (hm : LbM m) : ACall Tryz.prog 17 [matAV m] Mem.emp fun v mm => v = .tup [matAV (emb (redR m).2.1), .sl 1 (ints (redR m).2.2), .int .i64 (redR m).1] ∧ mm = Mem.emp := by
  have hck := check_call m hm
  by_cases h0 : chk m = 0
  · obtain ⟨h1, h2, h3, h4, h5⟩ := chk_emb hm h0
    have hR : redR m = match reduceQ (unq m) with
      | none => (2, [], [])
      | some z => (0, z.1, z.2) := by unfold redR; rw [if_neg (by simp [h0])]
    have hlen := unq_length m
    rw [h0] at hck
    have hcl := clone_call m (by rw [h1]; exact short_emb h2) (by omega) (fun r hr => by
      obtain ⟨i, hi, rfl⟩ := mem_row hr
      have := h3 i (by rw [hlen]; exact hi)
      rw [unq_row, List.length_map] at this
      omega)
    rw [hR]
    clear hR
    generalize unq m = X at *
    subst h1
    rw [emb_length] at *
    have hrd := fun (M0 : Mem) (c B : Nat) (bs0 : List Nat) (x0 : AV) (hR0 : RedM M0 c B bs0 (emb X) x0 .nil [] []) (hx0 : isE x0 0) => nreduce_call M0 c B bs0 X x0 _ hR0 hx0 h2 h3 rfl (by omega) (by omega)
    refine acall_S Tryz.func17 rfl rfl 32 rfl (Nat.le_of_ble_eq_true rfl) ?_
    (repeat refine AW.seq_k fun K hK => ?_); refine AW.rg ?_; simp [argsL]; try (refine hK _ rfl ?_; clear hK; clear K)
    (repeat refine AW.seq_k fun K hK => ?_); refine AW.rg ?_; simp; try (refine hK _ rfl ?_; clear hK; clear K)
    refine CallK.val hck ?_; simp; refine hK _ rfl ?_; clear hK; clear K; (repeat refine AW.seq_k fun K hK => ?_); refine AW.rg ?_; simp; try (refine hK _ rfl ?_; clear hK; clear K)
    refine AW.no ?_ rfl; refine AW.skip ?_; try simp
    refine hK _ rfl ?_; clear hK; clear K; (repeat refine AW.seq_k fun K hK => ?_); refine AW.rg ?_; simp; try (refine hK _ rfl ?_; clear hK; clear K)
    refine Fresh.intro fun c hc => ?_
    refine hK _ rfl ?_; clear hK; clear K; (repeat refine AW.seq_k fun K hK => ?_); refine AW.rg ?_; simp; try (refine hK _ rfl ?_; clear hK; clear K)
    refine CallK.news hcl ?_
    rintro _ g ⟨B, bs, rfl, g1, g2⟩ hf
    have hM := RedM.start g1 g2 (c := c) (x := .agg [.int .i64 0]) (fun b hb => (hf b hb).1)
    generalize (Mem.emp.set c ⟨61, 1, [.agg [.int .i64 0]]⟩).back [] g = M at *
    simp; refine hK _ rfl ?_; clear hK; clear K; (repeat refine AW.seq_k fun K hK => ?_); refine AW.rg ?_; simp; try (refine hK _ rfl ?_; clear hK; clear K)
    refine CallK.whole (by simp) (hrd M c B bs _ hM rfl) ?_
    rintro v M' ⟨x', q1, q2, q3⟩
    simp; refine hK _ rfl ?_; clear hK; clear K
    cases hq : reduceQ X with
    | none =>
      rw [hq] at q3
      have hx' : x'.cells = [.int .i64 2] := q3
      (repeat refine AW.seq_k fun K hK => ?_); refine AW.rg ?_; simp [q1, hx']; try (refine hK _ rfl ?_; clear hK; clear K)
      refine AW.yes ?_ rfl; (repeat refine AW.seq_k fun K hK => ?_)
      refine AW.rdA c [0, 1, 2, 3, 4, 5, 6] mix (by simp [q1, hx']) ?_
      simp [q1, hx']; try (refine hK _ rfl ?_; clear hK; clear K)
      exact AW.ret (ret_views [matAV [], .sl 1 [], .int .i64 2] rfl ⟨.nilsl 1, .nilsl 1, .same _, trivial⟩ ⟨rfl, rfl⟩)
    | some z =>
      obtain ⟨Y, ps⟩ := z
      rw [hq] at q3
      obtain ⟨q3, bs', pb, q4⟩ := q3
      have hx' : x'.cells = [.int .i64 0] := q3
      (repeat refine AW.seq_k fun K hK => ?_); refine AW.rg ?_; simp [q1, hx']; try (refine hK _ rfl ?_; clear hK; clear K)
      refine AW.no ?_ rfl; refine AW.skip ?_; try simp
      refine hK _ rfl ?_; clear hK; clear K; (repeat refine AW.seq_k fun K hK => ?_); refine AW.rg ?_; simp; try (refine hK _ rfl ?_; clear hK; clear K)
      have hk := reduce_keep ⟨h2, h3, rfl⟩ hq
      have hv := q4.mat.view
      rw [emb_length, hk.1.2.2] at hv
      exact AW.ret (ret_views [matAV (emb Y), .sl 1 (ints ps), .int .i64 0] rfl ⟨hv, q4.piv.view, .same _, trivial⟩ ⟨rfl, rfl⟩)
  · have hR : redR m = (chk m, [], []) := by unfold redR; rw [if_pos h0]
    rw [hR]
    generalize chk m = e at *
    refine acall_S Tryz.func17 rfl rfl 32 rfl (Nat.le_of_ble_eq_true rfl) ?_
    (repeat refine AW.seq_k fun K hK => ?_); refine AW.rg ?_; simp [argsL]; try (refine hK _ rfl ?_; clear hK; clear K)
    (repeat refine AW.seq_k fun K hK => ?_); refine AW.rg ?_; simp; try (refine hK _ rfl ?_; clear hK; clear K)
    refine CallK.val hck ?_; simp; refine hK _ rfl ?_; clear hK; clear K; (repeat refine AW.seq_k fun K hK => ?_); refine AW.rg ?_; simp [h0]; try (refine hK _ rfl ?_; clear hK; clear K)
    refine AW.yes ?_ rfl; (repeat refine AW.seq_k fun K hK => ?_); refine AW.rg ?_; simp; try (refine hK _ rfl ?_; clear hK; clear K)
    exact AW.ret (ret_views [matAV [], .sl 1 [], .int .i64 e] rfl ⟨.nilsl 1, .nilsl 1, .same _, trivial⟩ ⟨rfl, rfl⟩)
end Go.Av
end
section
namespace Go.Av
open Go.Proofs
@[simp high] theorem indexAddr_ints (P : Program) (size bytes : Nat) (e : TypeId) (zero : AV) (fs : List (Nat × Nat × Option Bool)) (k : IntKind) (n : Int) (l : List Nat) : indexAddrAV P ⟨size, bytes, .slice e, zero, fs⟩ (.sl 1 (ints l)) (.int k n) = (tinfo P e).bind fun te => if 1 = te.size ∧ 0 ≤ n ∧ n < l.length then some (.rptr [.int .i64 ((l.getD n.toNat 0 : Nat) : Int)]) else none := by
  rw [indexAddr_sl]
  congr 1
  funext te
  rw [ints_length]
  by_cases h : 1 = te.size ∧ 0 ≤ n ∧ n < l.length
  · rw [if_pos h, if_pos h]
    have h1 : n.toNat < l.length := by omega
    unfold ints
    rw [List.getD_eq_getElem?_getD, List.getD_eq_getElem?_getD, List.getElem?_map, List.getElem?_eq_getElem h1]
    rfl
  · rw [if_neg h, if_neg h]
theorem view_row {M M' : Mem} {b n : Nat} {e : TypeId} {r : List RR} (hb : M b = some ⟨e, 4, rrs r⟩) (hb' : M' b = none) (hn : r.length = n) : View M M' (.osl b 4 0 n) (rowAV r) := by
  refine .osl b 4 0 n _ _ hb hb' rfl (by simp [hn]) (by simp [hn]) fun j u u' g1 g2 => ?_
  simp only [Nat.zero_add] at g1
  rw [g1] at g2
  cases g2
  exact .same _
theorem Mem.set_self {m : Mem} {b : Nat} {x : Blk} (h : m b = some x) : m.set b x = m := by
  funext k
  simp only [set_at]
  split
  · rename_i e; rw [e, h]
  · rfl
theorem set_four {m : Mem} {b c : Nat} (h : c ≠ b) (x x' y y' : Blk) : (((m.set c x).set b y).set c x').set b y' = (m.set c x').set b y' := by
  funext k
  simp only [set_at]
  by_cases h1 : k = b
  · simp [h1]
  · by_cases h2 : k = c
    · subst h2; simp [h]
    · simp [h1, h2]
/-- A list that grows, in memory. -/
def LstV (M : Mem) (ty : TypeId) (z : Nat) (ov : AV) (ob : List Nat) (l : List AV) : Prop :=
  (l = [] ∧ ob = [] ∧ ov = .nil) ∨ ∃ b, ob = [b] ∧ ov = .osl b z 0 l.length ∧ M b = some ⟨ty, z, l⟩
theorem LstV.keep {M M' : Mem} {ty : TypeId} {z : Nat} {ov : AV} {ob : List Nat} {l : List AV} (h : LstV M ty z ov ob l) (hm : ∀ b ∈ ob, M' b = M b) : LstV M' ty z ov ob l := by
  rcases h with h | ⟨b, h1, h2, h3⟩
  · exact .inl h
  · exact .inr ⟨b, h1, h2, by rw [hm b (by simp [h1])]; exact h3⟩
theorem LstV.len {M : Mem} {ty : TypeId} {z : Nat} {ov : AV} {ob : List Nat} {l : List AV} (h : LstV M ty z ov ob l) (size bytes : Nat) (e : TypeId) (zero : AV) (fs : List (Nat × Nat × Option Bool)) : lenAV ⟨size, bytes, .slice e, zero, fs⟩ ov = some (.int .i64 l.length) := by
  rcases h with ⟨rfl, _, rfl⟩ | ⟨b, _, rfl, _⟩
  · simp
  · simp
theorem LstV.view {M M' : Mem} {ty : TypeId} {z : Nat} {ov : AV} {ob : List Nat} {l : List AV} (h : LstV M ty z ov ob l) (hm : ∀ b ∈ ob, M' b = none) : View M M' ov (.sl z l) := by
  rcases h with ⟨rfl, _, rfl⟩ | ⟨b, h1, rfl, h⟩
  · exact .nilsl z
  · refine .osl b z 0 l.length _ _ h (hm b (by simp [h1])) rfl rfl (by simp) fun j u u' g1 g2 => ?_
    simp only [Nat.zero_add] at g1
    rw [g1] at g2
    cases g2
    exact .same _
structure NumL (M : Mem) (c : Nat) (x : AV) (ty : TypeId) (z : Nat) (ov : AV) (ob : List Nat) (l : List AV) : Prop where
  cell : M c = some ⟨61, 1, [x]⟩
  lst : LstV M ty z ov ob l
  only : OnlyM M (c :: ob)
  pc : c ∉ ob
section
variable {M : Mem} {c : Nat} {x ov : AV} {ty : TypeId} {z : Nat} {ob : List Nat} {l : List AV}
theorem NumL.setE (h : NumL M c x ty z ov ob l) (x' : AV) : NumL (M.set c ⟨61, 1, [x']⟩) c x' ty z ov ob l :=
  ⟨by simp, h.lst.keep fun b hb => by simp only [set_at]; rw [if_neg (by rintro rfl; exact h.pc hb)], h.only.set (by simp) _, h.pc⟩
theorem NumL.fresh (h : NumL M c x ty z ov ob l) {b : Nat} (hb : M b = none) : b ≠ c ∧ b ∉ ob := by
  refine ⟨(by rintro rfl; rw [h.cell] at hb; cases hb), fun hm => ?_⟩
  rcases h.lst with ⟨_, h1, _⟩ | ⟨b', h1, _, h3⟩
  · rw [h1] at hm; cases hm
  · rw [h1] at hm
    simp at hm
    subst hm
    rw [h3] at hb; cases hb
theorem NumL.ones (h : NumL M c x ty z ov ob l) {e : Int} (hx : isE x e) (hl : ∀ v ∈ l, v.cells.all AV.one = true) : ∀ (b : Nat) (y : Blk), M b = some y → ∀ v ∈ y.l, v.cells.all AV.one = true := by
  intro b y hy
  have := h.only b (by rw [hy]; simp)
  rcases List.mem_cons.1 this with rfl | hb
  · rw [h.cell] at hy; cases hy
    intro v hv
    simp at hv
    subst hv
    exact isE_one hx
  · rcases h.lst with ⟨_, h1, _⟩ | ⟨b', h1, _, h3⟩
    · rw [h1] at hb; cases hb
    · rw [h1] at hb
      simp at hb
      subst hb
      rw [h3] at hy; cases hy
      exact hl
theorem NumL.start (c : Nat) (x : AV) (ty : TypeId) (z : Nat) : NumL (Mem.emp.set c ⟨61, 1, [x]⟩) c x ty z .nil [] [] :=
  ⟨by simp, .inl ⟨rfl, rfl, rfl⟩, fun b hb => by
    by_cases e : b = c
    · simp [e]
    · simp [e] at hb, by simp⟩
theorem NumL.push0 (h : NumL M c x ty z .nil [] []) {b : Nat} (hb : M b = none) (v : AV) : NumL (M.set b ⟨ty, z, [v]⟩) c x ty z (.osl b z 0 1) [b] [v] := by
  obtain ⟨f1, _⟩ := h.fresh hb
  refine ⟨by simp only [set_at]; rw [if_neg (Ne.symm f1)]; exact h.cell, .inr ⟨b, rfl, rfl, by simp⟩, ?_, by simpa using Ne.symm f1⟩
  exact (h.only.sub fun a ha => by simp at ha ⊢; exact .inl ha).set (by simp) _
theorem NumL.push1 {b0 : Nat} (h : NumL M c x ty z (.osl b0 z 0 l.length) [b0] l) {b : Nat} (hb : (M.del b0) b = none) (v : AV) : NumL ((M.del b0).set b ⟨ty, z, l ++ [v]⟩) c x ty z (.osl b z 0 (l.length + 1)) [b] (l ++ [v]) := by
  have hc : c ≠ b0 := by have := h.pc; simpa using this
  have hh : NumL (M.del b0) c x ty z .nil [] [] := by
    have hdel : ∀ a, a ≠ b0 → (M.del b0) a = M a := fun a ha => if_neg ha
    refine ⟨by rw [hdel c hc]; exact h.cell, .inl ⟨rfl, rfl, rfl⟩, fun a ha => ?_, by simp⟩
    have h1 : a ≠ b0 := by
      rintro rfl
      exact ha (if_pos rfl)
    rw [hdel a h1] at ha
    have := h.only a ha
    simp at this ⊢
    exact this.resolve_right h1
  obtain ⟨f1, _⟩ := hh.fresh hb
  refine ⟨by simp only [set_at]; rw [if_neg (Ne.symm f1)]; exact hh.cell, .inr ⟨b, rfl, by simp, by simp⟩, ?_, by simpa using Ne.symm f1⟩
  exact (hh.only.sub fun a ha => by simp at ha ⊢; exact .inl ha).set (by simp) _
end
/-! ### The kernel -/
def kerF (Y : List (List Rat)) (ps : List Nat) (j : Nat) : Nat → List Rat → List Rat
  | 0, v => v
  | k + 1, v => (kerF Y ps j k v).set (ps.getD k 0) (-(qel Y k j))
def kerV (Y : List (List Rat)) (ps : List Nat) (w j : Nat) : List Rat := kerF Y ps j ps.length ((List.replicate w 0).set j 1)
def kerP (Y : List (List Rat)) (ps : List Nat) (w j : Nat) : List (List Rat) := ((List.range j).filter fun i => decide (i ∉ ps)).map (kerV Y ps w)
theorem kerP_succ (Y : List (List Rat)) (ps : List Nat) (w j : Nat) : kerP Y ps w (j + 1) = if j ∈ ps then kerP Y ps w j else kerP Y ps w j ++ [kerV Y ps w j] := by
  unfold kerP
  rw [List.range_succ, List.filter_append]
  by_cases h : j ∈ ps
  · rw [if_pos h]; simp [h]
  · rw [if_neg h]; simp [h]
theorem kerF_length (Y : List (List Rat)) (ps : List Nat) (j : Nat) (v : List Rat) : ∀ k, (kerF Y ps j k v).length = v.length
  | 0 => rfl
  | k + 1 => by unfold kerF; rw [List.length_set, kerF_length]
theorem kerV_length (Y : List (List Rat)) (ps : List Nat) (w j : Nat) : (kerV Y ps w j).length = w := by unfold kerV; rw [kerF_length]; simp
/-- The error and the basis. -/
noncomputable def kerR (m : List (List RR)) : Int × List (List Rat) :=
  if (redR m).1 ≠ 0 then ((redR m).1, []) else (0, kerP (redR m).2.1 (redR m).2.2 (mrow m 0).length (mrow m 0).length)
theorem cols_sorted {n w : Nat} {z0 : List (List Rat) × List Nat} (h : colGood n w 0 z0) (hs : z0.2.Pairwise (· < ·)) : ∀ {j : Nat} {z : List (List Rat) × List Nat}, iterO colStep j z0 = some z → z.2.Pairwise (· < ·)
  | 0, z, he => by cases he; exact hs
  | j + 1, z, he => by
    rw [iterO_succ] at he
    cases hm : iterO colStep j z0 with
    | none => rw [hm] at he; cases he
    | some u =>
      rw [hm] at he
      have h1 := cols_sorted h hs hm
      have h2 := cols_keep h hm
      replace he : colStep j u = some z := he
      unfold colStep at he
      cases hp : pivQ u.1 j u.2.length with
      | none => simp only [hp] at he; cases he; exact h1
      | some i =>
        simp only [hp] at he
        cases hc : clearQ (swapL u.1 i u.2.length) j u.2.length with
        | none => rw [hc] at he; cases he
        | some M =>
          rw [hc] at he
          cases he
          rw [List.pairwise_append]
          exact ⟨h1, by simp, fun a ha b hb => by simp at hb; subst hb; exact h2.2.2.2 a ha⟩
theorem good_neg {q : Rat} (h : Good q) : subQ 0 q = some (-q) ∧ Good (-q) := by
  have hg : Good (-q) := by
    unfold Good at h ⊢
    rw [Rat.neg_num, Rat.neg_den, Int.natAbs_neg]
    exact h
  refine ⟨?_, hg⟩
  unfold subQ
  rw [Rat.sub_eq_add_neg, Rat.zero_add]
  have n0 : (0 : Rat).num = 0 := rfl
  have d0 : (0 : Rat).den = 1 := rfl
  have hb : 0 < B128 := by unfold B128; exact Nat.pow_pos (by omega)
  have h1 := h.1
  have h2 := h.2
  rw [n0, d0, if_pos]
  unfold fits
  generalize B128 = b at *
  simp only [Bool.and_eq_true, decide_eq_true_eq, Int.zero_mul, Int.natAbs_zero]
  refine ⟨⟨⟨hb, ?_⟩, ?_⟩, ?_⟩ <;> omega
theorem set_back {m : Mem} {c b : Nat} (h : c ≠ b) (x y x' : Blk) : ((m.set c x).set b y).set c x' = (m.set c x').set b y := by
  funext k
  simp only [set_at]
  by_cases h1 : k = c
  · subst h1; simp [h]
  · simp [h1]
theorem good_zero : Good 0 := by rw [← intQ_zero]; exact intQ_good (by decide)
theorem good_one : Good 1 := by rw [← intQ_one]; exact intQ_good (by decide)
structure KerS where
  next : Nat
  x : AV
  M : Mem
  ov : AV
  ob : List Nat
def InvK (c : Nat) (Y : List (List Rat)) (ps : List Nat) (w j : Nat) (s : KerS) : Prop :=
  NumL s.M c s.x 42 1 s.ov s.ob ((emb (kerP Y ps w j)).map rowAV) ∧ isE s.x 0 ∧ s.next ≤ ps.length ∧ (∀ i, i < s.next → ps.getD i 0 < j) ∧ ∀ i, s.next ≤ i → i < ps.length → j ≤ ps.getD i 0
theorem getD_lt {ps : List Nat} (h : ps.Pairwise (· < ·)) {i j : Nat} (hij : i < j) (hj : j < ps.length) : ps.getD i 0 < ps.getD j 0 := by
  rw [List.getD_eq_getElem?_getD, List.getD_eq_getElem?_getD, List.getElem?_eq_getElem hj, List.getElem?_eq_getElem (by omega)]
  exact List.pairwise_iff_getElem.1 h i j (by omega) hj hij
theorem kernelL_call (m : List (List RR)) (hm : LbM m) : ACall Tryz.prog 34 [matAV m] Mem.emp fun v mm => v = .tup [matAV (emb (kerR m).2), .int .i64 (kerR m).1] ∧ mm = Mem.emp := by
  have hr := reduceL_call m hm
  have hwid := width_call m
  by_cases h0 : (redR m).1 = 0
  · have hck : chk m = 0 := by
      by_cases h : chk m = 0
      · exact h
      · unfold redR at h0; rw [if_pos h] at h0; exact absurd h0 h
    have hK : kerR m = (0, kerP (redR m).2.1 (redR m).2.2 (mrow m 0).length (mrow m 0).length) := if_neg (by simp [h0])
    obtain ⟨h1, h2, h3, h4, h5⟩ := chk_emb hm hck
    have hcol : ∃ Y ps, redR m = (0, Y, ps) ∧ colGood m.length (mrow m 0).length (mrow m 0).length (Y, ps) ∧ ps.Pairwise (· < ·) := by
      unfold redR at h0 ⊢
      rw [if_neg (by simp [hck])] at h0 ⊢
      cases hq : reduceQ (unq m) with
      | none => rw [hq] at h0; exact absurd h0 (by simp)
      | some z =>
        have e0 : (mrow (unq m) 0).length = (mrow m 0).length := by rw [unq_row, List.length_map]
        have k1 := reduce_keep (n := m.length) (w := (mrow m 0).length) ⟨h2, e0 ▸ h3, unq_length m⟩ hq
        rw [e0] at k1
        refine ⟨z.1, z.2, rfl, k1, ?_⟩
        exact cols_sorted (n := m.length) (w := (mrow m 0).length) (z0 := (unq m, [])) ⟨⟨h2, e0 ▸ h3, unq_length m⟩, by simp, by simp, by simp⟩ (by simp) hq
    obtain ⟨Y, ps, hred, ⟨⟨y1, y2, y3⟩, y4, y5, y6⟩, y7⟩ := hcol
    simp only at y1 y2 y3 y4 y5 y6; rw [hK]
    rw [hred] at hr ⊢
    simp only at hr ⊢
    have h5 : (mrow m 0).length ≤ 64 := by rw [unq_row, List.length_map] at h5; exact h5
    clear h1 h2 h3 hK
    generalize hw : (mrow m 0).length = w at *
    have hvec := vector_call w (by omega)
    have hone := whole_call 1 (by omega) (by omega)
    have hzero := whole_call 0 (by omega) (by omega)
    rw [intQ_one] at hone
    rw [intQ_zero] at hzero
    refine acall_S Tryz.func34 rfl rfl 87 rfl (Nat.le_of_ble_eq_true rfl) ?_
    (repeat refine AW.seq_k fun K hK => ?_); refine AW.rg ?_; simp [argsL]; try (refine hK _ rfl ?_; clear hK; clear K)
    (repeat refine AW.seq_k fun K hK => ?_); refine AW.rg ?_; simp; try (refine hK _ rfl ?_; clear hK; clear K)
    refine CallK.val hr ?_; simp; refine hK _ rfl ?_; clear hK; clear K; (repeat refine AW.seq_k fun K hK => ?_); refine AW.rg ?_; simp; try (refine hK _ rfl ?_; clear hK; clear K)
    refine AW.no ?_ rfl; refine AW.skip ?_; try simp
    refine hK _ rfl ?_; clear hK; clear K; (repeat refine AW.seq_k fun K hK => ?_); refine AW.rg ?_; simp; try (refine hK _ rfl ?_; clear hK; clear K)
    refine Fresh.intro fun c hc => ?_
    refine hK _ rfl ?_; clear hK; clear K; (repeat refine AW.seq_k fun K hK => ?_); refine AW.rg ?_; simp; try (refine hK _ rfl ?_; clear hK; clear K)
    (repeat refine AW.seq_k fun K hK => ?_); refine AW.rg ?_; simp; try (refine hK _ rfl ?_; clear hK; clear K)
    refine AW.seq_ex (ι := Mem × AV × AV × List Nat) (fun z => [(7, .ptr c 1 0 0), (8, z.2.2.1)]) (fun z => z.1) (fun z => NumL z.1 c z.2.1 42 1 z.2.2.1 z.2.2.2 ((emb (kerP Y ps w w)).map rowAV) ∧ isE z.2.1 0) ?_ ?_
    · (repeat refine AW.seq_k fun K hK => ?_); refine AW.rg ?_; simp; try (refine hK _ rfl ?_; clear hK; clear K)
      refine CallK.val hwid ?_; simp; refine hK _ rfl ?_; clear hK; clear K
      refine AW.block (AW.loopS (ι := Nat × KerS) (fun z => [(0, matAV m), (4, matAV (emb Y)), (5, .sl 1 (ints ps)), (7, .ptr c 1 0 0), (8, z.2.ov), (9, .int .i64 (z.2.next : Nat)), (26, .int .i64 w), (27, .int .i64 (z.1 : Nat))]) (fun z => z.2.M) (fun z => z.1 ≤ w ∧ InvK c Y ps w z.1 z.2) (fun z => w - z.1) (0, ⟨0, .agg [.int .i64 0], Mem.emp.set c ⟨61, 1, [.agg [.int .i64 0]]⟩, .nil, []⟩) ⟨by simp, NumL.start _ _ _ _, rfl, by simp, by simp, by simp⟩ rfl (by simp) ?_)
      rintro ⟨j, next, x, M, ov, ob⟩ ⟨g1, g2, g3, g4, g5, g6⟩
      simp only at g1 g2 g3 g4 g5 g6; simp only; (repeat refine AW.seq_k fun K hK => ?_); refine AW.rg ?_; simp; try (refine hK _ rfl ?_; clear hK; clear K)
      (repeat refine AW.seq ?_)
      refine AW.cs (fun hj => ?_) (fun hj => ?_) rfl <;> (try simp at hj)
      · refine AW.skip ?_; try simp
        have w1 : IntKind.i64.wrap ((j + 1 : Nat) : Int) = ((j + 1 : Nat) : Int) := wi (by omega)
        have w2 : IntKind.i64.wrap ((next + 1 : Nat) : Int) = ((next + 1 : Nat) : Int) := wi (by omega)
        refine AW.seq_ex (ι := KerS) (fun s => [(0, matAV m), (4, matAV (emb Y)), (5, .sl 1 (ints ps)), (7, .ptr c 1 0 0), (8, s.ov), (9, .int .i64 (s.next : Nat)), (26, .int .i64 w), (27, .int .i64 (j : Nat))]) (fun s => s.M) (fun s => InvK c Y ps w (j + 1) s) ?_ ?_
        · (repeat refine AW.seq ?_); refine AW.block ?_; (repeat refine AW.seq_k fun K hK => ?_); refine AW.rg ?_; simp; try (refine hK _ rfl ?_; clear hK; clear K)
          refine AW.seq_ex (ι := Unit) (fun _ => [(0, matAV m), (4, matAV (emb Y)), (5, .sl 1 (ints ps)), (7, .ptr c 1 0 0), (8, ov), (9, .int .i64 (next : Nat)), (10, .int .i64 (j : Nat)), (26, .int .i64 w), (27, .int .i64 (j : Nat))]) (fun _ => M) (fun _ => j ∉ ps ∧ ∀ i, next ≤ i → i < ps.length → j + 1 ≤ ps.getD i 0) ?_ ?_
          · by_cases hn : next < ps.length
            · have hgn : ps.getD next 0 = ps[next] := by rw [List.getD_eq_getElem?_getD, List.getElem?_eq_getElem hn]; rfl
              by_cases hp : ps[next] = j
              · (repeat refine AW.seq_k fun K hK => ?_); refine AW.rg ?_; simp [hn, hp]; try (refine hK _ rfl ?_; clear hK; clear K)
                refine AW.yes ?_ rfl; (repeat refine AW.seq_k fun K hK => ?_); refine AW.rg ?_; simp [-Int.natCast_add, w2]; try (refine hK _ rfl ?_; clear hK; clear K)
                refine AW.exit ?_
                try simp [-Int.natCast_add]
                have hmem : j ∈ ps := by rw [← hp]; exact List.getElem_mem hn
                rw [← hgn] at hp
                refine ⟨⟨next + 1, x, M, ov, ob⟩, ⟨?_, g3, hn, fun i hi => ?_, fun i hi hi2 => ?_⟩, by simp⟩
                · rw [kerP_succ, if_pos hmem]; exact g2
                · rcases Nat.lt_succ_iff_lt_or_eq.1 hi with h | rfl
                  · have := g5 i h; omega
                  · omega
                · have hi : next + 1 ≤ i := hi
                  have := getD_lt y7 (i := next) (j := i) (by omega) hi2
                  omega
              · (repeat refine AW.seq_k fun K hK => ?_); refine AW.rg ?_; simp [hn, hp]; try (refine hK _ rfl ?_; clear hK; clear K)
                refine AW.no ?_ rfl; refine AW.skip ?_; try simp
                have hge : ∀ i, next ≤ i → i < ps.length → j + 1 ≤ ps.getD i 0 := fun i hi hi2 => by
                  have h1 := g6 next (by omega) hn
                  rw [← hgn] at hp
                  rcases Nat.lt_or_eq_of_le hi with h | h
                  · have := getD_lt y7 (i := next) (j := i) h hi2
                    omega
                  · subst h; omega
                refine ⟨fun hm => ?_, hge⟩
                obtain ⟨i, hi, e⟩ := List.mem_iff_getElem.1 hm
                have e : ps.getD i 0 = j := by rw [List.getD_eq_getElem?_getD, List.getElem?_eq_getElem hi]; exact e
                rcases Nat.lt_or_ge i next with h | h
                · have := g5 i h; omega
                · have := hge i h hi; omega
            · (repeat refine AW.seq_k fun K hK => ?_); refine AW.rg ?_; simp [hn]; try (refine hK _ rfl ?_; clear hK; clear K)
              refine AW.no ?_ rfl; refine AW.skip ?_; try simp
              refine ⟨fun hm => ?_, fun i hi hi2 => by omega⟩
              obtain ⟨i, hi, e⟩ := List.mem_iff_getElem.1 hm
              have e : ps.getD i 0 = j := by rw [List.getD_eq_getElem?_getD, List.getElem?_eq_getElem hi]; exact e
              have := g5 i (by omega)
              omega
          rintro _ ⟨hnm, hge⟩
          (repeat refine AW.seq_k fun K hK => ?_); refine AW.rg ?_; simp; try (refine hK _ rfl ?_; clear hK; clear K)
          refine CallK.val hwid ?_; simp
          refine CallK.make hvec ?_
          rintro bv _ _ ⟨rfl, rfl⟩ hbv _
          simp; refine hK _ rfl ?_; clear hK; clear K
          obtain ⟨nbc, nbo⟩ := g2.fresh hbv
          (repeat refine AW.seq_k fun K hK => ?_); refine AW.rg ?_; simp; try (refine hK _ rfl ?_; clear hK; clear K)
          refine CallK.val hone ?_; simp [hj]; refine hK _ rfl ?_; clear hK; clear K
          generalize hv0 : (List.replicate w (0 : Rat)).set j 1 = v0 at *
          have hv0l : v0.length = w := by rw [← hv0]; simp
          have hv0e : (rrs (List.replicate w (ofQ 0))).set j (ofQ 1).av = rrs (v0.map ofQ) := by
            rw [rrs_set, ← hv0, List.map_set, List.map_replicate]
          refine AW.seq_ex (ι := AV) (fun x => [(0, matAV m), (4, matAV (emb Y)), (5, .sl 1 (ints ps)), (7, .ptr c 1 0 0), (8, ov), (9, .int .i64 (next : Nat)), (10, .int .i64 (j : Nat)), (11, .osl bv 4 0 w), (26, .int .i64 w), (27, .int .i64 (j : Nat))]) (fun x => (M.set c ⟨61, 1, [x]⟩).set bv ⟨36, 4, rrs ((kerV Y ps w j).map ofQ)⟩) (fun x => isE x 0) ?_ ?_
          · (repeat refine AW.seq_k fun K hK => ?_); refine AW.rg ?_; simp; try (refine hK _ rfl ?_; clear hK; clear K)
            refine AW.block (AW.loopS (ι := Nat × AV) (fun z => [(0, matAV m), (4, matAV (emb Y)), (5, .sl 1 (ints ps)), (7, .ptr c 1 0 0), (8, ov), (9, .int .i64 (next : Nat)), (10, .int .i64 (j : Nat)), (11, .osl bv 4 0 w), (26, .int .i64 w), (27, .int .i64 (j : Nat)), (51, .sl 1 (ints ps)), (52, .int .i64 ps.length), (53, .int .i64 (z.1 : Nat))]) (fun z => (M.set c ⟨61, 1, [z.2]⟩).set bv ⟨36, 4, rrs ((kerF Y ps j z.1 v0).map ofQ)⟩) (fun z => z.1 ≤ ps.length ∧ isE z.2 0) (fun z => ps.length - z.1) (0, x) ⟨by simp, g3⟩ ?_ (by simp) ?_)
            · show M.set bv _ = (M.set c _).set bv _
              rw [Mem.set_self g2.cell]
              rw [rrs_set] at hv0e
              rw [hv0e]
              rfl
            rintro ⟨k, x⟩ ⟨q1, q2⟩
            simp only at q1 q2; (repeat refine AW.seq_k fun K hK => ?_); refine AW.rg ?_; simp; try (refine hK _ rfl ?_; clear hK; clear K)
            (repeat refine AW.seq ?_)
            refine AW.cs (fun hk => ?_) (fun hk => ?_) rfl <;> (try simp at hk)
            · refine AW.skip ?_; try simp
              (repeat refine AW.seq ?_); refine AW.block ?_; (repeat refine AW.seq_k fun K hK => ?_); refine AW.rg ?_; simp [hk]; try (refine hK _ rfl ?_; clear hK; clear K)
              have hkY : k < Y.length := by omega
              have hkE : k < (emb Y).length := by rw [emb_length]; exact hkY
              have hlk : (mrow (emb Y) k).length = w := by rw [emb_row, List.length_map]; exact y2 k hkY
              have hjl : j < (mrow Y k).length := by rw [y2 k hkY]; exact hj
              have hel : rr (mrow (emb Y) k) j = ofQ (qel Y k j) := by rw [emb_row, rr_map hjl]; rfl
              have hgd : Good (qel Y k j) := y1.at hjl
              obtain ⟨n1, n2⟩ := good_neg hgd
              have hpk : ps.getD k 0 = ps[k] := by rw [List.getD_eq_getElem?_getD, List.getElem?_eq_getElem hk]; rfl
              have hpw : ps[k] < w := y6 _ (List.getElem_mem hk)
              have hlf : (kerF Y ps j k v0).length = w := by rw [kerF_length, hv0l]
              have w3 : IntKind.i64.wrap ((k + 1 : Nat) : Int) = ((k + 1 : Nat) : Int) := wi (by omega)
              (repeat refine AW.seq_k fun K hK => ?_)
              refine AW.rd [0,1,2,4,5,6,7,8,9,10,3,11,12,13] mix ?_
              simp [hkE, hlk, hj, hel]; try (refine hK _ rfl ?_; clear hK; clear K)
              refine CallK.val hzero ?_; simp
              refine nsub_K (c := c) (x := x) (e := 0) (a := ofQ 0) (b := ofQ (qel Y k j)) (by simp [Ne.symm nbc]) (by simp) q2 (ofQ_lb _) (ofQ_lb _) (fun _ => ⟨ofQ_ok good_zero, ofQ_ok hgd⟩) ?_
              rw [ofQ_q, ofQ_q, n1, nOut_some rfl]
              intro x' hx'
              simp [hpw, hlf, nbc]; (repeat refine AW.seq_k fun K hK => ?_); refine AW.rg ?_; simp [-Int.natCast_add, w3]; try (refine hK _ rfl ?_; clear hK; clear K)
              refine ⟨k + 1, x', ⟨hk, hx'⟩, by omega, ?_, rfl⟩
              rw [set_four (Ne.symm nbc)]; rw [show kerF Y ps j (k + 1) v0 = (kerF Y ps j k v0).set (ps.getD k 0) (-(qel Y k j)) from rfl, hpk, List.map_set]
            · refine AW.exit ?_
              try simp
              have : k = ps.length := by omega
              subst this
              exact ⟨x, q2, by unfold kerV; rw [hv0]⟩
          rintro x' hx'
          have g2' := g2.setE x'
          have hM' : (M.set c ⟨61, 1, [x']⟩) bv = none := by simp only [set_at]; rw [if_neg nbc]; exact hbv
          refine AW.turn [(0, matAV m), (4, matAV (emb Y)), (5, .sl 1 (ints ps)), (7, .ptr c 1 0 0), (8, ov), (9, .int .i64 (next : Nat)), (10, .int .i64 (j : Nat)), (11, rowAV ((kerV Y ps w j).map ofQ)), (26, .int .i64 w), (27, .int .i64 (j : Nat))] (M.set c ⟨61, 1, [x']⟩) (Recast.drop hM' (g2'.ones hx' ?_)) ?_ ?_
          · intro v hv
            obtain ⟨r, _, rfl⟩ := List.mem_map.1 hv
            rfl
          · simp
            exact view_row (Mem.set_same _ _ _) hM' (by rw [List.length_map, kerV_length])
          have hfin : ∀ s : KerS, s.next = next → isE s.x 0 → NumL s.M c s.x 42 1 s.ov s.ob ((emb (kerP Y ps w j)).map rowAV ++ [rowAV ((kerV Y ps w j).map ofQ)]) → InvK c Y ps w (j + 1) s := by
            intro s h1 h2 h3
            refine ⟨?_, h2, by rw [h1]; exact g4, fun i hi => ?_, by rw [h1]; exact hge⟩
            · rw [kerP_succ, if_neg hnm]
              simpa [emb] using h3
            · rw [h1] at hi
              have := g5 i hi
              omega
          have hll : ((emb (kerP Y ps w j)).map rowAV).length ≤ j := by
            rw [List.length_map, emb_length]
            unfold kerP
            rw [List.length_map]
            exact Nat.le_trans (List.length_filter_le _ _) (by simp)
          generalize (emb (kerP Y ps w j)).map rowAV = l at *
          generalize M.set c ⟨61, 1, [x']⟩ = M' at *
          rcases g2'.lst with ⟨z1, z2, z3⟩ | ⟨b0, z2, z3, z4⟩
          · subst z1 z2 z3; (repeat refine AW.seq_k fun K hK => ?_)
            refine AW.rgR [74] ?_
            simp; try (refine hK _ rfl ?_; clear hK; clear K)
            exact ⟨by unfold maxLen; omega, Fresh.intro fun b hb => ⟨⟨next, x', _, _, [b]⟩, hfin _ rfl hx' (g2'.push0 hb _), rfl, rfl, rfl⟩⟩
          · subst z2 z3
            have hl2 : l.length < 2^40 := by omega
            (repeat refine AW.seq_k fun K hK => ?_)
            refine AW.rgR [74] ?_
            simp [z4]; try (refine hK _ rfl ?_; clear hK; clear K)
            exact ⟨by omega, by unfold maxLen; omega, Fresh.intro fun b hb => ⟨⟨next, x', _, _, [b]⟩, hfin _ rfl hx' (g2'.push1 hb _), rfl, rfl, rfl⟩⟩
        rintro ⟨next, x, M, ov, ob⟩ hs
        (repeat refine AW.seq_k fun K hK => ?_); refine AW.rg ?_; simp [-Int.natCast_add, w1]; try (refine hK _ rfl ?_; clear hK; clear K)
        exact ⟨j + 1, ⟨next, x, M, ov, ob⟩, ⟨hj, hs⟩, by omega, by simp⟩
      · refine AW.exit ?_
        try simp
        have : j = w := by omega
        subst this
        exact ⟨x, ⟨ob, g2⟩, g3⟩
    rintro ⟨M, x, ov, ob⟩ ⟨g1, g2⟩
    simp only at g1 g2
    have hx : x.cells = [.int .i64 0] := g2
    (repeat refine AW.seq_k fun K hK => ?_); refine AW.rg ?_; simp [g1.cell, hx]; try (refine hK _ rfl ?_; clear hK; clear K)
    refine AW.no ?_ rfl; refine AW.skip ?_; try simp
    refine hK _ rfl ?_; clear hK; clear K; (repeat refine AW.seq_k fun K hK => ?_); refine AW.rg ?_; simp; try (refine hK _ rfl ?_; clear hK; clear K)
    have hv := g1.lst.view (M' := Mem.emp) (fun _ _ => rfl)
    exact AW.ret (ret_views [matAV (emb (kerP Y ps w w)), .int .i64 0] rfl ⟨hv, .same _, trivial⟩ ⟨rfl, rfl⟩)
  · have hK : kerR m = ((redR m).1, []) := if_pos h0
    rw [hK]
    generalize redR m = z at *
    obtain ⟨e, Y, ps⟩ := z
    simp only at h0 hr ⊢
    refine acall_S Tryz.func34 rfl rfl 87 rfl (Nat.le_of_ble_eq_true rfl) ?_
    (repeat refine AW.seq_k fun K hK => ?_); refine AW.rg ?_; simp [argsL]; try (refine hK _ rfl ?_; clear hK; clear K)
    (repeat refine AW.seq_k fun K hK => ?_); refine AW.rg ?_; simp; try (refine hK _ rfl ?_; clear hK; clear K)
    refine CallK.val hr ?_; simp; refine hK _ rfl ?_; clear hK; clear K; (repeat refine AW.seq_k fun K hK => ?_); refine AW.rg ?_; simp [h0]; try (refine hK _ rfl ?_; clear hK; clear K)
    refine AW.yes ?_ rfl; (repeat refine AW.seq_k fun K hK => ?_); refine AW.rg ?_; simp; try (refine hK _ rfl ?_; clear hK; clear K)
    exact AW.ret (ret_views [matAV [], .int .i64 e] rfl ⟨.nilsl 1, .same _, trivial⟩ ⟨rfl, rfl⟩)
end Go.Av
end
section
namespace Go.Av
open Go.Proofs
/-- A row below the pivot. -/
def belowRow (by_ : List Rat) (f : Rat) (j : Nat) (t : Nat) : List Rat → Option (List Rat) := rowStep (fun q k => lessQ q f (qat by_ k)) (j + t)
def belowStep (n j t : Nat) (M : List (List Rat)) : Option (List (List Rat)) :=
  if qel M (j + 1 + t) j = 0 then some M else (divQ (qel M (j + 1 + t) j) (qel M j j)).bind fun f => (iterO (belowRow (mrow M j) f j) (n - j) (mrow M (j + 1 + t))).map (M.set (j + 1 + t))
def belowQ (n j : Nat) (M : List (List Rat)) : Option (List (List Rat)) := iterO (belowStep n j) (n - (j + 1)) M
/-- The factor of a column. -/
def detD (sw : Bool) (d x : Rat) : Option Rat := (if sw = true then subQ 0 d else some d).bind fun d' => mulQ d' x
/-- A column: an error, or no pivot, or the next matrix and factor. -/
def detCol (n j : Nat) (z : List (List Rat) × Rat) : Option (Option (List (List Rat) × Rat)) :=
  match pivQ z.1 j j with
  | none => some none
  | some i => (detD (decide (i ≠ j)) z.2 (qel (swapL z.1 i j) j j)).bind fun d => (belowQ n j (swapL z.1 i j)).map fun M => some (M, d)
def detIter (n : Nat) (M : List (List Rat)) : Nat → Option (Option (List (List Rat) × Rat))
  | 0 => some (some (M, 1))
  | j + 1 => match detIter n M j with
    | some (some z) => detCol n j z
    | r => r
def detQ (n : Nat) (M : List (List Rat)) : Option Rat :=
  match detIter n M n with
  | none => none
  | some none => some 0
  | some (some z) => some z.2
theorem detIter_succ {n : Nat} {M : List (List Rat)} {j : Nat} {z : List (List Rat) × Rat} (h : detIter n M j = some (some z)) : detIter n M (j + 1) = detCol n j z := by
  show (match detIter n M j with | some (some z) => detCol n j z | r => r) = _
  rw [h]
theorem detIter_none {n : Nat} {M : List (List Rat)} {j : Nat} (h : detIter n M j = none) : ∀ k, detIter n M (j + k) = none
  | 0 => h
  | k + 1 => by
    show (match detIter n M (j + k) with | some (some z) => detCol n (j + k) z | r => r) = _
    rw [detIter_none h k]
theorem detIter_zero {n : Nat} {M : List (List Rat)} {j : Nat} (h : detIter n M j = some none) : ∀ k, detIter n M (j + k) = some none
  | 0 => h
  | k + 1 => by
    show (match detIter n M (j + k) with | some (some z) => detCol n (j + k) z | r => r) = _
    rw [detIter_zero h k]
theorem detQ_none {n : Nat} {M : List (List Rat)} {j : Nat} (h : detIter n M j = none) (hj : j ≤ n) : detQ n M = none := by
  have := detIter_none h (n - j)
  rw [Nat.add_sub_cancel' hj] at this
  unfold detQ; rw [this]
theorem detQ_zero {n : Nat} {M : List (List Rat)} {j : Nat} (h : detIter n M j = some none) (hj : j ≤ n) : detQ n M = some 0 := by
  have := detIter_zero h (n - j)
  rw [Nat.add_sub_cancel' hj] at this
  unfold detQ; rw [this]
theorem detQ_some {n : Nat} {M : List (List Rat)} {z : List (List Rat) × Rat} (h : detIter n M n = some (some z)) : detQ n M = some z.2 := by
  unfold detQ; rw [h]
noncomputable def detR (m : List (List RR)) : Int × RR :=
  if chk m ≠ 0 then (chk m, badR) else if m.length ≠ (mrow m 0).length then (1, badR) else match detQ m.length (unq m) with
    | none => (2, badR)
    | some q => (0, ofQ q)
theorem below_keep {n w j t : Nat} {M M' : List (List Rat)} (hi : j + 1 + t < n) (h : matGood n w M) (he : belowStep n j t M = some M') : matGood n w M' := by
  unfold belowStep at he
  split at he
  · cases he; exact h
  · cases hf : divQ (qel M (j + 1 + t) j) (qel M j j) with
    | none => rw [hf] at he; cases he
    | some f =>
      rw [hf] at he
      replace he : (iterO (belowRow (mrow M j) f j) (n - j) (mrow M (j + 1 + t))).map (M.set (j + 1 + t)) = some M' := he
      cases hm : iterO (belowRow (mrow M j) f j) (n - j) (mrow M (j + 1 + t)) with
      | none => rw [hm] at he; cases he
      | some row =>
        rw [hm] at he
        cases he
        exact h.set _ (iter_keep (p := fun row => rowGood row ∧ row.length = w) (fun k s t hs hst => rowStep_keep (fun q k x hx => good_less hx) hs hst) (h.row hi) hm)
/-- Two blocks beside the rest. -/
theorem frame2 {M : Mem} {c b7 b2 : Nat} (h1 : c ≠ b7) (h2 : c ≠ b2) (D R X : Blk) : ((M.set b7 D).set b2 R).set c X = ((M.set c X).set b7 D).set b2 R := by
  rw [set_comm' _ _ _ (Ne.symm h2), set_comm' M _ _ (Ne.symm h1)]
theorem back_set {m g : Mem} {l : List Nat} {b : Nat} (hb : b ∉ l) (hg : g b = none) (x : Blk) : (m.set b x).back l g = (m.back l g).set b x := by
  funext k
  by_cases hk : k = b
  · subst hk
    rw [back_out hg hb]; simp
  · simp only [Mem.back, set_at, if_neg hk]
theorem mem_two {M : Mem} {b7 b2 : Nat} {D R : Blk} {l : List Nat} (h7 : b7 ∉ l) (h2 : b2 ∉ l) : ((M.set b7 D).set b2 R).only l = M.only l := by
  funext k
  by_cases hk : k ∈ l
  · rw [only_in hk, only_in hk]
    simp only [set_at]
    rw [if_neg (by rintro rfl; exact h2 hk), if_neg (by rintro rfl; exact h7 hk)]
  · rw [only_out hk, only_out hk]
end Go.Av
end
section
namespace Go.Av
open Go.Proofs
/-- The state ahead of a column. -/
structure DetS where
  X : List (List Rat)
  d : Rat
  M : Mem
  bs : List Nat
  x : AV
def InvD (n : Nat) (X0 : List (List Rat)) (c B b7 b2 : Nat) (j : Nat) (s : DetS) : Prop :=
  detIter n X0 j = some (some (s.X, s.d)) ∧ matGood n n s.X ∧ Good s.d ∧ RedM s.M c B s.bs (emb s.X) s.x .nil [] [] ∧ isE s.x 0 ∧ b7 ∉ c :: B :: s.bs ∧ b2 ∉ c :: B :: s.bs
def dCell (d : RR) : Blk := ⟨36, 4, [d.av]⟩
theorem belows_keep {n j : Nat} : ∀ {t : Nat} {M M' : List (List Rat)}, j + 1 + t ≤ n → matGood n n M → iterO (belowStep n j) t M = some M' → matGood n n M' ∧ mrow M' j = mrow M j
  | 0, M, M', _, h, he => by cases he; exact ⟨h, rfl⟩
  | t + 1, M, M', ht, h, he => by
    rw [iterO_succ] at he
    cases hm : iterO (belowStep n j) t M with
    | none => rw [hm] at he; cases he
    | some U =>
      rw [hm] at he
      obtain ⟨k1, k2⟩ := belows_keep (by omega) h hm
      refine ⟨below_keep (by omega) k1 he, ?_⟩
      rw [← k2]
      replace he : belowStep n j t U = some M' := he
      unfold belowStep at he
      split at he
      · cases he; rfl
      · cases hf : divQ (qel U (j + 1 + t) j) (qel U j j) with
        | none => rw [hf] at he; cases he
        | some f =>
          rw [hf] at he
          replace he : (iterO (belowRow (mrow U j) f j) (n - j) (mrow U (j + 1 + t))).map (U.set (j + 1 + t)) = some M' := he
          cases hr : iterO (belowRow (mrow U j) f j) (n - j) (mrow U (j + 1 + t)) with
          | none => rw [hr] at he; cases he
          | some row =>
            rw [hr] at he
            cases he
            rw [mrow_set (by rw [k1.2.2]; omega), if_neg (by omega)]
theorem ones_two {M : Mem} {b7 b2 : Nat} {D R : Blk} (h : ∀ b y, M b = some y → ∀ v ∈ y.l, v.cells.all AV.one = true) (hD : ∀ v ∈ D.l, v.cells.all AV.one = true) (hR : ∀ v ∈ R.l, v.cells.all AV.one = true) : ∀ b y, ((M.set b7 D).set b2 R) b = some y → ∀ v ∈ y.l, v.cells.all AV.one = true := by
  intro b y hy
  simp only [set_at] at hy
  split at hy
  · cases hy; exact hR
  · split at hy
    · cases hy; exact hD
    · exact h b y hy
/-- A number or an error. -/
def OneM (e : Int) (r : RR) (Z : Option Rat) : Prop :=
  match Z with
  | some q => e = 0 ∧ r = ofQ q ∧ Good q
  | none => e = 2
theorem OneM.step {e : Int} {a : RR} {Z : Option Rat} (h : OneM e a Z) {op : Rat → Option Rat} (hop : ∀ q z, op q = some z → Good z) : OneM (nOut e a (op a.q)).1 (nOut e a (op a.q)).2 (Z.bind op) := by
  cases Z with
  | none =>
    have : e = 2 := h
    rw [nOut_ne (by omega)]; exact h
  | some q =>
    obtain ⟨h1, rfl, h3⟩ : e = 0 ∧ a = ofQ q ∧ Good q := h
    rw [ofQ_q]
    show OneM _ _ (op q)
    cases ho : op q with
    | none => rw [nOut_none h1]; rfl
    | some z => rw [nOut_some h1]; exact ⟨rfl, rfl, hop q z ho⟩
theorem OneM.ok {e : Int} {a : RR} {Z : Option Rat} (h : OneM e a Z) (he : e = 0) : a.ok = true := by
  cases Z with
  | none => have : e = 2 := h; omega
  | some q => obtain ⟨_, rfl, h3⟩ : e = 0 ∧ a = ofQ q ∧ Good q := h; exact ofQ_ok h3
theorem ret_rr {n c t b : Nat} {L : List (Nat × AV)} {m : Mem} {R : AV → Mem → Prop} {e : AV} (q : RR) (hc : look L c = .ptr b 4 0 0) (he : look L t = e) (hm : m b = some ⟨36, 4, [q.av]⟩) (hn : (Nat.blt c n && Nat.blt t n) = true) (hR : R (.tup [q.av, e]) Mem.emp) : retQ Tryz.prog [.cell c 36, .tmp t] R .ret (S n L m) :=
  ret_rat (b := b) (.bool q.n1) (lim q.l1) (.bool q.n2) (lim q.l2) hc he hm hn (by simp) hR
set_option maxHeartbeats 1000000
theorem detL_call (m : List (List RR)) (hm : LbM m) : ACall Tryz.prog 23 [matAV m] Mem.emp fun v mm => v = .tup [(detR m).2.av, .int .i64 (detR m).1] ∧ mm = Mem.emp := by
  have hck := check_call m hm
  have hwid := width_call m
  by_cases h0 : chk m = 0
  · obtain ⟨h1, h2, h3, h4, h5⟩ := chk_emb hm h0
    rw [h0] at hck
    by_cases hsq : m.length = (mrow m 0).length
    · have hR : detR m = match detQ m.length (unq m) with
        | none => (2, badR)
        | some q => (0, ofQ q) := by unfold detR; rw [if_neg (by simp [h0]), if_neg (by simp [← hsq])] <;> rfl
      have hlen := unq_length m
      have hcl := clone_call m (by rw [h1]; exact short_emb h2) (by omega) (fun r hr => by
        obtain ⟨i, hi, rfl⟩ := mem_row hr
        have := h3 i (by rw [hlen]; exact hi)
        rw [unq_row, List.length_map] at this
        omega)
      have hw0 : (mrow (unq m) 0).length = m.length := by rw [unq_row, List.length_map, hsq]
      rw [hw0] at h3 h5
      rw [hR]
      clear hR hw0
      rw [← hsq] at hwid
      clear hsq
      generalize unq m = X0 at *
      generalize hn : m.length = n at *
      have hone := whole_call 1 (by omega) (by omega)
      have hzero := whole_call 0 (by omega) (by omega)
      rw [intQ_one] at hone
      rw [intQ_zero] at hzero
      have hX0 : matGood n n X0 := ⟨h2, h3, hlen⟩
      rw [h1] at hcl hwid hck ⊢
      clear hm h0 h1 h2 h3 hlen
      have hE : (emb X0).length = n := by rw [emb_length]; exact hX0.2.2
      refine acall_S Tryz.func23 rfl rfl 138 rfl (Nat.le_of_ble_eq_true rfl) ?_
      (repeat refine AW.seq_k fun K hK => ?_); refine AW.rg ?_; simp [argsL]; try (refine hK _ rfl ?_; clear hK; clear K)
      refine Fresh.intro fun b2 hb2 => ?_
      refine hK _ rfl ?_; clear hK; clear K; (repeat refine AW.seq_k fun K hK => ?_); refine AW.rg ?_; simp; try (refine hK _ rfl ?_; clear hK; clear K)
      refine CallK.val hck ?_; simp; refine hK _ rfl ?_; clear hK; clear K; (repeat refine AW.seq_k fun K hK => ?_); refine AW.rg ?_; simp; try (refine hK _ rfl ?_; clear hK; clear K)
      refine AW.no ?_ rfl; refine AW.skip ?_; try simp
      refine hK _ rfl ?_; clear hK; clear K; (repeat refine AW.seq_k fun K hK => ?_); refine AW.rg ?_; simp; try (refine hK _ rfl ?_; clear hK; clear K)
      refine CallK.val hwid ?_; simp [hE]; refine hK _ rfl ?_; clear hK; clear K; refine AW.no ?_ rfl; refine AW.skip ?_; try simp
      refine hK _ rfl ?_; clear hK; clear K; (repeat refine AW.seq_k fun K hK => ?_); refine AW.rg ?_; simp; try (refine hK _ rfl ?_; clear hK; clear K)
      refine Fresh.intro fun c hc => ?_
      refine hK _ rfl ?_; clear hK; clear K; (repeat refine AW.seq_k fun K hK => ?_); refine AW.rg ?_; simp; try (refine hK _ rfl ?_; clear hK; clear K)
      refine CallK.news hcl ?_
      rintro _ g ⟨B, bs0, rfl, g1, g2⟩ hf
      simp; refine hK _ rfl ?_; clear hK; clear K; (repeat refine AW.seq_k fun K hK => ?_); refine AW.rg ?_; simp; try (refine hK _ rfl ?_; clear hK; clear K)
      refine CallK.val hone ?_; simp
      refine Fresh.intro fun b7 hb7 => ?_
      refine hK _ rfl ?_; clear hK; clear K
      have hf' : ∀ b, g b ≠ none → b ≠ b2 ∧ b ≠ c := by
        intro b hb
        have := (hf b hb).1
        simp only [set_at, emp_at] at this
        by_cases e1 : b = c
        · simp [e1] at this
        · by_cases e2 : b = b2
          · subst e2; simp [e1] at this
          · exact ⟨e2, e1⟩
      have hcb2 : c ≠ b2 := by
        rintro rfl
        simp at hc
      have hgb2 : g b2 = none := by
        cases h : g b2 with
        | none => rfl
        | some y => exact absurd rfl (hf' b2 (by rw [h]; simp)).1
      have hM0 := RedM.start g1 g2 (c := c) (x := .agg [.int .i64 0]) (fun b hb => by simp only [set_at, emp_at]; rw [if_neg (hf' b hb).2])
      have e1 : ((Mem.emp.set b2 ⟨36, 4, [.agg [.bool false, .nil, .bool false, .nil]]⟩).set c ⟨61, 1, [.agg [.int .i64 0]]⟩).back [] g = ((Mem.emp.set c ⟨61, 1, [.agg [.int .i64 0]]⟩).back [] g).set b2 ⟨36, 4, [.agg [.bool false, .nil, .bool false, .nil]]⟩ := by
        rw [set_comm' _ _ _ (Ne.symm hcb2), back_set (by simp) hgb2]
      rw [e1] at hb7 ⊢
      generalize (Mem.emp.set c ⟨61, 1, [.agg [.int .i64 0]]⟩).back [] g = M0 at *
      have hb2M : b2 ∉ c :: B :: bs0 := by
        simp only [List.mem_cons, not_or]
        refine ⟨Ne.symm hcb2, ?_, fun hm => ?_⟩
        · rintro rfl
          rw [g1.top] at hgb2; cases hgb2
        · obtain ⟨i, hi, e⟩ := List.mem_iff_getElem.1 hm
          rw [← nb_eq hi] at e
          have := g1.row i (by rw [← g1.len]; exact hi)
          rw [e, hgb2] at this; cases this
      have h72 : b7 ≠ b2 := by rintro rfl; simp at hb7
      have hb7M : b7 ∉ c :: B :: bs0 := by
        simp only [set_at] at hb7
        rw [if_neg h72] at hb7
        obtain ⟨f1, f2, f3, _⟩ := hM0.fresh hb7
        simp [f1, f2, f3]
      clear hf hf' hc hb7 hb2 g1 g2 hgb2 e1
      have e2 : (M0.set b2 ⟨36, 4, [.agg [.bool false, .nil, .bool false, .nil]]⟩).set b7 ⟨36, 4, [(ofQ 1).av]⟩ = (M0.set b7 (dCell (ofQ 1))).set b2 ⟨36, 4, [.agg [.bool false, .nil, .bool false, .nil]]⟩ := set_comm' _ _ _ (Ne.symm h72)
      simp; rw [e2]
      clear e2
      generalize hRR : (⟨36, 4, [.agg [.bool false, .nil, .bool false, .nil]]⟩ : Blk) = R0 at *
      refine AW.seq_ex (ι := DetS) (fun s => [(2, .ptr b2 4 0 0), (5, .ptr c 1 0 0), (6, .osl B 1 0 n), (7, .ptr b7 4 0 0)]) (fun s => (s.M.set b7 (dCell (ofQ s.d))).set b2 R0) (fun s => InvD n X0 c B b7 b2 n s) ?_ ?_
      · (repeat refine AW.seq_k fun K hK => ?_); refine AW.rg ?_; simp; try (refine hK _ rfl ?_; clear hK; clear K)
        refine AW.block (AW.loopS (ι := Nat × DetS) (fun z => [(2, .ptr b2 4 0 0), (5, .ptr c 1 0 0), (6, .osl B 1 0 n), (7, .ptr b7 4 0 0), (32, .int .i64 n), (33, .int .i64 (z.1 : Nat))]) (fun z => (z.2.M.set b7 (dCell (ofQ z.2.d))).set b2 R0) (fun z => z.1 ≤ n ∧ InvD n X0 c B b7 b2 z.1 z.2) (fun z => n - z.1) (0, ⟨X0, 1, M0, bs0, .agg [.int .i64 0]⟩) ⟨by simp, rfl, hX0, good_one, hM0, rfl, hb7M, hb2M⟩ rfl (by simp) ?_)
        rintro ⟨j, X, d, M, bs, x⟩ ⟨i0, i1, i2, i3, i4, i5, i6, i7⟩
        simp only at i0 i1 i2 i3 i4 i5 i6 i7; (repeat refine AW.seq_k fun K hK => ?_); refine AW.rg ?_; simp; try (refine hK _ rfl ?_; clear hK; clear K)
        (repeat refine AW.seq ?_)
        refine AW.cs (fun hj => ?_) (fun hj => ?_) rfl <;> (try simp at hj)
        · refine AW.skip ?_; try simp
          have w1 : IntKind.i64.wrap ((j + 1 : Nat) : Int) = ((j + 1 : Nat) : Int) := wi (by omega)
          refine AW.seq_ex (ι := DetS) (fun s => [(2, .ptr b2 4 0 0), (5, .ptr c 1 0 0), (6, .osl B 1 0 n), (7, .ptr b7 4 0 0), (32, .int .i64 n), (33, .int .i64 (j : Nat))]) (fun s => (s.M.set b7 (dCell (ofQ s.d))).set b2 R0) (fun s => InvD n X0 c B b7 b2 (j + 1) s) ?_ ?_
          · (repeat refine AW.seq ?_); refine AW.block ?_; (repeat refine AW.seq_k fun K hK => ?_); refine AW.rg ?_; simp; try (refine hK _ rfl ?_; clear hK; clear K)
            obtain ⟨X1g, X1d, X1n⟩ := i2
            have hp := pivot_call _ B bs (emb X) i4.matOnly.1 i4.matOnly.2 (lb_emb X) n j j (dim_emb X1d) hj (by rw [emb_length]; omega) (by omega) (by omega)
            rw [emb_length, X1n] at hp
            have hb7 : b7 ∉ B :: bs := fun h => i6 (List.mem_cons_of_mem _ h)
            have hb2 : b2 ∉ B :: bs := fun h => i7 (List.mem_cons_of_mem _ h)
            rw [← mem_two (D := dCell (ofQ d)) (R := R0) hb7 hb2] at hp
            (repeat refine AW.seq_k fun K hK => ?_); refine AW.rg ?_; simp; try (refine hK _ rfl ?_; clear hK; clear K)
            refine CallK.hand (B :: bs) (by simp) hp ?_
            intro v g hv _
            unfold pivOut at hv
            rw [mem_two hb7 hb2, pivR_emb X1g X1d hj] at hv
            have hcol : detIter n X0 (j + 1) = detCol n j (X, d) := detIter_succ i1
            cases hpq : pivQ X j j with
            | none =>
              rw [hpq] at hv
              obtain ⟨rfl, rfl⟩ := hv
              have hz : detIter n X0 (j + 1) = some none := by rw [hcol]; unfold detCol; simp only [hpq]
              have hdz := detQ_zero hz (by omega)
              rw [← mem_two (D := dCell (ofQ d)) (R := R0) hb7 hb2, back_only]; simp; refine hK _ rfl ?_; clear hK; clear K; (repeat refine AW.seq_k fun K hK => ?_); refine AW.rg ?_; simp; try (refine hK _ rfl ?_; clear hK; clear K)
              refine AW.yes ?_ rfl; subst hRR; (repeat refine AW.seq_k fun K hK => ?_); refine AW.rg ?_; simp; try (refine hK _ rfl ?_; clear hK; clear K)
              refine CallK.val hzero ?_; simp; refine hK _ rfl ?_; clear hK; clear K; rw [hdz]
              exact AW.ret (ret_rr (b := b2) (ofQ 0) rfl rfl (by simp) rfl ⟨rfl, rfl⟩)
            | some i =>
              rw [hpq] at hv
              obtain ⟨rfl, hg1, hg2⟩ := hv
              obtain ⟨p1, p2, p3⟩ := pivQ_some hpq
              rw [X1n] at p1
              have hR1 := i4.back hg1 hg2 (fun b => swapB_mem (bs := bs) (i := i) (r := j) (by rw [i4.mat.len, emb_length, X1n]; exact p1) (by rw [i4.mat.len, emb_length, X1n]; exact hj) b)
              have hmb : ∀ b, b ∈ swapB bs i j ↔ b ∈ bs := fun b => swapB_mem (bs := bs) (i := i) (r := j) (by rw [i4.mat.len, emb_length, X1n]; exact p1) (by rw [i4.mat.len, emb_length, X1n]; exact hj) b
              have i6 : b7 ∉ c :: B :: swapB bs i j := by simpa [hmb] using i6
              have i7 : b2 ∉ c :: B :: swapB bs i j := by simpa [hmb] using i7
              rw [back_set hb2 (hg2.none hb2), back_set hb7 (hg2.none hb7)]
              rw [← emb_swap] at hR1
              have hcol : detIter n X0 (j + 1) = (detD (decide (i ≠ j)) d (qel (swapL X i j) j j)).bind fun d => (belowQ n j (swapL X i j)).map fun M => some (M, d) := by rw [hcol]; unfold detCol; simp only [hpq]
              have hG : matGood n n (swapL X i j) := matGood.swap ⟨X1g, X1d, X1n⟩ p1 hj
              have hdq : qel (swapL X i j) j j ≠ 0 := by
                unfold qel; rw [mrow_swap (by omega) (by omega), if_pos rfl]; exact p3
              clear hmb hp hpq p2 p3 hg1 hg2 hb7 hb2 X1g X1d X1n i4
              generalize swapL X i j = X1 at *
              generalize M.back (B :: bs) g = M1 at *
              generalize swapB bs i j = bs1 at *
              generalize decide (i ≠ j) = sw at *
              simp; refine hK _ rfl ?_; clear hK; clear K; (repeat refine AW.seq_k fun K hK => ?_); refine AW.rg ?_; simp; try (refine hK _ rfl ?_; clear hK; clear K)
              refine AW.no ?_ rfl; refine AW.skip ?_; try simp
              refine hK _ rfl ?_; clear hK; clear K
              have nc7 : c ≠ b7 := fun h => i6 (by simp [h])
              have nc2 : c ≠ b2 := fun h => i7 (by simp [h])
              refine AW.seq_ex (ι := AV × RR × Int) (fun z => [(2, .ptr b2 4 0 0), (5, .ptr c 1 0 0), (6, .osl B 1 0 n), (7, .ptr b7 4 0 0), (32, .int .i64 n), (33, .int .i64 (j : Nat)), (8, .int .i64 (j : Nat))]) (fun z => ((M1.set c ⟨61, 1, [z.1]⟩).set b7 (dCell z.2.1)).set b2 R0) (fun z => isE z.1 z.2.2 ∧ z.2.1.Lb ∧ OneM z.2.2 z.2.1 (if sw = true then subQ 0 d else some d)) ?_ ?_
              · cases sw
                · (repeat refine AW.seq_k fun K hK => ?_); refine AW.rg ?_; simp; try (refine hK _ rfl ?_; clear hK; clear K)
                  refine AW.no ?_ rfl; refine AW.skip ?_; try simp
                  exact ⟨x, ofQ d, ⟨0, i5, ofQ_lb d, rfl, rfl, i3⟩, by rw [Mem.set_self hR1.cell]⟩
                · (repeat refine AW.seq_k fun K hK => ?_); refine AW.rg ?_; simp; try (refine hK _ rfl ?_; clear hK; clear K)
                  refine AW.yes ?_ rfl; (repeat refine AW.seq_k fun K hK => ?_)
                  refine AW.rdT [] [] [] [b7] [0,2,1,3,4] mix (by simp [h72, Ne.symm h72, dCell]) (by simp [h72, Ne.symm h72, dCell]) (by simp [h72, Ne.symm h72, dCell]) (by simp [h72, Ne.symm h72, dCell]) (by simp [h72, Ne.symm h72, dCell]) ?_
                  simp [h72, Ne.symm h72, dCell]; try (refine hK _ rfl ?_; clear hK; clear K)
                  refine CallK.val hzero ?_; simp
                  refine nsub_K (c := c) (x := x) (e := 0) (a := ofQ 0) (b := ofQ d) (by simp [nc7, nc2, hR1.cell]) (by simp [nc7]) i5 (ofQ_lb _) (ofQ_lb _) (fun _ => ⟨ofQ_ok good_zero, ofQ_ok i3⟩) ?_
                  rw [ofQ_q, ofQ_q]
                  intro x' hx'
                  have hone := OneM.step (e := 0) (a := ofQ 0) (Z := some 0) ⟨rfl, rfl, good_zero⟩ (op := fun q => subQ q d) (fun q z h => good_sub h)
                  rw [ofQ_q] at hone
                  have hlb := nOut_lb (e := 0) (q := subQ 0 d) (ofQ_lb 0)
                  generalize nOut 0 (ofQ 0) (subQ 0 d) = ey at *
                  obtain ⟨e1, y⟩ := ey
                  simp only at hone hlb hx'
                  simp [h72, Ne.symm h72, nc7, nc2, frame2 nc7 nc2]
                  refine ⟨x', y, ⟨e1, hx', hlb, hone⟩, ?_⟩
                  funext k
                  simp only [set_at, dCell]
                  by_cases k1 : k = b2 <;> by_cases k2 : k = b7 <;> by_cases k3 : k = c <;> simp_all [-Int.natCast_add]
              rintro ⟨x1, d1, e1⟩ ⟨q1, q2, q3⟩
              simp only at q1 q2 q3
              have hR2 := hR1.setE x1
              rw [show M1.set c ⟨61, 1, [x1]⟩ = M1.set c ⟨61, 1, [x1]⟩ from rfl] at hR2
              have hX1j : j < (mrow X1 j).length := by rw [(hG.row hj).2]; exact hj
              have hjE : j < (emb X1).length := by rw [emb_length, hG.2.2]; exact hj
              have hlE : (mrow (emb X1) j).length = n := by rw [emb_row, List.length_map]; exact (hG.row hj).2
              have hel : rr (mrow (emb X1) j) j = ofQ (qel X1 j j) := by rw [emb_row, rr_map hX1j]; rfl
              have hgq : Good (qel X1 j j) := hG.1.at hX1j
              have hRc := hR2.cell
              have hRt := hR2.mat.top
              have hRr := hR2.mat.row j hjE
              have hRg := hR2.mat.get hjE
              generalize M1.set c ⟨61, 1, [x1]⟩ = M2 at *
              have nB7 : B ≠ b7 := fun h => i6 (by simp [h])
              have nB2 : B ≠ b2 := fun h => i7 (by simp [h])
              have hnb : ∀ i, i < n → nb bs1 i ≠ b7 ∧ nb bs1 i ≠ b2 := fun i hi => by
                have := nb_mem (bs := bs1) (i := i) (by rw [hR2.mat.len, emb_length, hG.2.2]; exact hi)
                exact ⟨fun h => i6 (by simp [← h, this]), fun h => i7 (by simp [← h, this])⟩
              have hcB := hR2.cB
              have hcb := hR2.nc hjE
              refine AW.seq_ex (ι := AV × RR × Int) (fun z => [(2, .ptr b2 4 0 0), (5, .ptr c 1 0 0), (6, .osl B 1 0 n), (7, .ptr b7 4 0 0), (32, .int .i64 n), (33, .int .i64 (j : Nat)), (8, .int .i64 (j : Nat))]) (fun z => ((M2.set c ⟨61, 1, [z.1]⟩).set b7 (dCell z.2.1)).set b2 R0) (fun z => isE z.1 z.2.2 ∧ z.2.1.Lb ∧ OneM z.2.2 z.2.1 (detD sw d (qel X1 j j))) ?_ ?_
              · (repeat refine AW.seq_k fun K hK => ?_)
                refine AW.rdT [] [] [] [b7, B, nb bs1 j] [0, 1, 2, 3, 4, 5, 6, 7, 8, 9, 10] mix (by simp [h72, Ne.symm h72, dCell, nB7, nB2, hnb j hj, hj, hRt, ↓hRg, hRr, hlE, hel]) (by simp [h72, Ne.symm h72, dCell, nB7, nB2, hnb j hj, hj, hRt, ↓hRg, hRr, hlE, hel]) (by simp [h72, Ne.symm h72, dCell, nB7, nB2, hnb j hj, hj, hRt, ↓hRg, hRr, hlE, hel]) (by simp [h72, Ne.symm h72, dCell, nB7, nB2, hnb j hj, hj, hRt, ↓hRg, hRr, hlE, hel]) (by simp [h72, Ne.symm h72, dCell, nB7, nB2, hnb j hj, hj, hRt, ↓hRg, hRr, hlE, hel]) ?_
                simp [h72, Ne.symm h72, dCell, nB7, nB2, hnb j hj, hj, hRt, ↓hRg, hRr, hlE, hel]; try (refine hK _ rfl ?_; clear hK; clear K)
                refine nmul_K (c := c) (x := x1) (e := e1) (a := d1) (b := ofQ (qel X1 j j)) (by simp [nc7, nc2, hRc]) (by simp [nc7, hcB, Ne.symm hcb]) q1 q2 (ofQ_lb _) (fun he => ⟨q3.ok he, ofQ_ok hgq⟩) ?_
                rw [ofQ_q]
                intro x' hx'
                have hone := q3.step (op := fun q => mulQ q (qel X1 j j)) (fun q z h => good_mul h)
                have hlb := nOut_lb (e := e1) (q := mulQ d1.q (qel X1 j j)) q2
                generalize nOut e1 d1 (mulQ d1.q (qel X1 j j)) = ey at *
                obtain ⟨e2, y⟩ := ey
                simp only at hone hlb hx'
                simp [h72, Ne.symm h72, nc7, nc2, frame2 nc7 nc2]
                refine ⟨x', y, ⟨e2, hx', hlb, hone⟩, ?_⟩
                funext k
                simp only [set_at, dCell]
                by_cases k1 : k = b2 <;> by_cases k2 : k = b7 <;> by_cases k3 : k = c <;> simp_all [-Int.natCast_add]
              clear hRc hRt hRr hRg
              rintro ⟨x2, d2, e2⟩ ⟨r1, r2, r3⟩
              simp only at r1 r2 r3
              replace hR2 := hR2.setE x2
              clear q1 q2 q3
              generalize M2.set c ⟨61, 1, [x2]⟩ = M2 at *
              simp only
              generalize hZd : detD sw d (qel X1 j j) = Zd at *
              refine AW.seq_ex (ι := RowS) (fun s => [(2, .ptr b2 4 0 0), (5, .ptr c 1 0 0), (6, .osl B 1 0 n), (7, .ptr b7 4 0 0), (32, .int .i64 n), (33, .int .i64 (j : Nat)), (8, .int .i64 (j : Nat))]) (fun s => (s.M.set b7 (dCell d2)).set b2 R0) (fun s => InvW c B bs1 .nil [] [] n n (Zd.bind fun _ => iterO (belowStep n j) (n - (j + 1)) X1) s) ?_ ?_
              · (repeat refine AW.seq_k fun K hK => ?_); refine AW.rg ?_; simp [-Int.natCast_add, w1]; try (refine hK _ rfl ?_; clear hK; clear K)
                refine AW.block (AW.loopS (ι := Nat × RowS) (fun z => [(2, .ptr b2 4 0 0), (5, .ptr c 1 0 0), (6, .osl B 1 0 n), (7, .ptr b7 4 0 0), (32, .int .i64 n), (33, .int .i64 (j : Nat)), (8, .int .i64 (j : Nat)), (11, .int .i64 ((j + 1 + z.1 : Nat) : Int))]) (fun z => (z.2.M.set b7 (dCell d2)).set b2 R0) (fun z => z.1 ≤ n - (j + 1) ∧ InvW c B bs1 .nil [] [] n n (Zd.bind fun _ => iterO (belowStep n j) z.1 X1) z.2) (fun z => n - z.1) (0, ⟨M2, emb X1, x2, e2⟩) ⟨by simp, hR2, r1, lb_emb X1, dim_emb hG.2.1, by rw [emb_length, hG.2.2], ?_⟩ rfl (by simp [-Int.natCast_add]) ?_)
                · cases Zd with
                  | none => exact r3
                  | some dq => exact ⟨r3.1, rfl, hG.1⟩
                rintro ⟨t, M, rows, x, e⟩ ⟨g1, g2, g3, g4, g5, g6, g7⟩
                simp only at g1 g2 g3 g4 g5 g6 g7
                generalize hi : j + 1 + t = i at *
                (repeat refine AW.seq_k fun K hK => ?_); refine AW.rg ?_; simp [-Int.natCast_add]; try (refine hK _ rfl ?_; clear hK; clear K)
                (repeat refine AW.seq ?_)
                refine AW.cs (fun hin => ?_) (fun hin => ?_) rfl <;> (try simp at hin)
                · refine AW.skip ?_
                  try simp [-Int.natCast_add]
                  have hi' : i < rows.length := by omega
                  have hj' : j < rows.length := by omega
                  have hli := g5 i hi'
                  have hlj := g5 j hj'
                  have nB := Ne.symm g2.cB
                  have nI := g2.nc hi'
                  have nJ := g2.nc hj'
                  have n0 := g2.mat.ne hi'
                  have hbi := hnb i hin
                  have hbj := hnb j hj
                  have w3 : IntKind.i64.wrap ((i + 1 : Nat) : Int) = ((i + 1 : Nat) : Int) := wi (by omega)
                  refine hK _ rfl ?_; clear hK; clear K
                  have hsg := rsign_call (rr (mrow rows i) j) (rr_lb (g4.row i) j)
                  generalize hZ : (Zd.bind fun _ => iterO (belowStep n j) t X1) = Z at g7
                  have hZ1 : (Zd.bind fun _ => iterO (belowStep n j) (t + 1) X1) = Z.bind (belowStep n j t) := by
                    rw [← hZ]; cases Zd <;> rfl
                  have hZl : ∀ X', Z = some X' → e = 0 ∧ rows = emb X' ∧ matGood n n X' ∧ qel X' j j ≠ 0 := by
                    intro X' hX'
                    subst hX'
                    obtain ⟨m1, m2, _⟩ : e = 0 ∧ rows = emb X' ∧ GoodM X' := g7
                    cases Zd with
                    | none => cases hZ
                    | some dq =>
                      obtain ⟨k1, k2⟩ := belows_keep (by omega) hG hZ
                      refine ⟨m1, m2, k1, ?_⟩
                      unfold qel at hdq ⊢
                      rw [k2]; exact hdq
                  have hfr : ∀ X', Z = some X' → rr (mrow rows i) j = ofQ (qel X' i j) ∧ Good (qel X' i j) ∧ rr (mrow rows j) j = ofQ (qel X' j j) ∧ Good (qel X' j j) := by
                    intro X' hX'
                    obtain ⟨_, m2, m3, _⟩ := hZl X' hX'
                    have l1 : j < (mrow X' i).length := by rw [(m3.row hin).2]; exact hj
                    have l2 : j < (mrow X' j).length := by rw [(m3.row hj).2]; exact hj
                    rw [m2]
                    exact ⟨by rw [emb_row, rr_map l1]; rfl, m3.1.at l1, by rw [emb_row, rr_map l2]; rfl, m3.1.at l2⟩
                  refine AW.seq_ex (ι := RowS) (fun s => [(2, .ptr b2 4 0 0), (5, .ptr c 1 0 0), (6, .osl B 1 0 n), (7, .ptr b7 4 0 0), (32, .int .i64 n), (33, .int .i64 (j : Nat)), (8, .int .i64 (j : Nat)), (11, .int .i64 (i : Nat))]) (fun s => (s.M.set b7 (dCell d2)).set b2 R0) (fun s => InvW c B bs1 .nil [] [] n n (Zd.bind fun _ => iterO (belowStep n j) (t + 1) X1) s) ?_ ?_
                  · (repeat refine AW.seq ?_); refine AW.block ?_
                    refine AW.seq_ex (ι := Unit) (fun _ => [(2, .ptr b2 4 0 0), (5, .ptr c 1 0 0), (6, .osl B 1 0 n), (7, .ptr b7 4 0 0), (32, .int .i64 n), (33, .int .i64 (j : Nat)), (8, .int .i64 (j : Nat)), (11, .int .i64 (i : Nat))]) (fun _ => (M.set b7 (dCell d2)).set b2 R0) (fun _ => signR (rr (mrow rows i) j) ≠ 0) ?_ ?_
                    · (repeat refine AW.seq_k fun K hK => ?_); refine AW.rg ?_; simp [-Int.natCast_add, hin, g2.mat.top, ↓g2.mat.get hi', g2.mat.row i hi', hli, hj, nB7, nB2, hbi]; try (refine hK _ rfl ?_; clear hK; clear K)
                      refine CallK.val hsg ?_; simp; refine hK _ rfl ?_; clear hK; clear K; (repeat refine AW.seq ?_)
                      refine AW.cs (fun h0 => ?_) (fun h0 => ?_) rfl <;> (try simp at h0)
                      · refine AW.exit ?_
                        try simp [-Int.natCast_add]
                        refine ⟨⟨M, rows, x, e⟩, InvW.to ⟨g2, g3, g4, g5, g6, g7⟩ ?_, rfl⟩
                        rw [hZ1]
                        cases hZ2 : Z with
                        | none => rfl
                        | some X' =>
                          obtain ⟨f1, f2, _⟩ := hfr X' hZ2
                          rw [f1, signR_ofQ f2] at h0
                          have h0 := signQ_zero.1 h0
                          subst hi
                          exact if_pos h0
                      · refine AW.skip ?_
                        try simp [-Int.natCast_add]
                        exact h0
                    rintro _ h0
                    have hgo : ∀ X', Z = some X' → belowStep n j t X' = (divQ (qel X' i j) (qel X' j j)).bind fun f => (iterO (belowRow (mrow X' j) f j) (n - j) (mrow X' i)).map (X'.set i) := by
                      intro X' hX'
                      obtain ⟨f1, f2, _⟩ := hfr X' hX'
                      subst hi
                      exact if_neg (fun h => h0 (by rw [f1, signR_ofQ f2]; exact signQ_zero.2 h))
                    have hsi := g2.setE
                    (repeat refine AW.seq_k fun K hK => ?_)
                    refine AW.rdT [] [] [] [B, nb bs1 i, nb bs1 j] [0, 1, 2, 3, 4, 5, 6, 7, 8, 9, 10, 11, 12, 13, 14, 15, 16, 17] mix (by simp [hin, hj, g2.mat.top, ↓g2.mat.get hi', ↓g2.mat.get hj', g2.mat.row i hi', g2.mat.row j hj', hli, hlj, nB7, nB2, hbi, hbj]) (by simp [hin, hj, g2.mat.top, ↓g2.mat.get hi', ↓g2.mat.get hj', g2.mat.row i hi', g2.mat.row j hj', hli, hlj, nB7, nB2, hbi, hbj]) (by simp [hin, hj, g2.mat.top, ↓g2.mat.get hi', ↓g2.mat.get hj', g2.mat.row i hi', g2.mat.row j hj', hli, hlj, nB7, nB2, hbi, hbj]) (by simp [hin, hj, g2.mat.top, ↓g2.mat.get hi', ↓g2.mat.get hj', g2.mat.row i hi', g2.mat.row j hj', hli, hlj, nB7, nB2, hbi, hbj]) (by simp [hin, hj, g2.mat.top, ↓g2.mat.get hi', ↓g2.mat.get hj', g2.mat.row i hi', g2.mat.row j hj', hli, hlj, nB7, nB2, hbi, hbj]) ?_
                    simp [-Int.natCast_add, hin, hj, g2.mat.top, ↓g2.mat.get hi', ↓g2.mat.get hj', g2.mat.row i hi', g2.mat.row j hj', hli, hlj, nB7, nB2, hbi, hbj]; try (refine hK _ rfl ?_; clear hK; clear K)
                    refine ndiv_K (c := c) (x := x) (e := e) (a := rr (mrow rows i) j) (b := rr (mrow rows j) j) (by simp [nc7, nc2, g2.cell]) (by simp [g2.cB, Ne.symm nI, Ne.symm nJ]) g3 (rr_lb (g4.row i) j) (rr_lb (g4.row j) j) (fun he => ⟨mode_ok g7 he (by rw [hli]; exact hj), mode_ok g7 he (by rw [hlj]; exact hj), ?_⟩) ?_
                    · cases hZ2 : Z with
                      | none => rw [hZ2] at g7; have : e = 2 := g7; omega
                      | some X' => rw [(hfr X' hZ2).2.2.1, ofQ_q]; exact (hZl X' hZ2).2.2.2
                    intro x' hx'
                    have hflb := nOut_lb (e := e) (q := divQ (rr (mrow rows i) j).q (rr (mrow rows j) j).q) (rr_lb (g4.row i) j)
                    generalize hz : nOut e (rr (mrow rows i) j) (divQ (rr (mrow rows i) j).q (rr (mrow rows j) j).q) = ef at *
                    obtain ⟨e', fr⟩ := ef
                    simp only at hx' hflb
                    simp [frame2 nc7 nc2]
                    refine Fresh.intro fun b12 hb12 => ?_
                    refine hK _ rfl ?_; clear hK; clear K
                    have hM1 : Mode e' rows (Z.bind fun X' => (divQ (qel X' i j) (qel X' j j)).bind fun f => (iterO (belowRow (mrow X' j) f j) 0 (mrow X' i)).map (X'.set i)) := by
                      cases hZ2 : Z with
                      | none =>
                        rw [hZ2] at g7
                        have : e = 2 := g7
                        rw [nOut_ne (by omega)] at hz
                        cases hz; exact g7
                      | some X' =>
                        obtain ⟨m1, m2, m3, _⟩ := hZl X' hZ2
                        obtain ⟨f1, _, f3, _⟩ := hfr X' hZ2
                        rw [f1, f3, ofQ_q, ofQ_q] at hz
                        show Mode e' rows ((divQ (qel X' i j) (qel X' j j)).bind fun f => (iterO (belowRow (mrow X' j) f j) 0 (mrow X' i)).map (X'.set i))
                        cases hq : divQ (qel X' i j) (qel X' j j) with
                        | none => rw [hq, nOut_none m1] at hz; cases hz; rfl
                        | some f =>
                          rw [hq, nOut_some m1] at hz
                          cases hz
                          show Mode 0 rows (some (X'.set i (mrow X' i)))
                          rw [mrow_eq (by rw [m3.2.2]; exact hin), List.set_getElem_self]
                          exact ⟨rfl, m2, m3.1⟩
                    have hfq : ∀ X' f, Z = some X' → divQ (qel X' i j) (qel X' j j) = some f → fr = ofQ f ∧ Good f := by
                      intro X' f hX' hq
                      obtain ⟨m1, _, _, m4⟩ := hZl X' hX'
                      obtain ⟨f1, _, f3, _⟩ := hfr X' hX'
                      rw [f1, f3, ofQ_q, ofQ_q, hq, nOut_some m1] at hz
                      cases hz
                      exact ⟨rfl, good_div m4 hq⟩
                    have g2' := g2.setE x'
                    refine AW.turn [(2, .ptr b2 4 0 0), (5, .ptr c 1 0 0), (6, .osl B 1 0 n), (7, .ptr b7 4 0 0), (32, .int .i64 n), (33, .int .i64 (j : Nat)), (8, .int .i64 (j : Nat)), (11, .int .i64 (i : Nat)), (12, .rptr [.bool fr.n1, lim fr.l1, .bool fr.n2, lim fr.l2])] (((M.set c ⟨61, 1, [x']⟩).set b7 (dCell d2)).set b2 R0) (Recast.drop hb12 (ones_two (g2'.ones hx') (fun v hv => by simp [dCell] at hv; subst hv; rfl) (fun v hv => by rw [← hRR] at hv; simp at hv; subst hv; rfl))) ?_ ?_
                    · simp
                      exact view_temp hb12
                    have hgo' : (Zd.bind fun _ => iterO (belowStep n j) (t + 1) X1) = Z.bind fun X' => (divQ (qel X' i j) (qel X' j j)).bind fun f => (iterO (belowRow (mrow X' j) f j) (n - j) (mrow X' i)).map (X'.set i) := by
                      rw [hZ1]
                      cases hZ2 : Z with
                      | none => rfl
                      | some X' => exact hgo X' hZ2
                    have hZm : ∀ X', Z = some X' → matGood n n X' := fun X' h => (hZl X' h).2.2.1
                    clear hb12 hfr hgo hZl hZ1 hsg hsi h0
                    (repeat refine AW.seq_k fun K hK => ?_); refine AW.rg ?_; simp [-Int.natCast_add]; try (refine hK _ rfl ?_; clear hK; clear K)
                    refine AW.block (AW.loopS (ι := Nat × RowS) (fun z => [(2, .ptr b2 4 0 0), (5, .ptr c 1 0 0), (6, .osl B 1 0 n), (7, .ptr b7 4 0 0), (32, .int .i64 n), (33, .int .i64 (j : Nat)), (8, .int .i64 (j : Nat)), (11, .int .i64 (i : Nat)), (12, .rptr [.bool fr.n1, lim fr.l1, .bool fr.n2, lim fr.l2]), (13, .int .i64 ((j + z.1 : Nat) : Int))]) (fun z => (z.2.M.set b7 (dCell d2)).set b2 R0) (fun z => z.1 ≤ n - j ∧ InvW c B bs1 .nil [] [] n n (Z.bind fun X' => (divQ (qel X' i j) (qel X' j j)).bind fun f => (iterO (belowRow (mrow X' j) f j) z.1 (mrow X' i)).map (X'.set i)) z.2) (fun z => n - z.1) (0, ⟨_, rows, x', e'⟩) ⟨by simp, g2', hx', g4, g5, g6, hM1⟩ rfl (by simp) ?_)
                    clear g2 g3 g4 g5 g6 g7 g2' hM1 hi' hj' hli hlj nB nI nJ n0 hz hx'
                    rintro ⟨u, M, rows, x, e⟩ ⟨g1', g2, g3, g4, g5, g6, g7⟩
                    simp only at g1' g2 g3 g4 g5 g6 g7
                    generalize hk : j + u = k at *
                    (repeat refine AW.seq_k fun K hK => ?_); refine AW.rg ?_; simp [-Int.natCast_add]; try (refine hK _ rfl ?_; clear hK; clear K)
                    (repeat refine AW.seq ?_)
                    refine AW.cs (fun hkn => ?_) (fun hkn => ?_) rfl <;> (try simp at hkn)
                    · refine AW.skip ?_
                      try simp [-Int.natCast_add]
                      refine hK _ rfl ?_; clear hK; clear K; (repeat refine AW.seq ?_); refine AW.block ?_
                      have hi' : i < rows.length := by omega
                      have hj' : j < rows.length := by omega
                      have hli := g5 i hi'
                      have hlj := g5 j hj'
                      have nI := g2.nc hi'
                      have nJ := g2.nc hj'
                      have n0 := g2.mat.ne hi'
                      have w5 : IntKind.i64.wrap ((k + 1 : Nat) : Int) = ((k + 1 : Nat) : Int) := wi (by omega)
                      have hij : j ≠ i := by omega
                      have hb : e = 0 → (rr (mrow rows j) k).q = qat (mrow (Z.getD []) j) k ∧ fr.q = (divQ (qel (Z.getD []) i j) (qel (Z.getD []) j j)).getD 0 := by
                        intro he
                        cases hZ2 : Z with
                        | none => rw [hZ2] at g7; have : e = 2 := g7; omega
                        | some X' =>
                          rw [hZ2] at g7
                          replace g7 : Mode e rows ((divQ (qel X' i j) (qel X' j j)).bind fun f => (iterO (belowRow (mrow X' j) f j) u (mrow X' i)).map (X'.set i)) := g7
                          show _ = qat (mrow X' j) k ∧ fr.q = (divQ (qel X' i j) (qel X' j j)).getD 0
                          cases hq : divQ (qel X' i j) (qel X' j j) with
                          | none => rw [hq] at g7; have : e = 2 := g7; omega
                          | some f =>
                            rw [hq] at g7
                            replace g7 : Mode e rows ((iterO (belowRow (mrow X' j) f j) u (mrow X' i)).map (X'.set i)) := g7
                            have k3 := hZm X' hZ2
                            refine ⟨?_, by rw [(hfq X' f hZ2 hq).1, ofQ_q]; rfl⟩
                            cases hit : iterO (belowRow (mrow X' j) f j) u (mrow X' i) with
                            | none => rw [hit] at g7; have : e = 2 := g7; omega
                            | some row =>
                              rw [hit] at g7
                              obtain ⟨_, m2, _⟩ : e = 0 ∧ rows = emb (X'.set i row) ∧ GoodM (X'.set i row) := g7
                              rw [m2, emb_row, mrow_set (by rw [k3.2.2]; exact hin), if_neg hij, rr_map (by rw [(k3.row hj).2]; exact hkn), ofQ_q]
                      have hfok : e = 0 → fr.ok = true := by
                        intro he
                        cases hZ2 : Z with
                        | none => rw [hZ2] at g7; have : e = 2 := g7; omega
                        | some X' =>
                          rw [hZ2] at g7
                          replace g7 : Mode e rows ((divQ (qel X' i j) (qel X' j j)).bind fun f => (iterO (belowRow (mrow X' j) f j) u (mrow X' i)).map (X'.set i)) := g7
                          cases hq : divQ (qel X' i j) (qel X' j j) with
                          | none => rw [hq] at g7; have : e = 2 := g7; omega
                          | some f => obtain ⟨q1, q2⟩ := hfq X' f hZ2 hq; rw [q1]; exact ofQ_ok q2
                      (repeat refine AW.seq_k fun K hK => ?_)
                      refine AW.rdT [] [12] [] [B, nb bs1 i, nb bs1 j] [0, 1, 2, 3, 4, 5, 6, 7, 8, 9, 10, 11, 12, 13, 14, 15, 16, 17, 18, 19, 20, 21, 22, 23, 24, 25] mix (by simp [hin, hj, hkn, g2.mat.top, ↓g2.mat.get hi', ↓g2.mat.get hj', g2.mat.row i hi', g2.mat.row j hj', hli, hlj, nB7, nB2, hbi, hbj]) (by simp [hin, hj, hkn, g2.mat.top, ↓g2.mat.get hi', ↓g2.mat.get hj', g2.mat.row i hi', g2.mat.row j hj', hli, hlj, nB7, nB2, hbi, hbj]) (by simp [hin, hj, hkn, g2.mat.top, ↓g2.mat.get hi', ↓g2.mat.get hj', g2.mat.row i hi', g2.mat.row j hj', hli, hlj, nB7, nB2, hbi, hbj]) (by simp [hin, hj, hkn, g2.mat.top, ↓g2.mat.get hi', ↓g2.mat.get hj', g2.mat.row i hi', g2.mat.row j hj', hli, hlj, nB7, nB2, hbi, hbj]) (by simp [hin, hj, hkn, g2.mat.top, ↓g2.mat.get hi', ↓g2.mat.get hj', g2.mat.row i hi', g2.mat.row j hj', hli, hlj, nB7, nB2, hbi, hbj]) ?_
                      simp [-Int.natCast_add, hin, hj, hkn, g2.mat.top, ↓g2.mat.get hi', ↓g2.mat.get hj', g2.mat.row i hi', g2.mat.row j hj', hli, hlj, nB7, nB2, hbi, hbj]; try (refine hK _ rfl ?_; clear hK; clear K)
                      refine nmul_K (a := rr (mrow rows j) k) (b := fr) (x := x) (e := e) (by simp [nc7, nc2, g2.cell]) (by simp [hcB, Ne.symm nJ, Ne.symm nI]) g3 (rr_lb (g4.row j) k) hflb (fun he => ⟨mode_ok g7 he (by rw [hlj]; exact hkn), hfok he⟩) ?_
                      intro x1 hx1
                      have hplb : (nOut e (rr (mrow rows j) k) (mulQ (rr (mrow rows j) k).q fr.q)).2.Lb := nOut_lb (rr_lb (g4.row j) k)
                      have hlo := less_out (a := rr (mrow rows i) k) hb (e1 := (nOut e (rr (mrow rows j) k) (mulQ (rr (mrow rows j) k).q fr.q)).1) (p := (nOut e (rr (mrow rows j) k) (mulQ (rr (mrow rows j) k).q fr.q)).2) rfl
                      have hlk := less_ok (b := rr (mrow rows j) k) (f := fr) (e := e) (fun z hz => good_mul hz) (e1 := (nOut e (rr (mrow rows j) k) (mulQ (rr (mrow rows j) k).q fr.q)).1) (p := (nOut e (rr (mrow rows j) k) (mulQ (rr (mrow rows j) k).q fr.q)).2) rfl
                      generalize (nOut e (rr (mrow rows j) k) (mulQ (rr (mrow rows j) k).q fr.q)) = ep at *
                      obtain ⟨e1, p⟩ := ep
                      simp only at hx1 hplb hlo hlk; simp [-Int.natCast_add]
                      refine nsub_K (a := rr (mrow rows i) k) (b := p) (x := x1) (e := e1) (by simp) (by simp [hcB, Ne.symm nJ, Ne.symm nI]) hx1 (rr_lb (g4.row i) k) hplb (fun he => ⟨mode_ok g7 (hlk he).1 (by rw [hli]; exact hkn), (hlk he).2⟩) ?_
                      intro x2 hx2
                      simp [-Int.natCast_add, hin, hkn, nI, nJ, n0, g2.mat.row i hi', hli, hbi, frame2 nc7 nc2, frame2 hbi.1 hbi.2]; (repeat refine AW.seq_k fun K hK => ?_); refine AW.rg ?_; simp [-Int.natCast_add, w5]; try (refine hK _ rfl ?_; clear hK; clear K)
                      have hs := InvW.row (op := fun q k => lessQ q ((divQ (qel (Z.getD []) i j) (qel (Z.getD []) j j)).getD 0) (qat (mrow (Z.getD []) j) k)) (y := (nOut e1 (rr (mrow rows i) k) (subQ (rr (mrow rows i) k).q p.q)).2) (fun q k x hx => good_less hx) (s := ⟨M, rows, x, e⟩) ⟨g2, g3, g4, g5, g6, g7⟩ hin hkn (Z := Z.bind fun X' => (divQ (qel X' i j) (qel X' j j)).bind fun f => (iterO (belowRow (mrow X' j) f j) u (mrow X' i)).map fun row => (X', row)) (by
                        cases Z with
                        | none => rfl
                        | some X' =>
                          show ((divQ (qel X' i j) (qel X' j j)).bind fun f => (iterO (belowRow (mrow X' j) f j) u (mrow X' i)).map _) = _
                          cases hq : divQ (qel X' i j) (qel X' j j) with
                          | none => simp [hq]
                          | some f => cases hit : iterO (belowRow (mrow X' j) f j) u (mrow X' i) <;> simp [hit, hq]) hx2 (nOut_lb (rr_lb (g4.row i) k)) hlo.1 hlo.2
                      refine ⟨u + 1, _, ⟨by omega, hs.to ?_⟩, by omega, rfl, by omega⟩
                      cases Z with
                      | none => rfl
                      | some X' =>
                        show ((divQ (qel X' i j) (qel X' j j)).bind fun f => (iterO (belowRow (mrow X' j) f j) (u + 1) (mrow X' i)).map _) = _
                        cases hq : divQ (qel X' i j) (qel X' j j) with
                        | none => simp [hq]
                        | some f =>
                          show (iterO (belowRow (mrow X' j) f j) (u + 1) (mrow X' i)).map _ = _
                          rw [iterO_succ]
                          cases hit : iterO (belowRow (mrow X' j) f j) u (mrow X' i) with
                          | none => simp [hit, hq]
                          | some row => simp [hit, hq, belowRow, hk]
                    · refine AW.exit ?_
                      try simp [-Int.natCast_add]
                      have : u = n - j := by omega
                      subst this
                      exact ⟨⟨M, rows, x, e⟩, InvW.to ⟨g2, g3, g4, g5, g6, g7⟩ hgo', rfl⟩
                  rintro ⟨M, rows, x, e⟩ hs
                  have w4 : j + 1 + (t + 1) = i + 1 := by omega
                  (repeat refine AW.seq_k fun K hK => ?_); refine AW.rg ?_; simp [-Int.natCast_add, w3]; try (refine hK _ rfl ?_; clear hK; clear K)
                  exact ⟨t + 1, ⟨M, rows, x, e⟩, ⟨by omega, hs⟩, by omega, rfl, by rw [w4]⟩
                · refine AW.exit ?_
                  try simp [-Int.natCast_add]
                  have : t = n - (j + 1) := by omega
                  subst this
                  exact ⟨⟨M, rows, x, e⟩, ⟨g2, g3, g4, g5, g6, g7⟩, rfl⟩
              rintro ⟨M3, rows3, x3, e3⟩ ⟨g1, g2, g3, g4, g5, g6⟩
              simp only at g1 g2 g3 g4 g5 g6
              have hx3 : x3.cells = [.int .i64 e3] := g2
              (repeat refine AW.seq_k fun K hK => ?_); refine AW.rg ?_; simp [g1.cell, hx3, nc7, nc2]; try (refine hK _ rfl ?_; clear hK; clear K)
              (repeat refine AW.seq ?_)
              refine AW.cs (fun he => ?_) (fun he => ?_) rfl <;> (try simp at he)
              · subst hRR
                have he2 : e3 = 2 ∧ (Zd.bind fun _ => iterO (belowStep n j) (n - (j + 1)) X1) = none := by
                  generalize (Zd.bind fun _ => iterO (belowStep n j) (n - (j + 1)) X1) = Z at g6
                  cases Z with
                  | none => exact ⟨g6, rfl⟩
                  | some Y => exact absurd g6.1 he
                have hno : detIter n X0 (j + 1) = none := by
                  rw [hcol]
                  cases Zd with
                  | none => rfl
                  | some dq =>
                    have : belowQ n j X1 = none := he2.2
                    show (belowQ n j X1).map _ = none
                    rw [this]; rfl
                rw [detQ_none hno (by omega)]; (repeat refine AW.seq_k fun K hK => ?_)
                refine AW.rdT [] [] [2] [c] [0, 1, 2, 3, 4, 5, 6] mix (by simp [g1.cell, hx3, nc7, nc2, Ne.symm nc2]) (by simp [g1.cell, hx3, nc7, nc2, Ne.symm nc2]) (by simp [g1.cell, hx3, nc7, nc2, Ne.symm nc2]) (by simp [g1.cell, hx3, nc7, nc2, Ne.symm nc2]) (by simp [g1.cell, hx3, nc7, nc2, Ne.symm nc2]) ?_
                simp [g1.cell, hx3, nc7, nc2, Ne.symm nc2]; try (refine hK _ rfl ?_; clear hK; clear K)
                exact AW.ret (ret_rat (b := b2) (.bool false) (lim []) (.bool false) (lim []) rfl rfl (by simp) rfl ⟨.same _, .nilsl 1, .same _, .nilsl 1, trivial⟩ ⟨by rw [he2.1]; rfl, rfl⟩)
              · refine AW.skip ?_; try simp
                cases Zd with
                | none => have : e3 = 2 := g6; omega
                | some dq =>
                  cases hb : belowQ n j X1 with
                  | none =>
                    have g6' : Mode e3 rows3 (belowQ n j X1) := g6
                    rw [hb] at g6'
                    have : e3 = 2 := g6'
                    omega
                  | some Y =>
                    have g6' : Mode e3 rows3 (belowQ n j X1) := g6
                    rw [hb] at g6'
                    obtain ⟨_, rfl, m3⟩ : e3 = 0 ∧ rows3 = emb Y ∧ GoodM Y := g6'
                    obtain ⟨_, rfl, r5⟩ : e2 = 0 ∧ d2 = ofQ dq ∧ Good dq := r3
                    refine ⟨⟨Y, dq, M3, bs1, x3⟩, ⟨?_, (belows_keep (by omega) hG hb).1, r5, g1, he ▸ g2, i6, i7⟩, rfl⟩
                    rw [hcol]
                    show (belowQ n j X1).map _ = _
                    rw [hb]; rfl
          rintro ⟨X, d, M, bs, x⟩ hs
          (repeat refine AW.seq_k fun K hK => ?_); refine AW.rg ?_; simp [-Int.natCast_add, w1]; try (refine hK _ rfl ?_; clear hK; clear K)
          exact ⟨j + 1, ⟨X, d, M, bs, x⟩, ⟨hj, hs⟩, by omega, rfl, rfl⟩
        · refine AW.exit ?_
          try simp
          have : j = n := by omega
          subst this
          exact ⟨⟨X, d, M, bs, x⟩, ⟨i1, i2, i3, i4, i5, i6, i7⟩, rfl⟩
      rintro ⟨X, d, M, bs, x⟩ ⟨i1, i2, i3, i4, i5, i6, i7⟩
      simp only at i1 i2 i3 i4 i5 i6 i7; subst hRR; (repeat refine AW.seq_k fun K hK => ?_); refine AW.rg ?_; simp [dCell, h72, Ne.symm h72]; try (refine hK _ rfl ?_; clear hK; clear K)
      rw [detQ_some i1]
      exact AW.ret (ret_rr (b := b2) (ofQ d) rfl rfl (by simp; rfl) rfl ⟨rfl, rfl⟩)
    · have hR : detR m = (1, badR) := by unfold detR; rw [if_neg (by simp [h0]), if_pos hsq]
      rw [hR]
      refine acall_S Tryz.func23 rfl rfl 138 rfl (Nat.le_of_ble_eq_true rfl) ?_
      (repeat refine AW.seq_k fun K hK => ?_); refine AW.rg ?_; simp [argsL]; try (refine hK _ rfl ?_; clear hK; clear K)
      refine Fresh.intro fun b2 hb2 => ?_
      refine hK _ rfl ?_; clear hK; clear K; (repeat refine AW.seq_k fun K hK => ?_); refine AW.rg ?_; simp; try (refine hK _ rfl ?_; clear hK; clear K)
      refine CallK.val hck ?_; simp; refine hK _ rfl ?_; clear hK; clear K; (repeat refine AW.seq_k fun K hK => ?_); refine AW.rg ?_; simp; try (refine hK _ rfl ?_; clear hK; clear K)
      refine AW.no ?_ rfl; refine AW.skip ?_; try simp
      refine hK _ rfl ?_; clear hK; clear K; (repeat refine AW.seq_k fun K hK => ?_); refine AW.rg ?_; simp; try (refine hK _ rfl ?_; clear hK; clear K)
      refine CallK.val hwid ?_; simp [hsq]; refine hK _ rfl ?_; clear hK; clear K; refine AW.yes ?_ rfl; (repeat refine AW.seq_k fun K hK => ?_); refine AW.rg ?_; simp; try (refine hK _ rfl ?_; clear hK; clear K)
      exact AW.ret (ret_rat (b := b2) (.bool false) (lim []) (.bool false) (lim []) (by simp) (by simp) (by simp) rfl ⟨.same _, .nilsl 1, .same _, .nilsl 1, trivial⟩ ⟨rfl, rfl⟩)
  · have hR : detR m = (chk m, badR) := if_pos h0
    rw [hR]
    generalize chk m = e at *
    refine acall_S Tryz.func23 rfl rfl 138 rfl (Nat.le_of_ble_eq_true rfl) ?_
    (repeat refine AW.seq_k fun K hK => ?_); refine AW.rg ?_; simp [argsL]; try (refine hK _ rfl ?_; clear hK; clear K)
    refine Fresh.intro fun b2 hb2 => ?_
    refine hK _ rfl ?_; clear hK; clear K; (repeat refine AW.seq_k fun K hK => ?_); refine AW.rg ?_; simp; try (refine hK _ rfl ?_; clear hK; clear K)
    refine CallK.val hck ?_; simp; refine hK _ rfl ?_; clear hK; clear K; (repeat refine AW.seq_k fun K hK => ?_); refine AW.rg ?_; simp [h0]; try (refine hK _ rfl ?_; clear hK; clear K)
    refine AW.yes ?_ rfl; (repeat refine AW.seq_k fun K hK => ?_); refine AW.rg ?_; simp; try (refine hK _ rfl ?_; clear hK; clear K)
    exact AW.ret (ret_rat (b := b2) (.bool false) (lim []) (.bool false) (lim []) (by simp) (by simp) (by simp) rfl ⟨.same _, .nilsl 1, .same _, .nilsl 1, trivial⟩ ⟨rfl, rfl⟩)
end Go.Av
end
section
namespace Go.Av
open Go.Proofs
theorem zeroI_call (z : Int) : ACall Tryz.prog 85 [intAV z] Mem.emp fun v m => v = .bool (decide (z = 0)) ∧ m = Mem.emp := by
  have h := zero_call (decide (z < 0)) (dig z.natAbs)
  have e : decide ((dig z.natAbs).length = 0) = decide (z = 0) := by
    have h1 : dig z.natAbs = [] ↔ z.natAbs = 0 := dig_nil
    have h2 : (dig z.natAbs).length = 0 ↔ z = 0 := by rw [List.length_eq_zero_iff, h1]; omega
    simp [h2]
  rw [e] at h
  exact h
theorem cmpI_zero {x y : Int} : cmpI x y = 0 ↔ x = y := by unfold cmpI; split <;> (try split) <;> omega
theorem cmpI_range (x y : Int) : cmpI x y = -1 ∨ cmpI x y = 0 ∨ cmpI x y = 1 := by unfold cmpI; split <;> (try split) <;> simp
theorem euc_ne {x y u v : Int} (hy : 0 < y) (hv : 0 < v) (h : x.fdiv y ≠ u.fdiv v) : x * v ≠ u * y := by
  intro e
  apply h
  rw [Int.fdiv_eq_ediv_of_nonneg _ (by omega), Int.fdiv_eq_ediv_of_nonneg _ (by omega)]
  have h1 : (x * v) / (y * v) = x / y := Int.mul_ediv_mul_of_pos_left _ _ hv
  have h2 : (u * y) / (v * y) = u / v := Int.mul_ediv_mul_of_pos_left _ _ hy
  rw [← h1, ← h2, e, Int.mul_comm v y]
theorem euc_eq {x y u v : Int} (h : x.fdiv y = u.fdiv v) : x * v = u * y ↔ x.fmod y * v = u.fmod v * y := by
  have h1 : x = y * x.fdiv y + x.fmod y := by rw [Int.mul_fdiv_add_fmod]
  have h2 : u = v * u.fdiv v + u.fmod v := by rw [Int.mul_fdiv_add_fmod]
  generalize x.fmod y = r1 at *
  generalize u.fmod v = r2 at *
  rw [← h] at h2
  generalize x.fdiv y = q at *
  subst h1 h2
  rw [Int.add_mul, Int.add_mul, show v * q * y = y * q * v by rw [Int.mul_comm v q, Int.mul_assoc, Int.mul_comm v y, ← Int.mul_assoc, Int.mul_comm q y]]
  omega
theorem fmod_range {x y : Int} (hy : 0 < y) : 0 ≤ x.fmod y ∧ x.fmod y < y := ⟨Int.fmod_nonneg_of_pos _ hy, Int.fmod_lt_of_pos _ hy⟩
def iCell (z : Int) : Blk := ⟨34, 2, [.agg [.bool (decide (z < 0)), lim (dig z.natAbs)]]⟩
structure CmpS where
  x : Int
  y : Int
  u : Int
  v : Int
  s : Int
def InvC (a b : Rat) (t : CmpS) : Prop := 0 < t.y ∧ 0 < t.v ∧ t.x.natAbs < B128 ∧ t.y.natAbs < B128 ∧ t.u.natAbs < B128 ∧ t.v.natAbs < B128 ∧ (a = b ↔ t.x * t.v = t.u * t.y) ∧ (t.s = 1 ∨ t.s = -1)
theorem iCell_nat (n : Nat) : iCell (n : Nat) = ⟨34, 2, [.agg [.bool false, lim (dig n)]]⟩ := by
  unfold iCell
  have : decide ((n : Int) < 0) = false := by simp
  rw [this]; rfl
def cMem (b5 b6 b7 b8 : Nat) (t : CmpS) : Mem := (((Mem.emp.set b5 (iCell t.x)).set b6 (iCell t.y)).set b7 (iCell t.u)).set b8 (iCell t.v)
theorem ipos_of {r : Int} (h : 0 ≤ r) (h0 : r ≠ 0) : 0 < r := by omega
theorem iabs_lt {r y : Int} (h : 0 ≤ r) (h0 : r < y) : r.natAbs < y.natAbs := by omega
theorem sgn_ne {s c : Int} (h : s = 1 ∨ s = -1) (hc : ¬ c = 0) : ¬ s * c = 0 := by
  rcases h with h | h <;> subst h <;> omega
theorem sgn_range {s c : Int} (h : s = 1 ∨ s = -1) (hc : c = -1 ∨ c = 0 ∨ c = 1) : s * c = -1 ∨ s * c = 0 ∨ s * c = 1 := by
  rcases h with h | h <;> subst h <;> omega
theorem sgn_wrap {s c : Int} (h : s = 1 ∨ s = -1) (hc : c = -1 ∨ c = 0 ∨ c = 1) : IntKind.i64.wrap (s * c) = s * c := by
  rcases h with h | h <;> rcases hc with h' | h' | h' <;> subst h h' <;> rfl
theorem sgn_neg {s : Int} (h : s = 1 ∨ s = -1) : IntKind.i64.wrap (-s) = -s ∧ (-s = 1 ∨ -s = -1) ∧ ¬ -s = 0 ∧ ¬ s = 0 := by
  rcases h with h | h <;> subst h <;> exact ⟨rfl, by decide, by decide, by decide⟩
def cmpOut (a b : Rat) (v : AV) : Prop := ∃ c : Int, v = .int .i64 c ∧ (c = 0 ↔ a = b) ∧ (c = -1 ∨ c = 0 ∨ c = 1)
set_option maxHeartbeats 1000000
theorem qcompare_call (a b : Rat) (ha : Good a) (hb : Good b) : ACall Tryz.prog 132 [qAV a, qAV b] Mem.emp fun v m => cmpOut a b v ∧ m = Mem.emp := by
  have key : ∀ t : CmpS, InvC a b t → ∃ q1 r1 q2 r2, q1 = t.x.fdiv t.y ∧ r1 = t.x.fmod t.y ∧ q2 = t.u.fdiv t.v ∧ r2 = t.u.fmod t.v := fun t _ => ⟨_, _, _, _, rfl, rfl, rfl, rfl⟩
  have hab : a = b ↔ a.num * b.den = b.num * a.den := Rat.eq_iff_mul_eq_mul
  have d1 : 0 < (a.den : Int) := by have := a.den_pos; omega
  have d2 : 0 < (b.den : Int) := by have := b.den_pos; omega
  unfold qAV
  refine acall_S Tryz.func132 rfl rfl 73 rfl (Nat.le_of_ble_eq_true rfl) ?_
  (repeat refine AW.seq_k fun K hK => ?_)
  refine AW.rgR [2,3] ?_
  simp [argsL]; try (refine hK _ rfl ?_; clear hK; clear K)
  (repeat refine AW.seq_k fun K hK => ?_)
  refine AW.rdT [] [2, 3, 18, 20, 22, 24] [] [] [0, 1, 2, 3, 4, 5, 6, 7, 8, 9, 10, 11, 12, 13, 14, 15] mix (by simp) (by simp) (by simp) (by simp) (by simp) ?_
  simp; try (refine hK _ rfl ?_; clear hK; clear K)
  refine Fresh.intro fun b5 hb5 => ?_
  simp only [set_none2, emp_at, and_true] at hb5
  refine Fresh.intro fun b6 hb6 => ?_
  simp only [set_none2, emp_at, and_true] at hb6
  refine Fresh.intro fun b7 hb7 => ?_
  simp only [set_none2, emp_at, and_true] at hb7
  refine Fresh.intro fun b8 hb8 => ?_
  simp only [set_none2, emp_at, and_true] at hb8
  simp [hb5, hb6, hb7, hb8]; refine hK _ rfl ?_; clear hK; clear K; (repeat refine AW.seq_k fun K hK => ?_); refine AW.rg ?_; simp; try (refine hK _ rfl ?_; clear hK; clear K)
  refine AW.block (AW.loopS (ι := CmpS) (fun t => [(5, .ptr b5 2 0 0), (6, .ptr b6 2 0 0), (7, .ptr b7 2 0 0), (8, .ptr b8 2 0 0), (9, .int .i64 t.s)]) (fun t => cMem b5 b6 b7 b8 t) (fun t => InvC a b t) (fun t => t.y.natAbs) ⟨a.num, (a.den : Nat), b.num, (b.den : Nat), 1⟩ ⟨d1, d2, ha.1, den_lt ha, hb.1, den_lt hb, hab, .inl rfl⟩ ?_ (by simp) ?_)
  · unfold cMem
    simp only [iCell_nat]
    unfold iCell
    funext c
    simp only [set_at, emp_at]
    (repeat' split) <;> simp_all
  rintro ⟨x, y, u, v, s⟩ ⟨i1, i2, i3, i4, i5, i6, i7, i8⟩
  simp only at i1 i2 i3 i4 i5 i6 i7 i8
  have c1 := idivmod_call x y i3 i4 (by omega)
  have c2 := idivmod_call u v i5 i6 (by omega)
  have e1 := fdiv_lt (y := y) i3 (by omega)
  have e2 := fdiv_lt (y := v) i5 (by omega)
  have e3 := fmod_lt (x := x) i4 (by omega)
  have e4 := fmod_lt (x := u) i6 (by omega)
  have c3 := icmp_call (x.fdiv y) (u.fdiv v) e1 e2
  have c4 := zeroI_call (x.fmod y)
  have c5 := zeroI_call (u.fmod v)
  have f1 := fmod_range (x := x) i1
  have f2 := fmod_range (x := u) i2
  have p1 := euc_ne (x := x) (u := u) i1 i2
  have p2 := euc_eq (x := x) (y := y) (u := u) (v := v)
  generalize x.fdiv y = q1 at *
  generalize u.fdiv v = q2 at *
  generalize x.fmod y = r1 at *
  generalize u.fmod v = r2 at *
  unfold cMem iCell
  unfold intAV at *
  simp only; (repeat refine AW.seq ?_); refine AW.block ?_; (repeat refine AW.seq_k fun K hK => ?_); refine AW.rg ?_; simp [hb5, hb6, hb7, hb8]; try (refine hK _ rfl ?_; clear hK; clear K)
  refine CallK.val c1 ?_; simp [hb5, hb6, hb7, hb8]
  refine Fresh.intro fun b10 hb10 => ?_
  simp only [set_none2, emp_at, and_true] at hb10
  refine Fresh.intro fun b11 hb11 => ?_
  simp only [set_none2, emp_at, and_true] at hb11
  simp [hb5, hb6, hb7, hb8, hb10, hb11, set_four hb11.1.2]; refine hK _ rfl ?_; clear hK; clear K; (repeat refine AW.seq_k fun K hK => ?_); refine AW.rg ?_; simp [hb5, hb6, hb7, hb8, hb10, hb11]; try (refine hK _ rfl ?_; clear hK; clear K)
  refine CallK.val c2 ?_; simp [hb5, hb6, hb7, hb8, hb10, hb11]
  refine Fresh.intro fun b13 hb13 => ?_
  simp only [set_none2, emp_at, and_true] at hb13
  refine Fresh.intro fun b14 hb14 => ?_
  simp only [set_none2, emp_at, and_true] at hb14
  simp [hb5, hb6, hb7, hb8, hb10, hb11, hb13, hb14, set_four hb14.1.2]; refine hK _ rfl ?_; clear hK; clear K
  refine AW.seq_ex (ι := Unit) (fun _ => [(5, .ptr b5 2 0 0), (6, .ptr b6 2 0 0), (7, .ptr b7 2 0 0), (8, .ptr b8 2 0 0), (9, .int .i64 s), (11, .ptr b11 2 0 0), (14, .ptr b14 2 0 0)]) (fun _ => ((((cMem b5 b6 b7 b8 ⟨x, y, u, v, s⟩).set b10 (iCell q1)).set b11 (iCell r1)).set b13 (iCell q2)).set b14 (iCell r2)) (fun _ => q1 = q2) ?_ ?_
  · (repeat refine AW.seq_k fun K hK => ?_); refine AW.rg ?_; simp [hb5, hb6, hb7, hb8, hb10, hb11, hb13, hb14]; try (refine hK _ rfl ?_; clear hK; clear K)
    refine CallK.val c3 ?_; simp [hb5, hb6, hb7, hb8, hb10, hb11, hb13, hb14]; refine hK _ rfl ?_; clear hK; clear K
    have hc1 : cmpI q1 q2 = 0 ↔ q1 = q2 := cmpI_zero
    have hc2 := cmpI_range q1 q2
    generalize cmpI q1 q2 = cc at *
    (repeat refine AW.seq_k fun K hK => ?_); refine AW.rg ?_; simp; try (refine hK _ rfl ?_; clear hK; clear K)
    (repeat refine AW.seq ?_)
    refine AW.cs (fun hc => ?_) (fun hc => ?_) rfl <;> (try simp at hc)
    · (repeat refine AW.seq_k fun K hK => ?_); refine AW.rg ?_; simp; try (refine hK _ rfl ?_; clear hK; clear K)
      have hw : IntKind.i64.wrap (s * cc) = s * cc := sgn_wrap i8 hc2
      refine AW.ret (ret_views (vs := [.int .i64 (s * cc)]) [.int .i64 (s * cc)] (by simp [hw]) (by simp) ⟨⟨s * cc, rfl, ?_, ?_⟩, rfl⟩)
      · have : a ≠ b := fun h => (p1 (fun h2 => hc (hc1.2 h2))) (i7.1 h)
        exact ⟨fun h0 => absurd h0 (sgn_ne i8 hc), fun h => absurd h this⟩
      · exact sgn_range i8 hc2
    · refine AW.skip ?_; try simp
      refine ⟨hc1.1 hc, ?_⟩
      rfl
  rintro _ hq
  subst hq
  have p2 := p2 rfl
  obtain ⟨t1, ht1⟩ : ∃ t, t = decide (r1 = 0) := ⟨_, rfl⟩
  obtain ⟨t2, ht2⟩ : ∃ t, t = decide (r2 = 0) := ⟨_, rfl⟩
  rw [← ht1] at c4
  rw [← ht2] at c5
  have hne : (t1 = true ∨ t2 = true) → (a = b ↔ t1 = true ∧ t2 = true) := by
    intro h
    rw [i7, p2, ht1, ht2] at *
    simp only [decide_eq_true_eq] at h ⊢
    constructor
    · intro e
      rcases h with h | h
      · rw [h, Int.zero_mul] at e
        refine ⟨h, ?_⟩
        rcases Int.mul_eq_zero.1 e.symm with h' | h'
        · exact h'
        · omega
      · rw [h, Int.zero_mul] at e
        refine ⟨?_, h⟩
        rcases Int.mul_eq_zero.1 e with h' | h'
        · exact h'
        · omega
    · rintro ⟨h1, h2⟩
      rw [h1, h2]; simp
  have hsn := sgn_neg i8
  refine AW.seq_ex (ι := Unit) (fun _ => [(5, .ptr b5 2 0 0), (6, .ptr b6 2 0 0), (7, .ptr b7 2 0 0), (8, .ptr b8 2 0 0), (9, .int .i64 s), (11, .ptr b11 2 0 0), (14, .ptr b14 2 0 0)]) (fun _ => ((((cMem b5 b6 b7 b8 ⟨x, y, u, v, s⟩).set b10 (iCell q1)).set b11 (iCell r1)).set b13 (iCell q1)).set b14 (iCell r2)) (fun _ => t1 = false ∧ t2 = false) ?_ ?_
  · (repeat refine AW.seq ?_); refine AW.block ?_
    refine AW.seq_ex (ι := Unit) (fun _ => [(5, .ptr b5 2 0 0), (6, .ptr b6 2 0 0), (7, .ptr b7 2 0 0), (8, .ptr b8 2 0 0), (9, .int .i64 s), (11, .ptr b11 2 0 0), (14, .ptr b14 2 0 0), (53, .bool (t1 && t2))]) (fun _ => ((((cMem b5 b6 b7 b8 ⟨x, y, u, v, s⟩).set b10 (iCell q1)).set b11 (iCell r1)).set b13 (iCell q1)).set b14 (iCell r2)) (fun _ => True) ?_ ?_
    · cases t1
      · (repeat refine AW.seq_k fun K hK => ?_); refine AW.rg ?_; simp [iCell, cMem, hb5, hb6, hb7, hb8, hb10, hb11, hb13, hb14]; try (refine hK _ rfl ?_; clear hK; clear K)
        refine CallK.val c4 ?_; simp [hb5, hb6, hb7, hb8, hb10, hb11, hb13, hb14]
      · (repeat refine AW.seq_k fun K hK => ?_); refine AW.rg ?_; simp [iCell, cMem, hb5, hb6, hb7, hb8, hb10, hb11, hb13, hb14]; try (refine hK _ rfl ?_; clear hK; clear K)
        refine CallK.val c4 ?_; simp [hb5, hb6, hb7, hb8, hb10, hb11, hb13, hb14]; refine CallK.val c5 ?_; simp [hb5, hb6, hb7, hb8, hb10, hb11, hb13, hb14]
    rintro _ -
    cases h12 : (t1 && t2)
    · refine AW.no ?_ rfl
      refine AW.seq_ex (ι := Unit) (fun _ => [(5, .ptr b5 2 0 0), (6, .ptr b6 2 0 0), (7, .ptr b7 2 0 0), (8, .ptr b8 2 0 0), (9, .int .i64 s), (11, .ptr b11 2 0 0), (14, .ptr b14 2 0 0), (60, .bool t1)]) (fun _ => ((((cMem b5 b6 b7 b8 ⟨x, y, u, v, s⟩).set b10 (iCell q1)).set b11 (iCell r1)).set b13 (iCell q1)).set b14 (iCell r2)) (fun _ => True) ?_ ?_
      · (repeat refine AW.seq_k fun K hK => ?_); refine AW.rg ?_; simp [iCell, cMem, hb5, hb6, hb7, hb8, hb10, hb11, hb13, hb14]; try (refine hK _ rfl ?_; clear hK; clear K)
        refine CallK.val c4 ?_; simp [hb5, hb6, hb7, hb8, hb10, hb11, hb13, hb14]
      rintro _ -
      cases t1
      · refine AW.no ?_ rfl
        refine AW.seq_ex (ι := Unit) (fun _ => [(5, .ptr b5 2 0 0), (6, .ptr b6 2 0 0), (7, .ptr b7 2 0 0), (8, .ptr b8 2 0 0), (9, .int .i64 s), (11, .ptr b11 2 0 0), (14, .ptr b14 2 0 0), (65, .bool t2)]) (fun _ => ((((cMem b5 b6 b7 b8 ⟨x, y, u, v, s⟩).set b10 (iCell q1)).set b11 (iCell r1)).set b13 (iCell q1)).set b14 (iCell r2)) (fun _ => True) ?_ ?_
        · (repeat refine AW.seq_k fun K hK => ?_); refine AW.rg ?_; simp [iCell, cMem, hb5, hb6, hb7, hb8, hb10, hb11, hb13, hb14]; try (refine hK _ rfl ?_; clear hK; clear K)
          refine CallK.val c5 ?_; simp [hb5, hb6, hb7, hb8, hb10, hb11, hb13, hb14]
        rintro _ -
        cases t2
        · refine AW.no ?_ rfl; refine AW.skip ?_; try simp
        · refine AW.yes ?_ rfl; (repeat refine AW.seq_k fun K hK => ?_); refine AW.rg ?_; simp; try (refine hK _ rfl ?_; clear hK; clear K)
          refine AW.ret (ret_views (vs := [.int .i64 s]) [.int .i64 s] (by simp) (by simp) ⟨⟨s, rfl, ⟨fun h => absurd h hsn.2.2.2, fun h => ?_⟩, ?_⟩, rfl⟩)
          · have := (hne (.inr rfl)).1 h; simp at this
          · rcases i8 with h | h <;> simp [h]
      · refine AW.yes ?_ rfl; (repeat refine AW.seq_k fun K hK => ?_); refine AW.rg ?_; simp [hsn.1]; try (refine hK _ rfl ?_; clear hK; clear K)
        refine AW.ret (ret_views (vs := [.int .i64 (-s)]) [.int .i64 (-s)] (by simp) (by simp) ⟨⟨-s, rfl, ⟨fun h => absurd h hsn.2.2.1, fun h => ?_⟩, ?_⟩, rfl⟩)
        · have := (hne (.inl rfl)).1 h; rw [this.2] at h12; simp at h12
        · rcases hsn.2.1 with h | h <;> simp [h]
    · refine AW.yes ?_ rfl; (repeat refine AW.seq_k fun K hK => ?_); refine AW.rg ?_; simp; try (refine hK _ rfl ?_; clear hK; clear K)
      have hb : t1 = true ∧ t2 = true := by simpa using h12
      refine AW.ret (ret_views (vs := [.int .i64 0]) [.int .i64 0] (by simp) (by simp) ⟨⟨0, rfl, ⟨fun _ => (hne (.inl hb.1)).2 hb, fun _ => rfl⟩, .inr (.inl rfl)⟩, rfl⟩)
  rintro _ ⟨z1, z2⟩
  rw [ht1] at z1
  rw [ht2] at z2
  have z1 : r1 ≠ 0 := by simpa using z1
  have z2 : r2 ≠ 0 := by simpa using z2
  clear ht1 ht2 hne c1 c2 c3 c4 c5
  (repeat refine AW.seq_k fun K hK => ?_)
  refine AW.rdT [(6, b6), (11, b11), (8, b8), (14, b14), (5, b5), (7, b7)] [] [] [b6, b11, b8, b14] [0, 1, 2, 3, 4, 5, 6, 7] mix (by simp [iCell, cMem, hb5, hb6, hb7, hb8, hb10, hb11, hb13, hb14]) (by simp [iCell, cMem, hb5, hb6, hb7, hb8, hb10, hb11, hb13, hb14]) (by simp [iCell, cMem, hb5, hb6, hb7, hb8, hb10, hb11, hb13, hb14]) (by simp [iCell, cMem, hb5, hb6, hb7, hb8, hb10, hb11, hb13, hb14]) (by simp [iCell, cMem, hb5, hb6, hb7, hb8, hb10, hb11, hb13, hb14]) ?_
  simp [iCell, cMem, hb5, hb6, hb7, hb8, hb10, hb11, hb13, hb14]; try (refine hK _ rfl ?_; clear hK; clear K)
  refine AW.turn [(5, .ptr b5 2 0 0), (6, .ptr b6 2 0 0), (7, .ptr b7 2 0 0), (8, .ptr b8 2 0 0), (9, .int .i64 s)] (cMem b5 b6 b7 b8 ⟨y, r1, v, r2, s⟩) (Recast.sub fun k z hz => ?_) (by simp) ?_
  · unfold cMem iCell at hz
    simp only [set_at, emp_at] at hz
    by_cases k8 : k = b8
    · subst k8
      rw [if_pos rfl] at hz
      cases hz
      exact ⟨by simp [hb5, hb6, hb7, hb8, hb10, hb11, hb13, hb14], by simp⟩
    rw [if_neg k8] at hz
    by_cases k7 : k = b7
    · subst k7
      rw [if_pos rfl] at hz
      cases hz
      exact ⟨by simp [hb5, hb6, hb7, hb8, hb10, hb11, hb13, hb14], by simp⟩
    rw [if_neg k7] at hz
    by_cases k6 : k = b6
    · subst k6
      rw [if_pos rfl] at hz
      cases hz
      exact ⟨by simp [hb5, hb6, hb7, hb8, hb10, hb11, hb13, hb14], by simp⟩
    rw [if_neg k6] at hz
    by_cases k5 : k = b5
    · subst k5
      rw [if_pos rfl] at hz
      cases hz
      exact ⟨by simp [hb5, hb6, hb7, hb8, hb10, hb11, hb13, hb14], by simp⟩
    rw [if_neg k5] at hz
    cases hz
  (repeat refine AW.seq_k fun K hK => ?_); refine AW.rg ?_; simp [hsn.1]; try (refine hK _ rfl ?_; clear hK; clear K)
  refine ⟨⟨y, r1, v, r2, -s⟩, ⟨ipos_of f1.1 z1, ipos_of f2.1 z2, i4, e3, i6, e4, ?_, hsn.2.1⟩, iabs_lt f1.1 f1.2, rfl, rfl⟩
  rw [i7, p2]; simp only; rw [Int.mul_comm y r2, Int.mul_comm v r1]
  exact eq_comm
theorem qcmp_call (a b : RR) (ha : a.Lb) (hb : b.Lb) (oa : a.ok = true) (ob : b.ok = true) : ACall Tryz.prog 101 [a.av, b.av] Mem.emp fun v m => (∃ c : Int, v = .tup [.int .i64 c, .int .i64 0] ∧ (c = 0 ↔ a.q = b.q)) ∧ m = Mem.emp := by
  have hal := all_call a b ha hb
  rw [oa, ob] at hal
  have hc := qcompare_call a.q b.q (ok_good ha oa).1 (ok_good hb ob).1
  rw [← ok_av ha oa, ← ok_av hb ob] at hc
  unfold RR.av at *
  refine acall_S Tryz.func101 rfl rfl 14 rfl (Nat.le_of_ble_eq_true rfl) ?_
  (repeat refine AW.seq_k fun K hK => ?_)
  refine AW.rgR [2,3] ?_
  simp [argsL]; try (refine hK _ rfl ?_; clear hK; clear K)
  (repeat refine AW.seq_k fun K hK => ?_)
  refine AW.rgR [8] ?_
  simp; try (refine hK _ rfl ?_; clear hK; clear K)
  refine CallK.val hal ?_; simp; refine hK _ rfl ?_; clear hK; clear K; refine AW.no ?_ rfl; refine AW.skip ?_; try simp
  refine hK _ rfl ?_; clear hK; clear K; (repeat refine AW.seq_k fun K hK => ?_); refine AW.rg ?_; simp; try (refine hK _ rfl ?_; clear hK; clear K)
  refine CallK.pure hc ?_
  rintro _ ⟨c, rfl, h1, h2⟩
  simp; refine hK _ rfl ?_; clear hK; clear K
  exact AW.ret (ret_views (vs := [.int .i64 c, .int .i64 0]) [.int .i64 c, .int .i64 0] (by simp) (by simp) ⟨⟨c, rfl, h1⟩, rfl⟩)
/-- A matrix is symmetric. -/
def symm (M : List (List Rat)) (n : Nat) : Prop := ∀ i, i < n → ∀ k, k < i → qel M i k = qel M k i
theorem symmetric_call (X : List (List Rat)) (n : Nat) (hX : matGood n (mrow X 0).length X) (hn : n ≤ 64) (hw : (mrow X 0).length ≤ 64) : ACall Tryz.prog 66 [matAV (emb X)] Mem.emp fun v mm => ∃ t, v = .bool t ∧ (t = true ↔ n = (mrow X 0).length ∧ symm X n) ∧ mm = Mem.emp := by
  have hwid := width_call (emb X)
  have e0 : (mrow (emb X) 0).length = (mrow X 0).length := by rw [emb_row, List.length_map]
  rw [e0] at hwid
  generalize (mrow X 0).length = w at *
  have hE : (emb X).length = n := by rw [emb_length]; exact hX.2.2
  refine acall_S Tryz.func66 rfl rfl 43 rfl (Nat.le_of_ble_eq_true rfl) ?_
  (repeat refine AW.seq_k fun K hK => ?_); refine AW.rg ?_; simp [argsL]; try (refine hK _ rfl ?_; clear hK; clear K)
  (repeat refine AW.seq_k fun K hK => ?_); refine AW.rg ?_; simp; try (refine hK _ rfl ?_; clear hK; clear K)
  refine CallK.val hwid ?_; simp [hE]; refine hK _ rfl ?_; clear hK; clear K
  by_cases hsq : n = w
  · subst hsq
    refine AW.no ?_ (by simp)
    refine AW.skip ?_; try simp
    refine hK _ rfl ?_; clear hK; clear K
    refine AW.seq_ex (ι := Unit) (fun _ => []) (fun _ => Mem.emp) (fun _ => symm X n) ?_ ?_
    · (repeat refine AW.seq_k fun K hK => ?_); refine AW.rg ?_; simp [hE]; try (refine hK _ rfl ?_; clear hK; clear K)
      refine AW.block (AW.loopS (ι := Nat) (fun i => [(0, matAV (emb X)), (13, .int .i64 n), (14, .int .i64 (i : Nat))]) (fun _ => Mem.emp) (fun i => i ≤ n ∧ symm X i) (fun i => n - i) 0 ⟨by simp, fun i hi => by omega⟩ rfl (by simp) ?_)
      rintro i ⟨g1, g2⟩
      (repeat refine AW.seq_k fun K hK => ?_); refine AW.rg ?_; simp; try (refine hK _ rfl ?_; clear hK; clear K)
      (repeat refine AW.seq ?_)
      refine AW.cs (fun hi => ?_) (fun hi => ?_) rfl <;> (try simp at hi)
      · refine AW.skip ?_; try simp
        have hi' : i < (emb X).length := by rw [hE]; exact hi
        have hli : (mrow (emb X) i).length = n := by rw [emb_row, List.length_map]; exact (hX.row hi).2
        have w1 : IntKind.i64.wrap ((i + 1 : Nat) : Int) = ((i + 1 : Nat) : Int) := wi (by omega)
        refine AW.seq_ex (ι := Unit) (fun _ => [(0, matAV (emb X)), (13, .int .i64 n), (14, .int .i64 (i : Nat))]) (fun _ => Mem.emp) (fun _ => ∀ k, k < i → qel X i k = qel X k i) ?_ ?_
        · (repeat refine AW.seq ?_); refine AW.block ?_; (repeat refine AW.seq_k fun K hK => ?_); refine AW.rg ?_; simp; try (refine hK _ rfl ?_; clear hK; clear K)
          (repeat refine AW.seq_k fun K hK => ?_); refine AW.rg ?_; simp; try (refine hK _ rfl ?_; clear hK; clear K)
          refine AW.block (AW.loopS (ι := Nat) (fun k => [(0, matAV (emb X)), (13, .int .i64 n), (14, .int .i64 (i : Nat)), (3, .int .i64 (i : Nat)), (17, .int .i64 (i : Nat)), (18, .int .i64 (k : Nat))]) (fun _ => Mem.emp) (fun k => k ≤ i ∧ ∀ k', k' < k → qel X i k' = qel X k' i) (fun k => i - k) 0 ⟨by simp, fun i hi => by omega⟩ rfl (by simp) ?_)
          rintro k ⟨q1, q2⟩
          (repeat refine AW.seq_k fun K hK => ?_); refine AW.rg ?_; simp; try (refine hK _ rfl ?_; clear hK; clear K)
          (repeat refine AW.seq ?_)
          refine AW.cs (fun hk => ?_) (fun hk => ?_) rfl <;> (try simp at hk)
          · refine AW.skip ?_; try simp
            have hkn : k < n := by omega
            have hk' : k < (emb X).length := by rw [hE]; exact hkn
            have hlk : (mrow (emb X) k).length = n := by rw [emb_row, List.length_map]; exact (hX.row hkn).2
            have w2 : IntKind.i64.wrap ((k + 1 : Nat) : Int) = ((k + 1 : Nat) : Int) := wi (by omega)
            have l1 : k < (mrow X i).length := by rw [(hX.row hi).2]; exact hkn
            have l2 : i < (mrow X k).length := by rw [(hX.row hkn).2]; exact hi
            have hc := qcmp_call (rr (mrow (emb X) i) k) (rr (mrow (emb X) k) i) (rr_lb ((lb_emb X).row i) k) (rr_lb ((lb_emb X).row k) i) (by rw [emb_row, rr_map l1]; exact ofQ_ok (hX.1.at l1)) (by rw [emb_row, rr_map l2]; exact ofQ_ok (hX.1.at l2))
            have f1 : (rr (mrow (emb X) i) k).q = qel X i k := by rw [emb_row, rr_map l1, ofQ_q]; rfl
            have f2 : (rr (mrow (emb X) k) i).q = qel X k i := by rw [emb_row, rr_map l2, ofQ_q]; rfl
            rw [f1, f2] at hc
            refine AW.seq_ex (ι := Unit) (fun _ => [(0, matAV (emb X)), (13, .int .i64 n), (14, .int .i64 (i : Nat)), (3, .int .i64 (i : Nat)), (17, .int .i64 (i : Nat)), (18, .int .i64 (k : Nat))]) (fun _ => Mem.emp) (fun _ => qel X i k = qel X k i) ?_ ?_
            · (repeat refine AW.seq ?_); refine AW.block ?_; (repeat refine AW.seq_k fun K hK => ?_); refine AW.rg ?_; simp; try (refine hK _ rfl ?_; clear hK; clear K)
              (repeat refine AW.seq_k fun K hK => ?_)
              refine AW.rd [0, 1, 2, 3, 4, 5, 6, 7, 8, 9, 10, 11, 12, 13, 14, 15, 16, 17, 18, 19] mix ?_
              simp [hi', hk', hi, hkn, hli, hlk]; try (refine hK _ rfl ?_; clear hK; clear K)
              refine CallK.pure hc ?_
              rintro _ ⟨c, rfl, hc1⟩
              simp; refine hK _ rfl ?_; clear hK; clear K; (repeat refine AW.seq_k fun K hK => ?_); refine AW.rg ?_; simp; try (refine hK _ rfl ?_; clear hK; clear K)
              (repeat refine AW.seq ?_)
              refine AW.cs (fun h0 => ?_) (fun h0 => ?_) rfl <;> (try simp at h0)
              · (repeat refine AW.seq_k fun K hK => ?_); refine AW.rg ?_; simp; try (refine hK _ rfl ?_; clear hK; clear K)
                refine AW.ret (ret_views (vs := [.bool false]) [.bool false] (by simp) (by simp) (.inl ⟨rfl, fun hs => ?_, rfl⟩))
                exact h0 (hc1.2 (hs i hi k hk))
              · refine AW.skip ?_; try simp
                exact hc1.1 h0
            rintro _ hk2
            (repeat refine AW.seq_k fun K hK => ?_); refine AW.rg ?_; simp [-Int.natCast_add, w2]; try (refine hK _ rfl ?_; clear hK; clear K)
            refine ⟨⟨hk, fun k' hk' => ?_⟩, by omega⟩
            rcases Nat.lt_succ_iff_lt_or_eq.1 hk' with h | rfl
            · exact q2 k' h
            · exact hk2
          · refine AW.exit ?_
            try simp
            exact fun k' hk' => q2 k' (by omega)
        rintro _ hi2
        (repeat refine AW.seq_k fun K hK => ?_); refine AW.rg ?_; simp [-Int.natCast_add, w1]; try (refine hK _ rfl ?_; clear hK; clear K)
        refine ⟨⟨hi, fun i' hi' => ?_⟩, by omega⟩
        rcases Nat.lt_succ_iff_lt_or_eq.1 hi' with h | rfl
        · exact g2 i' h
        · exact hi2
      · refine AW.exit ?_
        try simp
        exact fun i' hi' => g2 i' (by omega)
    rintro _ hs
    (repeat refine AW.seq_k fun K hK => ?_); refine AW.rg ?_; simp; try (refine hK _ rfl ?_; clear hK; clear K)
    exact AW.ret (ret_views (vs := [.bool true]) [.bool true] (by simp) (by simp) ⟨true, rfl, by simp [hs], rfl⟩)
  · refine AW.yes ?_ (by simp [hsq])
    (repeat refine AW.seq_k fun K hK => ?_); refine AW.rg ?_; simp; try (refine hK _ rfl ?_; clear hK; clear K)
    exact AW.ret (ret_views (vs := [.bool false]) [.bool false] (by simp) (by simp) ⟨false, rfl, by simp [hsq], rfl⟩)
end Go.Av
end
section
namespace Go.Av
open Go.Proofs
def eQ (n j : Nat) : List Rat := (List.replicate n 0).set j 1
theorem eQ_length (n j : Nat) : (eQ n j).length = n := by simp [eQ]
def formStep (by_ : List Rat) (d : Rat) (j t : Nat) : List Rat → Option (List Rat) := rowStep (fun _ k => divQ (qat by_ k) d) (j + 1 + t)
def formQ (n j : Nat) (l : List (List Rat)) : Option (List Rat) := iterO (formStep (mrow l j) (qel l j j) j) (n - (j + 1)) (eQ n j)
def sqRow (by_ : List Rat) (f : Rat) (j t : Nat) : List Rat → Option (List Rat) := rowStep (fun q k => lessQ q (qat by_ k) f) (j + 1 + t)
def splitStep (n j : Nat) (form : List Rat) (s : Nat) (l : List (List Rat)) : Option (List (List Rat)) := (iterO (sqRow (mrow l j) (qat form (j + 1 + s)) j) (n - (j + 1)) (mrow l (j + 1 + s))).map (l.set (j + 1 + s))
def splitQ (n j : Nat) (l : List (List Rat)) : Option (List Rat × List (List Rat)) := (formQ n j l).bind fun form => (iterO (splitStep n j form) (n - (j + 1)) l).map fun l' => (form, l')
def besideQ (row : List Rat) (j : Nat) : Option Nat := (List.range row.length).find? fun k => decide (j < k) && !decide (qat row k = 0)
def crossQ (n j k : Nat) (l : List (List Rat)) : Option (List Rat) :=
  ((addQ (qel l k k) 1).bind fun s => subQ 0 s).bind fun s => (addQ (qel l j k) (qel l j k)).bind fun d => (divQ s d).map fun t => ((eQ n j).set k 1).set j t
/-- An error, or nothing, or a vector. -/
def lowQ (n j : Nat) (l : List (List Rat)) : Option (Option (List Rat)) :=
  if signQ (qel l j j) < 0 then some (some (eQ n j)) else match besideQ (mrow l j) j with
    | none => some none
    | some k => (crossQ n j k l).map some
def dotStep (form v : List Rat) (i t : Nat) (s : Rat) : Option Rat := (mulQ (qat form (i + 1 + t)) (qat v (i + 1 + t))).bind (addQ s)
def dotQ (form v : List Rat) (i n : Nat) : Option Rat := iterO (dotStep form v i) (n - (i + 1)) 0
def extStep (fs : List (Option (List Rat))) (n j t : Nat) (v : List Rat) : Option (List Rat) :=
  match fs.getD (j - 1 - t) none with
  | none => some v
  | some form => (dotQ form v (j - 1 - t) n).bind fun s => (subQ 0 s).map (v.set (j - 1 - t))
def extQ (fs : List (Option (List Rat))) (n j : Nat) (v : List Rat) : Option (List Rat) := iterO (extStep fs n j) j v
inductive SqO where
  | err
  | vec (v : List Rat)
  | go (l : List (List Rat)) (ws : List Rat) (fs : List (Option (List Rat)))
def sqStep (n j : Nat) (l : List (List Rat)) (ws : List Rat) (fs : List (Option (List Rat))) : SqO :=
  if 0 < signQ (qel l j j) then match splitQ n j l with
    | none => .err
    | some z => .go z.2 (ws ++ [qel l j j]) (fs.set j (some z.1))
  else match lowQ n j l with
    | none => .err
    | some none => .go l ws fs
    | some (some v) => match extQ fs n j v with
      | none => .err
      | some v' => .vec v'
def sqIter (n : Nat) (l : List (List Rat)) : Nat → SqO
  | 0 => .go l [] (List.replicate n none)
  | j + 1 => match sqIter n l j with
    | .go l' ws fs => sqStep n j l' ws fs
    | r => r
/-- The error, the weights, the forms, the vector. -/
structure SqR where
  e : Int
  ws : List Rat
  fs : List (List Rat)
  v : List Rat
def sqOut : SqO → SqR
  | .err => ⟨2, [], [], []⟩
  | .vec v => ⟨0, [], [], v⟩
  | .go _ ws fs => ⟨0, ws, fs.filterMap id, []⟩
open Classical in
noncomputable def sqR (m : List (List RR)) : SqR :=
  if chk m ≠ 0 then ⟨chk m, [], [], []⟩ else if m.length = (mrow m 0).length ∧ symm (unq m) m.length then sqOut (sqIter m.length (unq m) m.length) else ⟨1, [], [], []⟩
/-- A vector or an error. -/
def VMode (e : Int) (v : List RR) (Z : Option (List Rat)) : Prop :=
  match Z with
  | some q => e = 0 ∧ v = q.map ofQ ∧ rowGood q
  | none => e = 2
theorem vmode_row {op : Rat → Nat → Option Rat} (hop : ∀ q k x, op q k = some x → Good x) {n k : Nat} {e e' : Int} {v : List RR} {y : RR} {Z : Option (List Rat)} (hn : v.length = n) (hk : k < n) (hM : VMode e v Z) (h1 : e ≠ 0 → e' = e) (h2 : e = 0 → match op (rr v k).q k with | some z => e' = 0 ∧ y = ofQ z | none => e' = 2) :
    VMode e' (v.set k y) (Z.bind (rowStep op k)) := by
  cases Z with
  | none => have : e = 2 := hM; exact (h1 (by omega)).trans this
  | some q =>
    obtain ⟨m1, rfl, m3⟩ : e = 0 ∧ v = q.map ofQ ∧ rowGood q := hM
    have hkq : k < q.length := by simpa using (show k < (q.map ofQ).length by omega)
    have h2 := h2 m1
    rw [rr_map hkq, ofQ_q] at h2
    show VMode e' _ (rowStep op k q)
    unfold rowStep
    cases ho : op (qat q k) k with
    | none => rw [ho] at h2; exact h2
    | some z =>
      rw [ho] at h2
      obtain ⟨e1, rfl⟩ := h2
      exact ⟨e1, by rw [List.map_set], good_set m3 k (hop _ _ _ ho)⟩
theorem VMode.to {e : Int} {v : List RR} {Z Z' : Option (List Rat)} (h : VMode e v Z) (hZ : Z' = Z) : VMode e v Z' := hZ ▸ h
theorem VMode.ok {e : Int} {v : List RR} {Z : Option (List Rat)} (h : VMode e v Z) (he : e = 0) {k : Nat} (hk : k < v.length) : (rr v k).ok = true := by
  cases Z with
  | none => have : e = 2 := h; omega
  | some q =>
    obtain ⟨_, rfl, m3⟩ : e = 0 ∧ v = q.map ofQ ∧ rowGood q := h
    have hkq : k < q.length := by simpa using hk
    rw [rr_map hkq]
    refine ofQ_ok (m3 _ ?_)
    unfold qat
    rw [List.getD_eq_getElem?_getD, List.getElem?_eq_getElem hkq]
    exact List.getElem_mem hkq
theorem rowGood.at {r : List Rat} (h : rowGood r) {k : Nat} (hk : k < r.length) : Good (qat r k) := by
  unfold qat
  rw [List.getD_eq_getElem?_getD, List.getElem?_eq_getElem hk]
  exact h _ (List.getElem_mem hk)
theorem rowGood_e (n j : Nat) : rowGood (eQ n j) := by
  intro q hq
  unfold eQ at hq
  rcases List.mem_or_eq_of_mem_set hq with h | rfl
  · rw [List.mem_replicate] at h; rw [h.2]; exact good_zero
  · exact good_one
theorem form_keep {by_ : List Rat} {d : Rat} (hd : d ≠ 0) {n j : Nat} {t : Nat} {v v' : List Rat} (h : rowGood v ∧ v.length = n) (he : iterO (formStep by_ d j) t v = some v') : rowGood v' ∧ v'.length = n :=
  iter_keep (p := fun row => rowGood row ∧ row.length = n) (fun k s t hs hst => rowStep_keep (fun q k x hx => good_div hd hx) hs hst) h he
theorem sqRow_keep {by_ : List Rat} {f : Rat} {n j : Nat} {t : Nat} {v v' : List Rat} (h : rowGood v ∧ v.length = n) (he : iterO (sqRow by_ f j) t v = some v') : rowGood v' ∧ v'.length = n :=
  iter_keep (p := fun row => rowGood row ∧ row.length = n) (fun k s t hs hst => rowStep_keep (fun q k x hx => good_less hx) hs hst) h he
theorem splits_keep {n j : Nat} {form : List Rat} : ∀ {s : Nat} {l l' : List (List Rat)}, j + 1 + s ≤ n → matGood n n l → iterO (splitStep n j form) s l = some l' → matGood n n l' ∧ mrow l' j = mrow l j
  | 0, l, l', _, h, he => by cases he; exact ⟨h, rfl⟩
  | s + 1, l, l', hs, h, he => by
    rw [iterO_succ] at he
    cases hm : iterO (splitStep n j form) s l with
    | none => rw [hm] at he; cases he
    | some U =>
      rw [hm] at he
      obtain ⟨k1, k2⟩ := splits_keep (by omega) h hm
      replace he : (iterO (sqRow (mrow U j) (qat form (j + 1 + s)) j) (n - (j + 1)) (mrow U (j + 1 + s))).map (U.set (j + 1 + s)) = some l' := he
      cases hr : iterO (sqRow (mrow U j) (qat form (j + 1 + s)) j) (n - (j + 1)) (mrow U (j + 1 + s)) with
      | none => rw [hr] at he; cases he
      | some row =>
        rw [hr] at he
        cases he
        refine ⟨k1.set _ (sqRow_keep (k1.row (by omega)) hr), ?_⟩
        rw [mrow_set (by rw [k1.2.2]; omega), if_neg (by omega), k2]
end Go.Av
end
section
namespace Go.Av
open Go.Proofs
def sqY (n j : Nat) (Zf : Option (List Rat)) (l : List (List Rat)) (s : Nat) : Option (List Rat × List (List Rat)) := Zf.bind fun f => (iterO (splitStep n j f) s l).map fun X => (f, X)
def sqZ (n j : Nat) (Zf : Option (List Rat)) (l : List (List Rat)) (s : Nat) : Option (List (List Rat)) := (sqY n j Zf l s).map Prod.snd
structure VecS where
  x : AV
  e : Int
  v : List RR
def splitOut (c B : Nat) (bs : List Nat) (n j : Nat) (l : List (List Rat)) (v : AV) (M' : Mem) : Prop :=
  ∃ bv M1 form rows x' e', v = .osl bv 4 0 n ∧ M' = M1.set bv ⟨36, 4, rrs form⟩ ∧ RedM M1 c B bs rows x' .nil [] [] ∧ M1 bv = none ∧ isE x' e' ∧ form.length = n ∧ (∀ y ∈ form, y.Lb) ∧
    match splitQ n j l with
    | some z => e' = 0 ∧ form = z.1.map ofQ ∧ rowGood z.1 ∧ rows = emb z.2 ∧ matGood n n z.2
    | none => e' = 2
set_option maxHeartbeats 1000000
theorem split_call (M : Mem) (c B : Nat) (bs : List Nat) (l : List (List Rat)) (x : AV) (n j : Nat) (hR : RedM M c B bs (emb l) x .nil [] []) (hx : isE x 0) (hG : matGood n n l) (hj : j < n) (hn : n ≤ 64) (hd : qel l j j ≠ 0) :
    ACall Tryz.prog 68 [.ptr c 1 0 0, .osl B 1 0 n, .int .i64 j] M (splitOut c B bs n j l) := by
  have hvec := vector_call n (by omega)
  have hone := whole_call 1 (by omega) (by omega)
  rw [intQ_one] at hone
  have hjE : j < (emb l).length := by rw [emb_length, hG.2.2]; exact hj
  have hlE : (mrow (emb l) j).length = n := by rw [emb_row, List.length_map]; exact (hG.row hj).2
  have hBc := Ne.symm hR.cB
  have hcj := hR.nc hjE
  have w1 : IntKind.i64.wrap ((j + 1 : Nat) : Int) = ((j + 1 : Nat) : Int) := wi (by omega)
  refine acall_S Tryz.func68 rfl rfl 90 rfl (Nat.le_of_ble_eq_true rfl) ?_
  (repeat refine AW.seq_k fun K hK => ?_); refine AW.rg ?_; simp [argsL]; try (refine hK _ rfl ?_; clear hK; clear K)
  (repeat refine AW.seq_k fun K hK => ?_); refine AW.rg ?_; simp; try (refine hK _ rfl ?_; clear hK; clear K)
  refine CallK.make hvec ?_
  rintro bv _ _ ⟨rfl, rfl⟩ hbv _
  simp; refine hK _ rfl ?_; clear hK; clear K
  obtain ⟨v1, v2, v3, _⟩ := hR.fresh hbv
  have hjv : nb bs j ≠ bv := fun h => v3 (h ▸ nb_mem (by rw [hR.mat.len]; exact hjE))
  (repeat refine AW.seq_k fun K hK => ?_); refine AW.rg ?_; simp; try (refine hK _ rfl ?_; clear hK; clear K)
  refine CallK.val hone ?_; simp [hj]; refine hK _ rfl ?_; clear hK; clear K
  have e0 : (List.replicate n (ofQ 0)).set j (ofQ 1) = (eQ n j).map ofQ := by unfold eQ; rw [List.map_set, List.map_replicate]
  rw [e0]
  refine AW.seq_ex (ι := VecS) (fun s => [(0, .ptr c 1 0 0), (1, .osl B 1 0 n), (2, .int .i64 j), (7, .osl bv 4 0 n)]) (fun s => (M.set c ⟨61, 1, [s.x]⟩).set bv ⟨36, 4, rrs s.v⟩) (fun s => isE s.x s.e ∧ (∀ y ∈ s.v, y.Lb) ∧ s.v.length = n ∧ VMode s.e s.v (formQ n j l)) ?_ ?_
  · (repeat refine AW.seq_k fun K hK => ?_); refine AW.rg ?_; simp [-Int.natCast_add, w1]; try (refine hK _ rfl ?_; clear hK; clear K)
    refine AW.block (AW.loopS (ι := Nat × VecS) (fun z => [(0, .ptr c 1 0 0), (1, .osl B 1 0 n), (2, .int .i64 j), (7, .osl bv 4 0 n), (8, .int .i64 ((j + 1 + z.1 : Nat) : Int))]) (fun z => (M.set c ⟨61, 1, [z.2.x]⟩).set bv ⟨36, 4, rrs z.2.v⟩) (fun z => z.1 ≤ n - (j + 1) ∧ isE z.2.x z.2.e ∧ (∀ y ∈ z.2.v, y.Lb) ∧ z.2.v.length = n ∧ VMode z.2.e z.2.v (iterO (formStep (mrow l j) (qel l j j) j) z.1 (eQ n j))) (fun z => n - z.1) (0, ⟨x, 0, (eQ n j).map ofQ⟩) ⟨by simp, hx, ?_, by rw [List.length_map, eQ_length], rfl, rfl, rowGood_e n j⟩ ?_ (by simp [-Int.natCast_add]) ?_)
    · intro y hy
      obtain ⟨q, _, rfl⟩ := List.mem_map.1 hy
      exact ofQ_lb q
    · rw [Mem.set_self hR.cell]
    rintro ⟨t, x, e, v⟩ ⟨g1, g2, g3, g4, g5⟩
    simp only at g1 g2 g3 g4 g5
    generalize hk : j + 1 + t = k at *
    (repeat refine AW.seq_k fun K hK => ?_); refine AW.rg ?_; simp [-Int.natCast_add]; try (refine hK _ rfl ?_; clear hK; clear K)
    (repeat refine AW.seq ?_)
    refine AW.cs (fun hkn => ?_) (fun hkn => ?_) rfl <;> (try simp at hkn)
    · refine AW.skip ?_
      try simp [-Int.natCast_add]
      refine hK _ rfl ?_; clear hK; clear K; (repeat refine AW.seq ?_); refine AW.block ?_
      have w2 : IntKind.i64.wrap ((k + 1 : Nat) : Int) = ((k + 1 : Nat) : Int) := wi (by omega)
      have hlk : k < (mrow l j).length := by rw [(hG.row hj).2]; exact hkn
      have hlj : j < (mrow l j).length := by rw [(hG.row hj).2]; exact hj
      have e1 : rr (mrow (emb l) j) k = ofQ (qat (mrow l j) k) := by rw [emb_row, rr_map hlk]
      have e2 : rr (mrow (emb l) j) j = ofQ (qel l j j) := by rw [emb_row, rr_map hlj]; rfl
      have y1 : Good (qat (mrow l j) k) := (hG.row hj).1.at hlk
      have y2 : Good (qel l j j) := hG.1.at hlj
      (repeat refine AW.seq_k fun K hK => ?_)
      refine AW.rdT [] [] [] [B, nb bs j] [0, 1, 2, 3, 4, 5, 6, 7, 8, 9, 10, 11, 12, 13, 14, 15, 16, 17, 18, 19] mix (by simp [hj, hkn, hBc, Ne.symm v2, hR.mat.top, ↓hR.mat.get hjE, hR.mat.row j hjE, hlE, hcj, hjv, e1, e2]) (by simp [hj, hkn, hBc, Ne.symm v2, hR.mat.top, ↓hR.mat.get hjE, hR.mat.row j hjE, hlE, hcj, hjv, e1, e2]) (by simp [hj, hkn, hBc, Ne.symm v2, hR.mat.top, ↓hR.mat.get hjE, hR.mat.row j hjE, hlE, hcj, hjv, e1, e2]) (by simp [hj, hkn, hBc, Ne.symm v2, hR.mat.top, ↓hR.mat.get hjE, hR.mat.row j hjE, hlE, hcj, hjv, e1, e2]) (by simp [hj, hkn, hBc, Ne.symm v2, hR.mat.top, ↓hR.mat.get hjE, hR.mat.row j hjE, hlE, hcj, hjv, e1, e2]) ?_
      simp [-Int.natCast_add, hj, hkn, hBc, Ne.symm v2, hR.mat.top, ↓hR.mat.get hjE, hR.mat.row j hjE, hlE, hcj, hjv, e1, e2]; try (refine hK _ rfl ?_; clear hK; clear K)
      refine ndiv_K (c := c) (x := x) (e := e) (a := ofQ (qat (mrow l j) k)) (b := ofQ (qel l j j)) (by simp [Ne.symm v1]) (by simp [hR.cB, Ne.symm hcj]) g2 (ofQ_lb _) (ofQ_lb _) (fun _ => ⟨ofQ_ok y1, ofQ_ok y2, by rw [ofQ_q]; exact hd⟩) ?_
      rw [ofQ_q, ofQ_q]
      intro x' hx'
      simp [-Int.natCast_add, hkn, g4, v1, Ne.symm v1]; (repeat refine AW.seq_k fun K hK => ?_); refine AW.rg ?_; simp [-Int.natCast_add, w2]; try (refine hK _ rfl ?_; clear hK; clear K)
      have hs := vmode_row (op := fun _ k => divQ (qat (mrow l j) k) (qel l j j)) (e' := (nOut e (ofQ (qat (mrow l j) k)) (divQ (qat (mrow l j) k) (qel l j j))).1) (y := (nOut e (ofQ (qat (mrow l j) k)) (divQ (qat (mrow l j) k) (qel l j j))).2) (fun q k x h => good_div hd h) g4 hkn g5 (fun he => by rw [nOut_ne he]) (fun he => nOut_eq he)
      refine ⟨t + 1, ⟨x', _, _⟩, ⟨by omega, hx', lb_set g3 k (nOut_lb (ofQ_lb _)), by rw [List.length_set]; exact g4, hs.to ?_⟩, by omega, ?_, by omega⟩
      · rw [iterO_succ]; subst hk
        rfl
      · rw [set_four (Ne.symm v1)]
    · refine AW.exit ?_
      try simp [-Int.natCast_add]
      have : t = n - (j + 1) := by omega
      subst this
      exact ⟨⟨x, e, v⟩, ⟨g2, g3, g4, g5⟩, rfl⟩
  rintro ⟨x1, e1, form⟩ ⟨f1, f2, f3, f4⟩
  simp only at f1 f2 f3 f4
  generalize hZf : formQ n j l = Zf at *
  have hfk : ∀ f, Zf = some f → rowGood f ∧ f.length = n := fun f hf => by
    rw [hf] at hZf
    exact form_keep hd ⟨rowGood_e n j, eQ_length n j⟩ hZf
  refine AW.seq_ex (ι := RowS) (fun s => [(0, .ptr c 1 0 0), (1, .osl B 1 0 n), (2, .int .i64 j), (7, .osl bv 4 0 n)]) (fun s => s.M.set bv ⟨36, 4, rrs form⟩) (fun s => InvW c B bs .nil [] [] n n (sqZ n j Zf l (n - (j + 1))) s) ?_ ?_
  · (repeat refine AW.seq_k fun K hK => ?_); refine AW.rg ?_; simp [-Int.natCast_add, w1]; try (refine hK _ rfl ?_; clear hK; clear K)
    refine AW.block (AW.loopS (ι := Nat × RowS) (fun z => [(0, .ptr c 1 0 0), (1, .osl B 1 0 n), (2, .int .i64 j), (7, .osl bv 4 0 n), (9, .int .i64 ((j + 1 + z.1 : Nat) : Int))]) (fun z => z.2.M.set bv ⟨36, 4, rrs form⟩) (fun z => z.1 ≤ n - (j + 1) ∧ InvW c B bs .nil [] [] n n (sqZ n j Zf l z.1) z.2) (fun z => n - z.1) (0, ⟨M.set c ⟨61, 1, [x1]⟩, emb l, x1, e1⟩) ⟨by simp, hR.setE x1, f1, lb_emb l, dim_emb hG.2.1, by rw [emb_length, hG.2.2], ?_⟩ rfl (by simp [-Int.natCast_add]) ?_)
    · cases Zf with
      | none => exact f4
      | some f => exact ⟨f4.1, rfl, hG.1⟩
    rintro ⟨s, M1, rows, x, e⟩ ⟨g1, g2, g3, g4, g5, g6, g7⟩
    simp only at g1 g2 g3 g4 g5 g6 g7
    generalize hi : j + 1 + s = i at *
    (repeat refine AW.seq_k fun K hK => ?_); refine AW.rg ?_; simp [-Int.natCast_add]; try (refine hK _ rfl ?_; clear hK; clear K)
    (repeat refine AW.seq ?_)
    refine AW.cs (fun hin => ?_) (fun hin => ?_) rfl <;> (try simp at hin)
    · refine AW.skip ?_
      try simp [-Int.natCast_add]
      refine hK _ rfl ?_; clear hK; clear K
      have w3 : IntKind.i64.wrap ((i + 1 : Nat) : Int) = ((i + 1 : Nat) : Int) := wi (by omega)
      unfold sqZ at g7
      generalize hY : sqY n j Zf l s = Y at g7
      have hY1 : (sqZ n j Zf l (s + 1)) = Y.bind fun p => (iterO (sqRow (mrow p.2 j) (qat p.1 i) j) (n - (j + 1)) (mrow p.2 i)).map (p.2.set i) := by
        rw [← hY]
        unfold sqZ sqY
        cases Zf with
        | none => rfl
        | some f =>
          show ((iterO (splitStep n j f) (s + 1) l).map _).map _ = ((iterO (splitStep n j f) s l).map _).bind _
          rw [iterO_succ]
          cases iterO (splitStep n j f) s l with
          | none => rfl
          | some X =>
            show ((splitStep n j f s X).map _).map _ = (iterO (sqRow (mrow X j) (qat f i) j) (n - (j + 1)) (mrow X i)).map (X.set i)
            unfold splitStep
            rw [hi]
            cases iterO (sqRow (mrow X j) (qat f i) j) (n - (j + 1)) (mrow X i) <;> rfl
      have hYl : ∀ p, Y = some p → e = 0 ∧ rows = emb p.2 ∧ matGood n n p.2 ∧ mrow p.2 j = mrow l j ∧ form = p.1.map ofQ ∧ rowGood p.1 ∧ p.1.length = n := by
        intro p hp
        subst hp
        obtain ⟨m1, m2, _⟩ : e = 0 ∧ rows = emb p.2 ∧ GoodM p.2 := g7
        cases Zf with
        | none => unfold sqY at hY; cases hY
        | some f =>
          replace hY : (iterO (splitStep n j f) s l).map (fun X => (f, X)) = some p := hY
          cases hit : iterO (splitStep n j f) s l with
          | none => rw [hit] at hY; cases hY
          | some X =>
            rw [hit] at hY
            cases hY
            obtain ⟨k1, k2⟩ := splits_keep (by omega) hG hit
            exact ⟨m1, m2, k1, k2, f4.2.1, hfk f rfl⟩
      refine AW.seq_ex (ι := RowS) (fun s => [(0, .ptr c 1 0 0), (1, .osl B 1 0 n), (2, .int .i64 j), (7, .osl bv 4 0 n), (9, .int .i64 (i : Nat))]) (fun s => s.M.set bv ⟨36, 4, rrs form⟩) (fun z => InvW c B bs .nil [] [] n n (sqZ n j Zf l (s + 1)) z) ?_ ?_
      · (repeat refine AW.seq ?_); refine AW.block ?_; (repeat refine AW.seq_k fun K hK => ?_); refine AW.rg ?_; simp [-Int.natCast_add, w1]; try (refine hK _ rfl ?_; clear hK; clear K)
        refine AW.block (AW.loopS (ι := Nat × RowS) (fun z => [(0, .ptr c 1 0 0), (1, .osl B 1 0 n), (2, .int .i64 j), (7, .osl bv 4 0 n), (9, .int .i64 (i : Nat)), (10, .int .i64 ((j + 1 + z.1 : Nat) : Int))]) (fun z => z.2.M.set bv ⟨36, 4, rrs form⟩) (fun z => z.1 ≤ n - (j + 1) ∧ InvW c B bs .nil [] [] n n (Y.bind fun p => (iterO (sqRow (mrow p.2 j) (qat p.1 i) j) z.1 (mrow p.2 i)).map (p.2.set i)) z.2) (fun z => n - z.1) (0, ⟨M1, rows, x, e⟩) ⟨by simp, g2, g3, g4, g5, g6, ?_⟩ rfl (by simp [-Int.natCast_add]) ?_)
        · cases hYc : Y with
          | none => rw [hYc] at g7; exact g7
          | some p =>
            obtain ⟨m1, m2, m3, _⟩ := hYl p hYc
            show Mode e rows (some (p.2.set i (mrow p.2 i)))
            rw [mrow_eq (by rw [m3.2.2]; exact hin), List.set_getElem_self]
            exact ⟨m1, m2, m3.1⟩
        clear g2 g3 g4 g5 g6 g7
        have hYm : ∀ p, Y = some p → matGood n n p.2 ∧ form = p.1.map ofQ ∧ rowGood p.1 ∧ p.1.length = n := fun p hp => by
          obtain ⟨_, _, m3, _, m5, m6, m7⟩ := hYl p hp
          exact ⟨m3, m5, m6, m7⟩
        clear hYl
        rintro ⟨t, M1, rows, x, e⟩ ⟨g1', g2, g3, g4, g5, g6, g7⟩
        simp only at g1' g2 g3 g4 g5 g6 g7
        generalize hk : j + 1 + t = k at *
        (repeat refine AW.seq_k fun K hK => ?_); refine AW.rg ?_; simp [-Int.natCast_add]; try (refine hK _ rfl ?_; clear hK; clear K)
        (repeat refine AW.seq ?_)
        refine AW.cs (fun hkn => ?_) (fun hkn => ?_) rfl <;> (try simp at hkn)
        · refine AW.skip ?_
          try simp [-Int.natCast_add]
          refine hK _ rfl ?_; clear hK; clear K; (repeat refine AW.seq ?_); refine AW.block ?_
          have hi' : i < rows.length := by omega
          have hj' : j < rows.length := by omega
          have hli := g5 i hi'
          have hlj := g5 j hj'
          have nI := g2.nc hi'
          have nJ := g2.nc hj'
          have n0 := g2.mat.ne hi'
          have niv : nb bs i ≠ bv := fun h => v3 (h ▸ nb_mem (by rw [g2.mat.len]; exact hi'))
          have w5 : IntKind.i64.wrap ((k + 1 : Nat) : Int) = ((k + 1 : Nat) : Int) := wi (by omega)
          have hij : j ≠ i := by omega
          have hif : i < form.length := by omega
          have hb : e = 0 → (rr form i).q = qat (Y.getD ([], [])).1 i ∧ (rr (mrow rows j) k).q = qat (mrow (Y.getD ([], [])).2 j) k := by
            intro he
            cases hYc : Y with
            | none => rw [hYc] at g7; have : e = 2 := g7; omega
            | some p =>
              rw [hYc] at g7
              obtain ⟨k3, k4, k5, k6⟩ := hYm p hYc
              replace g7 : Mode e rows ((iterO (sqRow (mrow p.2 j) (qat p.1 i) j) t (mrow p.2 i)).map (p.2.set i)) := g7
              show (rr form i).q = qat p.1 i ∧ _ = qat (mrow p.2 j) k
              refine ⟨by rw [k4, rr_map (by omega), ofQ_q], ?_⟩
              cases hit : iterO (sqRow (mrow p.2 j) (qat p.1 i) j) t (mrow p.2 i) with
              | none => rw [hit] at g7; have : e = 2 := g7; omega
              | some row =>
                rw [hit] at g7
                obtain ⟨_, m2, _⟩ : e = 0 ∧ rows = emb (p.2.set i row) ∧ GoodM (p.2.set i row) := g7
                rw [m2, emb_row, mrow_set (by rw [k3.2.2]; exact hin), if_neg hij, rr_map (by rw [(k3.row hj).2]; exact hkn), ofQ_q]
          have hfok : e = 0 → (rr form i).ok = true := by
            intro he
            cases hYc : Y with
            | none => rw [hYc] at g7; have : e = 2 := g7; omega
            | some p =>
              obtain ⟨_, k4, k5, k6⟩ := hYm p hYc
              rw [k4, rr_map (by omega)]
              exact ofQ_ok (k5.at (by omega))
          (repeat refine AW.seq_k fun K hK => ?_)
          refine AW.rdT [] [] [] [B, nb bs i, nb bs j, bv] [0, 1, 2, 3, 4, 5, 6, 7, 8, 9, 10, 11, 12, 13, 14, 15, 16, 17, 18, 19, 20, 21, 22, 23, 24, 25, 26, 27, 28] mix (by simp [hin, hj, hkn, hif, f3, Ne.symm v2, niv, hjv, g2.mat.top, ↓g2.mat.get hi', ↓g2.mat.get hj', g2.mat.row i hi', g2.mat.row j hj', hli, hlj]) (by simp [hin, hj, hkn, hif, f3, Ne.symm v2, niv, hjv, g2.mat.top, ↓g2.mat.get hi', ↓g2.mat.get hj', g2.mat.row i hi', g2.mat.row j hj', hli, hlj]) (by simp [hin, hj, hkn, hif, f3, Ne.symm v2, niv, hjv, g2.mat.top, ↓g2.mat.get hi', ↓g2.mat.get hj', g2.mat.row i hi', g2.mat.row j hj', hli, hlj]) (by simp [hin, hj, hkn, hif, f3, Ne.symm v2, niv, hjv, g2.mat.top, ↓g2.mat.get hi', ↓g2.mat.get hj', g2.mat.row i hi', g2.mat.row j hj', hli, hlj]) (by simp [hin, hj, hkn, hif, f3, Ne.symm v2, niv, hjv, g2.mat.top, ↓g2.mat.get hi', ↓g2.mat.get hj', g2.mat.row i hi', g2.mat.row j hj', hli, hlj]) ?_
          simp [-Int.natCast_add, hin, hj, hkn, hif, f3, Ne.symm v2, niv, hjv, g2.mat.top, ↓g2.mat.get hi', ↓g2.mat.get hj', g2.mat.row i hi', g2.mat.row j hj', hli, hlj]; try (refine hK _ rfl ?_; clear hK; clear K)
          refine nmul_K (a := rr form i) (b := rr (mrow rows j) k) (x := x) (e := e) (by simp [Ne.symm v1, g2.cell]) (by simp [hR.cB, Ne.symm nJ, Ne.symm nI, Ne.symm v1]) g3 (rr_lb f2 i) (rr_lb (g4.row j) k) (fun he => ⟨hfok he, mode_ok g7 he (by rw [hlj]; exact hkn)⟩) ?_
          intro x1 hx1
          have hplb : (nOut e (rr form i) (mulQ (rr form i).q (rr (mrow rows j) k).q)).2.Lb := nOut_lb (rr_lb f2 i)
          have hlo := less_out (a := rr (mrow rows i) k) hb (e1 := (nOut e (rr form i) (mulQ (rr form i).q (rr (mrow rows j) k).q)).1) (p := (nOut e (rr form i) (mulQ (rr form i).q (rr (mrow rows j) k).q)).2) rfl
          have hlk := less_ok (b := rr form i) (f := rr (mrow rows j) k) (e := e) (fun z hz => good_mul hz) (e1 := (nOut e (rr form i) (mulQ (rr form i).q (rr (mrow rows j) k).q)).1) (p := (nOut e (rr form i) (mulQ (rr form i).q (rr (mrow rows j) k).q)).2) rfl
          generalize (nOut e (rr form i) (mulQ (rr form i).q (rr (mrow rows j) k).q)) = ep at *
          obtain ⟨e1, p⟩ := ep
          simp only at hx1 hplb hlo hlk; simp [-Int.natCast_add]
          refine nsub_K (a := rr (mrow rows i) k) (b := p) (x := x1) (e := e1) (by simp) (by simp [hR.cB, Ne.symm nJ, Ne.symm nI, Ne.symm v1]) hx1 (rr_lb (g4.row i) k) hplb (fun he => ⟨mode_ok g7 (hlk he).1 (by rw [hli]; exact hkn), (hlk he).2⟩) ?_
          intro x2 hx2
          simp [-Int.natCast_add, hin, hkn, nI, nJ, n0, niv, Ne.symm v1, g2.mat.row i hi', hli]; (repeat refine AW.seq_k fun K hK => ?_); refine AW.rg ?_; simp [-Int.natCast_add, w5]; try (refine hK _ rfl ?_; clear hK; clear K)
          have hs := InvW.row (op := fun q k => lessQ q (qat (mrow (Y.getD ([], [])).2 j) k) (qat (Y.getD ([], [])).1 i)) (y := (nOut e1 (rr (mrow rows i) k) (subQ (rr (mrow rows i) k).q p.q)).2) (fun q k x hx => good_less hx) (s := ⟨M1, rows, x, e⟩) ⟨g2, g3, g4, g5, g6, g7⟩ hin hkn (Z := Y.bind fun p => (iterO (sqRow (mrow p.2 j) (qat p.1 i) j) t (mrow p.2 i)).map fun row => (p.2, row)) (by
            cases Y with
            | none => rfl
            | some p =>
              show (iterO (sqRow (mrow p.2 j) (qat p.1 i) j) t (mrow p.2 i)).map _ = _
              cases hit : iterO (sqRow (mrow p.2 j) (qat p.1 i) j) t (mrow p.2 i) <;> simp [hit]) hx2 (nOut_lb (rr_lb (g4.row i) k)) hlo.1 hlo.2
          refine ⟨t + 1, _, ⟨by omega, hs.to ?_⟩, by omega, ?_, by omega⟩
          · cases Y with
            | none => rfl
            | some p =>
              show (iterO (sqRow (mrow p.2 j) (qat p.1 i) j) (t + 1) (mrow p.2 i)).map _ = _
              rw [iterO_succ]
              cases hit : iterO (sqRow (mrow p.2 j) (qat p.1 i) j) t (mrow p.2 i) with
              | none => simp [hit]
              | some row => simp [hit, sqRow, hk]
          · rw [set_comm' M1 _ _ v1, set_comm' _ _ _ (Ne.symm niv)]
        · refine AW.exit ?_
          try simp [-Int.natCast_add]
          have : t = n - (j + 1) := by omega
          subst this
          exact ⟨⟨M1, rows, x, e⟩, InvW.to ⟨g2, g3, g4, g5, g6, g7⟩ hY1, rfl⟩
      rintro ⟨M1, rows, x, e⟩ hs
      have w4 : j + 1 + (s + 1) = i + 1 := by omega
      (repeat refine AW.seq_k fun K hK => ?_); refine AW.rg ?_; simp [-Int.natCast_add, w3]; try (refine hK _ rfl ?_; clear hK; clear K)
      exact ⟨s + 1, ⟨M1, rows, x, e⟩, ⟨by omega, hs⟩, by omega, rfl, by rw [w4]⟩
    · refine AW.exit ?_
      try simp [-Int.natCast_add]
      have : s = n - (j + 1) := by omega
      subst this
      exact ⟨⟨M1, rows, x, e⟩, ⟨g2, g3, g4, g5, g6, g7⟩, rfl⟩
  rintro ⟨M1, rows, x, e⟩ ⟨g1, g2, g3, g4, g5, g6⟩
  simp only at g1 g2 g3 g4 g5 g6; simp only; (repeat refine AW.seq_k fun K hK => ?_); refine AW.rg ?_; simp; try (refine hK _ rfl ?_; clear hK; clear K)
  have hnone : M1 bv = none := by
    cases h : M1 bv with
    | none => rfl
    | some y =>
      have := g1.only bv (by rw [h]; simp)
      simp [v1, v2, v3] at this
  have hones : ∀ b y, (M1.set bv ⟨36, 4, rrs form⟩) b = some y → ∀ v ∈ y.l, v.cells.all AV.one = true := by
    intro b y hy
    simp only [set_at] at hy
    split at hy
    · cases hy; exact rrs_ok form
    · exact g1.ones g2 b y hy
  refine AW.ret (ret_mem rfl hones ⟨bv, M1, form, rows, x, e, rfl, rfl, g1, hnone, g2, f3, f2, ?_⟩)
  unfold splitQ
  rw [hZf]
  cases Zf with
  | none => exact g6
  | some f =>
    unfold sqZ sqY at g6
    replace g6 : Mode e rows (((iterO (splitStep n j f) (n - (j + 1)) l).map fun X => (f, X)).map Prod.snd) := g6
    show match (iterO (splitStep n j f) (n - (j + 1)) l).map fun l' => (f, l') with
      | some z => e = 0 ∧ form = z.1.map ofQ ∧ rowGood z.1 ∧ rows = emb z.2 ∧ matGood n n z.2
      | none => e = 2
    cases hit : iterO (splitStep n j f) (n - (j + 1)) l with
    | none => rw [hit] at g6; exact g6
    | some X =>
      rw [hit] at g6
      obtain ⟨m1, m2, m3⟩ : e = 0 ∧ rows = emb X ∧ GoodM X := g6
      exact ⟨m1, f4.2.1, (hfk f rfl).1, m2, (splits_keep (by omega) hG hit).1⟩
end Go.Av
end
section
namespace Go.Av
open Go.Proofs
theorem besideQ_none {row : List Rat} {j : Nat} (h : ∀ k, j < k → k < row.length → qat row k = 0) : besideQ row j = none := by
  unfold besideQ
  rw [List.find?_eq_none]
  intro k hk
  have hk := List.mem_range.1 hk
  by_cases hr : j < k
  · simp [h k hr hk]
  · simp [hr]
theorem besideQ_some {row : List Rat} {j k : Nat} (h : ∀ i, j < i → i < k → qat row i = 0) (hj : j < k) (hk : k < row.length) (hs : qat row k ≠ 0) : besideQ row j = some k := by
  unfold besideQ
  rw [List.find?_range_eq_some]
  refine ⟨by simp [hj, hs], List.mem_range.2 hk, fun i hi => ?_⟩
  by_cases hr : j < i
  · simp [h i hr hi]
  · simp [hr]
theorem besideQ_prop {row : List Rat} {j k : Nat} (h : besideQ row j = some k) : j < k ∧ k < row.length ∧ qat row k ≠ 0 := by
  obtain ⟨h1, h2, _⟩ := find_range h
  simp at h2
  exact ⟨h2.1, h1, h2.2⟩
def besideI (row : List Rat) (j : Nat) : Int := match besideQ row j with
  | some k => k
  | none => -1
theorem beside_call (row : List Rat) (hg : rowGood row) (j n : Nat) (hl : row.length = n) (hj : j < n) (hn : n ≤ 64) : ACall Tryz.prog 103 [rowAV (row.map ofQ), .int .i64 j] Mem.emp fun v m => v = .int .i64 (besideI row j) ∧ m = Mem.emp := by
  have hlR : (row.map ofQ).length = n := by rw [List.length_map, hl]
  have w1 : IntKind.i64.wrap ((j + 1 : Nat) : Int) = ((j + 1 : Nat) : Int) := wi (by omega)
  refine acall_S Tryz.func103 rfl rfl 21 rfl (Nat.le_of_ble_eq_true rfl) ?_
  (repeat refine AW.seq_k fun K hK => ?_); refine AW.rg ?_; simp [argsL]; try (refine hK _ rfl ?_; clear hK; clear K)
  refine AW.seq_ex (ι := Unit) (fun _ => []) (fun _ => Mem.emp) (fun _ => ∀ k, j < k → k < n → qat row k = 0) ?_ ?_
  · (repeat refine AW.seq_k fun K hK => ?_); refine AW.rg ?_; simp [-Int.natCast_add, w1]; try (refine hK _ rfl ?_; clear hK; clear K)
    refine AW.block (AW.loopS (ι := Nat) (fun k => [(0, rowAV (row.map ofQ)), (1, .int .i64 j), (5, .int .i64 (k : Nat))]) (fun _ => Mem.emp) (fun k => j < k ∧ ∀ i, j < i → i < k → qat row i = 0) (fun k => n - k) (j + 1) ⟨by omega, by omega⟩ rfl (by simp [-Int.natCast_add]) ?_)
    rintro k ⟨g1, g2⟩
    (repeat refine AW.seq_k fun K hK => ?_); refine AW.rg ?_; simp [hlR]; try (refine hK _ rfl ?_; clear hK; clear K)
    (repeat refine AW.seq ?_)
    refine AW.cs (fun hk => ?_) (fun hk => ?_) rfl <;> (try simp at hk)
    · refine AW.skip ?_; try simp
      refine hK _ rfl ?_; clear hK; clear K
      have hkl : k < row.length := by omega
      have e1 : rr (row.map ofQ) k = ofQ (qat row k) := rr_map hkl
      have hs := rsign_call (ofQ (qat row k)) (ofQ_lb _)
      rw [signR_ofQ (hg.at hkl)] at hs
      have w2 : IntKind.i64.wrap ((k + 1 : Nat) : Int) = ((k + 1 : Nat) : Int) := wi (by omega)
      refine AW.seq_ex (ι := Unit) (fun _ => [(0, rowAV (row.map ofQ)), (1, .int .i64 j), (5, .int .i64 (k : Nat))]) (fun _ => Mem.emp) (fun _ => qat row k = 0) ?_ ?_
      · (repeat refine AW.seq ?_); refine AW.block ?_; (repeat refine AW.seq_k fun K hK => ?_); refine AW.rg ?_; simp [hlR, hk, e1]; try (refine hK _ rfl ?_; clear hK; clear K)
        refine CallK.val hs ?_; simp; refine hK _ rfl ?_; clear hK; clear K; (repeat refine AW.seq ?_)
        refine AW.cs (fun h0 => ?_) (fun h0 => ?_) rfl <;> (try simp at h0)
        · (repeat refine AW.seq_k fun K hK => ?_); refine AW.rg ?_; simp; try (refine hK _ rfl ?_; clear hK; clear K)
          have h0 : qat row k ≠ 0 := fun h => h0 (signQ_zero.2 h)
          refine AW.ret (ret_views (vs := [.int .i64 (k : Nat)]) [.int .i64 (k : Nat)] (by simp) (by simp) ⟨?_, rfl⟩)
          unfold besideI
          rw [besideQ_some g2 g1 hkl h0]
          rfl
        · refine AW.skip ?_; try simp
          exact signQ_zero.1 h0
      rintro _ h0
      (repeat refine AW.seq_k fun K hK => ?_); refine AW.rg ?_; simp [-Int.natCast_add, w2]; try (refine hK _ rfl ?_; clear hK; clear K)
      refine ⟨⟨by omega, fun i hi hi2 => ?_⟩, by omega⟩
      rcases Nat.lt_succ_iff_lt_or_eq.1 hi2 with h | rfl
      · exact g2 i hi h
      · exact h0
    · refine AW.exit ?_
      try simp
      exact fun i hi hi2 => g2 i hi (by omega)
  rintro _ hno
  (repeat refine AW.seq_k fun K hK => ?_); refine AW.rg ?_; simp; try (refine hK _ rfl ?_; clear hK; clear K)
  refine AW.ret (ret_views (vs := [.int .i64 (-1)]) [.int .i64 (-1)] (by simp) (by simp) ⟨?_, rfl⟩)
  unfold besideI
  rw [besideQ_none (fun k h1 h2 => hno k h1 (by omega))]
  rfl
/-- What low leaves: nothing, or a vector or an error. -/
def lowOut (M : Mem) (c n j : Nat) (l : List (List Rat)) (v : AV) (M' : Mem) : Prop :=
  match lowQ n j l with
  | some none => v = .nil ∧ M' = M
  | Z => ∃ bv w x' e', v = .osl bv 4 0 n ∧ M bv = none ∧ M' = (M.set c ⟨61, 1, [x']⟩).set bv ⟨36, 4, rrs w⟩ ∧ isE x' e' ∧ w.length = n ∧ (∀ y ∈ w, y.Lb) ∧ VMode e' w (Z.bind id)
theorem OneM.bin {e : Int} {a r : RR} {Z : Option Rat} (h : OneM e a Z) {op : Rat → Option Rat} (hop : ∀ q z, op q = some z → Good z) : OneM (nOut e r (op a.q)).1 (nOut e r (op a.q)).2 (Z.bind op) := by
  cases Z with
  | none =>
    have : e = 2 := h
    rw [nOut_ne (by omega)]; exact h
  | some q =>
    obtain ⟨h1, rfl, h3⟩ : e = 0 ∧ a = ofQ q ∧ Good q := h
    rw [ofQ_q]
    show OneM _ _ (op q)
    cases ho : op q with
    | none => rw [nOut_none h1]; rfl
    | some z => rw [nOut_some h1]; exact ⟨rfl, rfl, hop q z ho⟩
theorem two_ne {q : Rat} (h : q ≠ 0) : q + q ≠ 0 := by
  intro e
  apply h
  have h2 : q * 2 = 0 := by rw [show (2 : Rat) = 1 + 1 by rw [Rat.add_def]; rfl, Rat.mul_add, Rat.mul_one]; exact e
  rcases Rat.mul_eq_zero.1 h2 with h | h
  · exact h
  · exact absurd h (by decide)
theorem rowLb_map (r : List Rat) : ∀ y ∈ r.map ofQ, y.Lb := by
  intro y hy
  obtain ⟨q, _, rfl⟩ := List.mem_map.1 hy
  exact ofQ_lb q
set_option maxHeartbeats 1000000
theorem low_call (M : Mem) (c B : Nat) (bs : List Nat) (l : List (List Rat)) (x : AV) (n j : Nat) (hR : RedM M c B bs (emb l) x .nil [] []) (hx : isE x 0) (hG : matGood n n l) (hj : j < n) (hn : n ≤ 64) :
    ACall Tryz.prog 69 [.ptr c 1 0 0, .osl B 1 0 n, .int .i64 j] M (lowOut M c n j l) := by
  have hvec := vector_call n (by omega)
  have hone := whole_call 1 (by omega) (by omega)
  have hzero := whole_call 0 (by omega) (by omega)
  rw [intQ_one] at hone
  rw [intQ_zero] at hzero
  have hjE : j < (emb l).length := by rw [emb_length, hG.2.2]; exact hj
  have hlE : (mrow (emb l) j).length = n := by rw [emb_row, List.length_map]; exact (hG.row hj).2
  have hlj : j < (mrow l j).length := by rw [(hG.row hj).2]; exact hj
  have ej : rr (mrow (emb l) j) j = ofQ (qel l j j) := by rw [emb_row, rr_map hlj]; rfl
  have gj : Good (qel l j j) := hG.1.at hlj
  have hBc := Ne.symm hR.cB
  have hcj := hR.nc hjE
  have hsg := rsign_call (ofQ (qel l j j)) (ofQ_lb _)
  rw [signR_ofQ gj] at hsg
  have hbs := beside_call (mrow l j) (hG.row hj).1 j n (hG.row hj).2 hj hn
  rw [← emb_row] at hbs
  refine acall_S Tryz.func69 rfl rfl 75 rfl (Nat.le_of_ble_eq_true rfl) ?_
  (repeat refine AW.seq_k fun K hK => ?_); refine AW.rg ?_; simp [argsL]; try (refine hK _ rfl ?_; clear hK; clear K)
  (repeat refine AW.seq_k fun K hK => ?_); refine AW.rg ?_; simp; try (refine hK _ rfl ?_; clear hK; clear K)
  refine CallK.make hvec ?_
  rintro bv _ _ ⟨rfl, rfl⟩ hbv _
  simp; refine hK _ rfl ?_; clear hK; clear K
  obtain ⟨v1, v2, v3, _⟩ := hR.fresh hbv
  have hjv : nb bs j ≠ bv := fun h => v3 (h ▸ nb_mem (by rw [hR.mat.len]; exact hjE))
  have hones : ∀ w : List RR, ∀ b y, (M.set bv ⟨36, 4, rrs w⟩) b = some y → ∀ v ∈ y.l, v.cells.all AV.one = true := by
    intro w b y hy
    simp only [set_at] at hy
    split at hy
    · cases hy; exact rrs_ok w
    · exact hR.ones hx b y hy
  (repeat refine AW.seq_k fun K hK => ?_); refine AW.rg ?_; simp; try (refine hK _ rfl ?_; clear hK; clear K)
  refine CallK.val hone ?_; simp [hj]; refine hK _ rfl ?_; clear hK; clear K
  have e0 : (List.replicate n (ofQ 0)).set j (ofQ 1) = (eQ n j).map ofQ := by unfold eQ; rw [List.map_set, List.map_replicate]
  rw [e0]; (repeat refine AW.seq_k fun K hK => ?_); refine AW.rg ?_; simp [hj, Ne.symm v2, hR.mat.top, ↓hR.mat.get hjE, hR.mat.row j hjE, hlE, hjv, ej]; try (refine hK _ rfl ?_; clear hK; clear K)
  refine CallK.val hsg ?_; simp; refine hK _ rfl ?_; clear hK; clear K; (repeat refine AW.seq ?_)
  refine AW.cs (fun hneg => ?_) (fun hneg => ?_) rfl <;> (try simp at hneg)
  · (repeat refine AW.seq_k fun K hK => ?_); refine AW.rg ?_; simp; try (refine hK _ rfl ?_; clear hK; clear K)
    refine AW.ret (ret_mem rfl (hones _) ?_)
    unfold lowOut lowQ
    rw [if_pos hneg]
    exact ⟨bv, (eQ n j).map ofQ, x, 0, rfl, hbv, by rw [Mem.set_self hR.cell]; rfl, hx, by rw [List.length_map, eQ_length], rowLb_map _, rfl, rfl, rowGood_e n j⟩
  · refine AW.skip ?_; try simp
    refine hK _ rfl ?_; clear hK; clear K; (repeat refine AW.seq_k fun K hK => ?_); refine AW.rg ?_; simp [hj, Ne.symm v2, hR.mat.top, ↓hR.mat.get hjE, hlE, hjv]; try (refine hK _ rfl ?_; clear hK; clear K)
    refine CallK.borrow [rowAV (mrow (emb l) j), .int .i64 j] ⟨view_row (by simp only [set_at]; rw [if_neg hjv]; exact hR.mat.row j hjE) rfl hlE, .same _, trivial⟩ hbs ?_
    rintro _ rfl
    refine ⟨rfl, ?_⟩
    simp; refine hK _ rfl ?_; clear hK; clear K
    have hlq : lowQ n j l = match besideQ (mrow l j) j with
      | none => some none
      | some k => (crossQ n j k l).map some := by
      unfold lowQ; rw [if_neg (by omega)] <;> rfl
    unfold besideI
    cases hbq : besideQ (mrow l j) j with
    | none =>
      (repeat refine AW.seq_k fun K hK => ?_); refine AW.rg ?_; simp; try (refine hK _ rfl ?_; clear hK; clear K)
      refine AW.yes ?_ rfl; (repeat refine AW.seq_k fun K hK => ?_); refine AW.rg ?_; simp; try (refine hK _ rfl ?_; clear hK; clear K)
      refine AW.turn [(6, .nil)] M (Recast.drop hbv (hR.ones hx)) (by simp) ?_
      refine AW.ret (ret_mem rfl (hR.ones hx) ?_)
      unfold lowOut
      rw [hlq, hbq]
      exact ⟨rfl, rfl⟩
    | some k =>
      have hk0 : (0 : Int) ≤ (k : Nat) := by omega
      obtain ⟨k1, k2, k3⟩ := besideQ_prop hbq
      have hkn : k < n := by rw [(hG.row hj).2] at k2; exact k2
      (repeat refine AW.seq_k fun K hK => ?_); refine AW.rg ?_; simp; try (refine hK _ rfl ?_; clear hK; clear K)
      refine AW.no ?_ (by simp)
      refine AW.skip ?_; try simp
      refine hK _ rfl ?_; clear hK; clear K
      have hkE : k < (emb l).length := by rw [emb_length, hG.2.2]; exact hkn
      have hlkE : (mrow (emb l) k).length = n := by rw [emb_row, List.length_map]; exact (hG.row hkn).2
      have hlk : k < (mrow l k).length := by rw [(hG.row hkn).2]; exact hkn
      have ek : rr (mrow (emb l) k) k = ofQ (qel l k k) := by rw [emb_row, rr_map hlk]; rfl
      have ejk : rr (mrow (emb l) j) k = ofQ (qel l j k) := by rw [emb_row, rr_map k2]; rfl
      have gk : Good (qel l k k) := hG.1.at hlk
      have gjk : Good (qel l j k) := hG.1.at k2
      have hck := hR.nc hkE
      have hkv : nb bs k ≠ bv := fun h => v3 (h ▸ nb_mem (by rw [hR.mat.len]; exact hkE))
      replace k3 : qel l j k ≠ 0 := k3
      (repeat refine AW.seq_k fun K hK => ?_)
      refine AW.rdT [] [] [] [B, nb bs k] [0,2,3,4,5,6,7,8,9,1,10,11,12,13,14] mix (by simp [hkn, Ne.symm v2, hR.mat.top, ↓hR.mat.get hkE, hR.mat.row k hkE, hlkE, hkv, ek]) (by simp [hkn, Ne.symm v2, hR.mat.top, ↓hR.mat.get hkE, hR.mat.row k hkE, hlkE, hkv, ek]) (by simp [hkn, Ne.symm v2, hR.mat.top, ↓hR.mat.get hkE, hR.mat.row k hkE, hlkE, hkv, ek]) (by simp [hkn, Ne.symm v2, hR.mat.top, ↓hR.mat.get hkE, hR.mat.row k hkE, hlkE, hkv, ek]) (by simp [hkn, Ne.symm v2, hR.mat.top, ↓hR.mat.get hkE, hR.mat.row k hkE, hlkE, hkv, ek]) ?_
      simp [hkn, Ne.symm v2, hR.mat.top, ↓hR.mat.get hkE, hR.mat.row k hkE, hlkE, hkv, ek]; try (refine hK _ rfl ?_; clear hK; clear K)
      refine CallK.val hzero ?_; simp; refine CallK.val hone ?_; simp
      refine nadd_K (c := c) (x := x) (e := 0) (a := ofQ (qel l k k)) (b := ofQ 1) (by simp [Ne.symm v1, hR.cell]) (by simp [hR.cB, Ne.symm hck]) hx (ofQ_lb _) (ofQ_lb _) (fun _ => ⟨ofQ_ok gk, ofQ_ok good_one⟩) ?_
      rw [ofQ_q, ofQ_q]
      intro x1 hx1
      have o1 := OneM.step (e := 0) (a := ofQ (qel l k k)) (Z := some (qel l k k)) ⟨rfl, rfl, gk⟩ (op := fun q => addQ q 1) (fun q z h => good_add h)
      rw [ofQ_q] at o1
      replace o1 : OneM (nOut 0 (ofQ (qel l k k)) (addQ (qel l k k) 1)).1 (nOut 0 (ofQ (qel l k k)) (addQ (qel l k k) 1)).2 (addQ (qel l k k) 1) := o1
      have l1 : (nOut 0 (ofQ (qel l k k)) (addQ (qel l k k) 1)).2.Lb := nOut_lb (ofQ_lb _)
      generalize nOut 0 (ofQ (qel l k k)) (addQ (qel l k k) 1) = z1 at *
      obtain ⟨e1, s1⟩ := z1
      simp only at hx1 o1 l1; simp
      refine nsub_K (c := c) (x := x1) (e := e1) (a := ofQ 0) (b := s1) (by simp) (by simp [hR.cB, Ne.symm hck]) hx1 (ofQ_lb _) l1 (fun he => ⟨ofQ_ok good_zero, o1.ok he⟩) ?_
      rw [ofQ_q]
      intro x2 hx2
      have o2 := o1.bin (r := ofQ 0) (op := fun q => subQ 0 q) (fun q z h => good_sub h)
      have l2 : (nOut e1 (ofQ 0) (subQ 0 s1.q)).2.Lb := nOut_lb (ofQ_lb _)
      generalize nOut e1 (ofQ 0) (subQ 0 s1.q) = z2 at *
      obtain ⟨e2, s2⟩ := z2
      simp only at hx2 o2 l2
      clear o1 l1 hx1
      simp
      refine Fresh.intro fun b9 hb9 => ?_
      refine hK _ rfl ?_; clear hK; clear K
      rw [set_comm' M _ _ v1] at hb9 ⊢
      have hR2 := hR.setE x2
      have hbv2 : (M.set c ⟨61, 1, [x2]⟩) bv = none := by simp only [set_at]; rw [if_neg v1]; exact hbv
      refine AW.turn [(0, .ptr c 1 0 0), (1, .osl B 1 0 n), (2, .int .i64 j), (7, .osl bv 4 0 n), (8, .int .i64 (k : Nat)), (9, .rptr [.bool s2.n1, lim s2.l1, .bool s2.n2, lim s2.l2])] ((M.set c ⟨61, 1, [x2]⟩).set bv ⟨36, 4, rrs ((eQ n j).map ofQ)⟩) (Recast.drop hb9 ?_) ?_ ?_
      · intro b y hy
        simp only [set_at] at hy
        split at hy
        · cases hy; exact rrs_ok _
        · exact hR2.ones hx2 b y (by simpa [set_at] using hy)
      · simp
        exact view_temp hb9
      clear hb9
      obtain ⟨w2, hw2⟩ : ∃ w, w = ((eQ n j).map ofQ).set k (ofQ 1) := ⟨_, rfl⟩
      have hlen : w2.length = n := by rw [hw2, List.length_set, List.length_map, eQ_length]
      have hw2m : w2 = ((eQ n j).set k 1).map ofQ := by rw [hw2, List.map_set]
      (repeat refine AW.seq_k fun K hK => ?_); refine AW.rg ?_; simp; try (refine hK _ rfl ?_; clear hK; clear K)
      refine CallK.val hone ?_; simp [hkn, eQ_length]; refine hK _ rfl ?_; clear hK; clear K; rw [← hw2]
      have hjk : nb bs j ≠ c := hcj
      (repeat refine AW.seq_k fun K hK => ?_)
      refine AW.rdT [] [9] [] [B, nb bs j] [0, 1, 2, 3, 4, 5, 6, 7, 8, 9, 10, 11, 12, 13, 14, 15, 16, 17, 18, 19, 20, 21, 22] mix (by simp [hj, hkn, hBc, Ne.symm v2, hR.mat.top, ↓hR.mat.get hjE, hR.mat.row j hjE, hlE, hcj, hjv, ejk]) (by simp [hj, hkn, hBc, Ne.symm v2, hR.mat.top, ↓hR.mat.get hjE, hR.mat.row j hjE, hlE, hcj, hjv, ejk]) (by simp [hj, hkn, hBc, Ne.symm v2, hR.mat.top, ↓hR.mat.get hjE, hR.mat.row j hjE, hlE, hcj, hjv, ejk]) (by simp [hj, hkn, hBc, Ne.symm v2, hR.mat.top, ↓hR.mat.get hjE, hR.mat.row j hjE, hlE, hcj, hjv, ejk]) (by simp [hj, hkn, hBc, Ne.symm v2, hR.mat.top, ↓hR.mat.get hjE, hR.mat.row j hjE, hlE, hcj, hjv, ejk]) ?_
      simp [hj, hkn, hBc, Ne.symm v2, hR.mat.top, ↓hR.mat.get hjE, hR.mat.row j hjE, hlE, hcj, hjv, ejk]; try (refine hK _ rfl ?_; clear hK; clear K)
      refine nadd_K (c := c) (x := x2) (e := e2) (a := ofQ (qel l j k)) (b := ofQ (qel l j k)) (by simp [Ne.symm v1]) (by simp [hR.cB, Ne.symm hcj]) hx2 (ofQ_lb _) (ofQ_lb _) (fun _ => ⟨ofQ_ok gjk, ofQ_ok gjk⟩) ?_
      rw [ofQ_q]
      intro x3 hx3
      obtain ⟨z3, hz3⟩ : ∃ z, z = nOut e2 (ofQ (qel l j k)) (addQ (qel l j k) (qel l j k)) := ⟨_, rfl⟩
      have l3 : z3.2.Lb := by rw [hz3]; exact nOut_lb (ofQ_lb _)
      rw [← hz3] at hx3 ⊢
      obtain ⟨e3, d⟩ := z3
      simp only at hx3 l3
      have hd : e3 = 0 → e2 = 0 ∧ addQ (qel l j k) (qel l j k) = some d.q ∧ d = ofQ d.q ∧ Good d.q := by
        intro he
        by_cases h2 : e2 = 0
        · cases ha : addQ (qel l j k) (qel l j k) with
          | none => rw [ha, nOut_none h2] at hz3; cases hz3; omega
          | some z => rw [ha, nOut_some h2] at hz3; cases hz3; rw [ofQ_q]; exact ⟨h2, rfl, rfl, good_add ha⟩
        · rw [nOut_ne h2] at hz3; cases hz3; exact absurd he h2
      have hd0 : e3 = 0 → d.q ≠ 0 := by
        intro he
        obtain ⟨_, h2, _⟩ := hd he
        unfold addQ at h2
        split at h2
        · have h2 := Option.some.inj h2
          rw [← h2]
          exact two_ne k3
        · cases h2
      simp
      refine ndiv_K (c := c) (x := x3) (e := e3) (a := s2) (b := d) (by simp) (by simp [hR.cB, Ne.symm hcj]) hx3 l2 l3 (fun he => ⟨o2.ok (hd he).1, by rw [(hd he).2.2.1]; exact ofQ_ok (hd he).2.2.2, hd0 he⟩) ?_
      intro x4 hx4
      have hfin : VMode (nOut e3 s2 (divQ s2.q d.q)).1 (w2.set j (nOut e3 s2 (divQ s2.q d.q)).2) (crossQ n j k l) := by
        unfold crossQ
        cases hZ : (addQ (qel l k k) 1).bind fun q => subQ 0 q with
        | none =>
          rw [hZ] at o2
          have h2 : e2 = 2 := o2
          rw [nOut_ne (by omega)] at hz3
          cases hz3
          rw [nOut_ne (by omega)]
          exact h2
        | some s =>
          rw [hZ] at o2
          obtain ⟨h2, rfl, h4⟩ : e2 = 0 ∧ s2 = ofQ s ∧ Good s := o2
          rw [ofQ_q]
          show VMode _ _ ((addQ (qel l j k) (qel l j k)).bind _)
          cases ha : addQ (qel l j k) (qel l j k) with
          | none =>
            rw [ha, nOut_none h2] at hz3
            cases hz3
            rw [nOut_ne (by omega)]
            rfl
          | some dq =>
            rw [ha, nOut_some h2] at hz3
            cases hz3
            rw [ofQ_q]
            show VMode _ _ ((divQ s dq).map _)
            have hdq : dq ≠ 0 := by have := hd0 rfl; rwa [ofQ_q] at this
            cases hq : divQ s dq with
            | none => rw [nOut_none rfl]; rfl
            | some t =>
              rw [nOut_some rfl]
              refine ⟨rfl, by simp [hw2m, List.map_set], ?_⟩
              exact good_set (good_set (rowGood_e n j) k good_one) j (good_div hdq hq)
      have l4 : (nOut e3 s2 (divQ s2.q d.q)).2.Lb := nOut_lb l2
      generalize nOut e3 s2 (divQ s2.q d.q) = z4 at *
      obtain ⟨e4, t⟩ := z4
      simp only at hx4 hfin l4; simp [hj, hlen, v1, Ne.symm v1]; refine hK _ rfl ?_; clear hK; clear K; (repeat refine AW.seq_k fun K hK => ?_); refine AW.rg ?_; simp; try (refine hK _ rfl ?_; clear hK; clear K)
      rw [set_four (Ne.symm v1)]
      have hlq' : lowQ n j l = (crossQ n j k l).map some := by rw [hlq, hbq]
      refine AW.ret (ret_mem rfl ?_ ?_)
      · intro b y (hy : ((M.set c ⟨61, 1, [x4]⟩).set bv ⟨36, 4, rrs (w2.set j t)⟩) b = some y)
        simp only [set_at] at hy
        split at hy
        · cases hy; exact rrs_ok _
        · exact (hR.setE x4).ones hx4 b y (by simpa only [set_at] using hy)
      · unfold lowOut
        rw [hlq']
        cases hcr : crossQ n j k l with
        | none => rw [hcr] at hfin; exact ⟨bv, _, x4, e4, rfl, hbv, rfl, hx4, by simp [hlen], lb_set (by rw [hw2m]; exact rowLb_map _) j l4, hfin⟩
        | some w => rw [hcr] at hfin; exact ⟨bv, _, x4, e4, rfl, hbv, rfl, hx4, by simp [hlen], lb_set (by rw [hw2m]; exact rowLb_map _) j l4, hfin⟩
end Go.Av
end
section
namespace Go.Av
open Go.Proofs
def fCell : Option (List Rat) → AV
  | none => .nil
  | some f => rowAV (f.map ofQ)
def fCells (fs : List (Option (List Rat))) : List AV := fs.map fCell
theorem fCells_length (fs : List (Option (List Rat))) : (fCells fs).length = fs.length := by simp [fCells]
theorem fCells_get {fs : List (Option (List Rat))} {i : Nat} (h : i < fs.length) : (fCells fs)[i]? = some (fCell (fs.getD i none)) := by
  unfold fCells
  rw [List.getElem?_map, List.getElem?_eq_getElem h, List.getD_eq_getElem?_getD, List.getElem?_eq_getElem h]
  rfl
def formsOk (n : Nat) (fs : List (Option (List Rat))) : Prop := ∀ i f, fs.getD i none = some f → rowGood f ∧ f.length = n
theorem isNil_row {r : List RR} (h : r ≠ []) : isNil (rowAV r) = some false := by
  unfold rowAV isNil
  simp [rrs, h]
theorem dot_step {e : Int} {s : RR} {Z : Option Rat} (h : OneM e s Z) {a b : RR} {aq bq : Rat} (hab : e = 0 → a.q = aq ∧ b.q = bq) {e1 : Int} {p : RR} (hp : nOut e a (mulQ a.q b.q) = (e1, p)) :
    OneM (nOut e1 s (addQ s.q p.q)).1 (nOut e1 s (addQ s.q p.q)).2 (Z.bind fun s => (mulQ aq bq).bind (addQ s)) ∧ (e1 = 0 → e = 0 ∧ p.ok = true) := by
  cases Z with
  | none =>
    have he : e = 2 := h
    rw [nOut_ne (by omega)] at hp
    cases hp
    rw [nOut_ne (by omega)]
    exact ⟨h, fun h => by omega⟩
  | some q =>
    obtain ⟨h1, rfl, h3⟩ : e = 0 ∧ s = ofQ q ∧ Good q := h
    obtain ⟨h4, h5⟩ := hab h1
    rw [h4, h5] at hp
    rw [ofQ_q]
    show OneM _ _ ((mulQ aq bq).bind (addQ q)) ∧ _
    cases hm : mulQ aq bq with
    | none =>
      rw [hm, nOut_none h1] at hp
      cases hp
      rw [nOut_ne (by omega)]
      exact ⟨rfl, fun h => by omega⟩
    | some m =>
      rw [hm, nOut_some h1] at hp
      cases hp
      rw [ofQ_q]
      refine ⟨?_, fun _ => ⟨h1, ofQ_ok (good_mul hm)⟩⟩
      show OneM _ _ (addQ q m)
      cases ha : addQ q m with
      | none => rw [nOut_none rfl]; rfl
      | some z => rw [nOut_some rfl]; exact ⟨rfl, rfl, good_add ha⟩
def extM (c bv by_ : Nat) (x : AV) (v : List RR) (fs : List (Option (List Rat))) : Mem := ((Mem.emp.set c ⟨61, 1, [x]⟩).set bv ⟨36, 4, rrs v⟩).set by_ ⟨42, 1, fCells fs⟩
theorem extM_ones {c bv by_ : Nat} {x : AV} {v : List RR} {fs : List (Option (List Rat))} {e : Int} (g2 : isE x e) : ∀ b y, extM c bv by_ x v fs b = some y → ∀ v ∈ y.l, v.cells.all AV.one = true := by
  intro b y hy
  unfold extM at hy
  simp only [set_at, emp_at] at hy
  split at hy
  · cases hy
    intro u hu
    obtain ⟨f, _, rfl⟩ := List.mem_map.1 hu
    cases f <;> rfl
  · split at hy
    · cases hy; exact rrs_ok v
    · split at hy
      · cases hy
        intro u hu
        simp at hu
        subst hu
        exact isE_one g2
      · cases hy
theorem four_c {m : Mem} {c bv b y : Nat} (h1 : c ≠ bv) (h2 : c ≠ y) (h3 : c ≠ b) (X V F S X' : Blk) : ((((m.set c X).set bv V).set y F).set b S).set c X' = (((m.set c X').set bv V).set y F).set b S := by
  rw [set_comm' _ _ _ (Ne.symm h3), set_comm' _ _ _ (Ne.symm h2), set_comm' _ _ _ (Ne.symm h1), set_set]
theorem four_b {m : Mem} {c bv b y : Nat} (h2 : bv ≠ y) (h3 : bv ≠ b) (X V F S V' : Blk) : ((((m.set c X).set bv V).set y F).set b S).set bv V' = (((m.set c X).set bv V').set y F).set b S := by
  rw [set_comm' _ _ _ (Ne.symm h3), set_comm' _ _ _ (Ne.symm h2), set_set]
set_option maxHeartbeats 1000000
theorem extend_call (c bv by_ : Nat) (x : AV) (e : Int) (v : List RR) (Zv : Option (List Rat)) (fs : List (Option (List Rat))) (n j : Nat) (h1 : c ≠ bv) (h2 : c ≠ by_) (h3 : bv ≠ by_) (hx : isE x e) (hl : v.length = n) (hlb : ∀ y ∈ v, y.Lb) (hv : VMode e v Zv) (hf : fs.length = n) (hfo : formsOk n fs) (hj : j < n) (hn : n ≤ 64) :
    ACall Tryz.prog 70 [.ptr c 1 0 0, .osl bv 4 0 n, .osl by_ 1 0 n, .int .i64 j] (extM c bv by_ x v fs) fun r M' => ∃ x' e' v', r = .osl bv 4 0 n ∧ M' = extM c bv by_ x' v' fs ∧ isE x' e' ∧ v'.length = n ∧ (∀ y ∈ v', y.Lb) ∧ VMode e' v' (Zv.bind (extQ fs n j)) := by
  have hzero := whole_call 0 (by omega) (by omega)
  rw [intQ_zero] at hzero
  have n1 := Ne.symm h1
  have n2 := Ne.symm h2
  have n3 := Ne.symm h3
  refine acall_S Tryz.func70 rfl rfl 56 rfl (Nat.le_of_ble_eq_true rfl) ?_
  (repeat refine AW.seq_k fun K hK => ?_); refine AW.rg ?_; simp [argsL]; try (refine hK _ rfl ?_; clear hK; clear K)
  refine AW.seq_ex (ι := VecS) (fun s => [(0, .ptr c 1 0 0), (1, .osl bv 4 0 n), (2, .osl by_ 1 0 n), (3, .int .i64 j)]) (fun s => extM c bv by_ s.x s.v fs) (fun s => isE s.x s.e ∧ s.v.length = n ∧ (∀ y ∈ s.v, y.Lb) ∧ VMode s.e s.v (Zv.bind (extQ fs n j))) ?_ ?_
  · have w0 : IntKind.i64.wrap ((j : Int) - 1) = (j : Int) - 1 := wrap_i64 (by omega) (by omega)
    (repeat refine AW.seq_k fun K hK => ?_); refine AW.rg ?_; simp [w0]; try (refine hK _ rfl ?_; clear hK; clear K)
    refine AW.block (AW.loopS (ι := Nat × VecS) (fun z => [(0, .ptr c 1 0 0), (1, .osl bv 4 0 n), (2, .osl by_ 1 0 n), (3, .int .i64 j), (9, .int .i64 ((j : Int) - 1 - (z.1 : Nat)))]) (fun z => extM c bv by_ z.2.x z.2.v fs) (fun z => z.1 ≤ j ∧ isE z.2.x z.2.e ∧ z.2.v.length = n ∧ (∀ y ∈ z.2.v, y.Lb) ∧ VMode z.2.e z.2.v (Zv.bind fun q => iterO (extStep fs n j) z.1 q)) (fun z => n - z.1) (0, ⟨x, e, v⟩) ⟨by simp, hx, hl, hlb, ?_⟩ ?_ (by simp) ?_)
    · cases Zv <;> exact hv
    · rfl
    rintro ⟨t, x, e, v⟩ ⟨g1, g2, g3, g4, g5⟩
    simp only at g1 g2 g3 g4 g5; (repeat refine AW.seq_k fun K hK => ?_); refine AW.rg ?_; simp; try (refine hK _ rfl ?_; clear hK; clear K)
    (repeat refine AW.seq ?_)
    refine AW.cs (fun hi => ?_) (fun hi => ?_) rfl <;> (try simp at hi)
    · refine AW.skip ?_; try simp
      refine hK _ rfl ?_; clear hK; clear K
      have htj : t < j := by omega
      obtain ⟨i, hi2⟩ : ∃ i, j - 1 - t = i := ⟨_, rfl⟩
      have hiz : (j : Int) - 1 - (t : Nat) = (i : Nat) := by omega
      have hiz2 : (j : Int) - 1 - ((t + 1 : Nat) : Int) = (i : Int) - 1 := by omega
      have w1 : IntKind.i64.wrap ((i : Int) - 1) = (i : Int) - 1 := wrap_i64 (by omega) (by omega)
      have w2 : IntKind.i64.wrap ((i + 1 : Nat) : Int) = ((i + 1 : Nat) : Int) := wi (by omega)
      have hin : i < n := by omega
      have hgc := fCells_get (fs := fs) (i := i) (by omega)
      have hfl := fCells_length fs
      rw [hiz]
      have hstep : (Zv.bind fun q => iterO (extStep fs n j) (t + 1) q) = (Zv.bind fun q => iterO (extStep fs n j) t q).bind (extStep fs n j t) := by cases Zv <;> rfl
      have hext : ∀ q, extStep fs n j t q = match fs.getD i none with
          | none => some q
          | some form => (dotQ form q i n).bind fun s => (subQ 0 s).map (q.set i) := by
        intro q; unfold extStep; rw [hi2] <;> rfl
      generalize (Zv.bind fun q => iterO (extStep fs n j) t q) = Z at *
      have hZl : ∀ q, Z = some q → e = 0 ∧ v = q.map ofQ ∧ rowGood q ∧ q.length = n := by
        intro q hq
        subst hq
        obtain ⟨k1, k2, k3⟩ : e = 0 ∧ v = q.map ofQ ∧ rowGood q := g5
        exact ⟨k1, k2, k3, by rw [k2, List.length_map] at g3; exact g3⟩
      refine AW.seq_ex (ι := VecS × Mem) (fun s => [(0, .ptr c 1 0 0), (1, .osl bv 4 0 n), (2, .osl by_ 1 0 n), (3, .int .i64 j), (9, .int .i64 (i : Nat))]) (fun s => s.2) (fun s => Recast s.2 (extM c bv by_ s.1.x s.1.v fs) ∧ isE s.1.x s.1.e ∧ s.1.v.length = n ∧ (∀ y ∈ s.1.v, y.Lb) ∧ VMode s.1.e s.1.v (Z.bind (extStep fs n j t))) ?_ ?_
      · (repeat refine AW.seq ?_); refine AW.block ?_
        cases hfi : fs.getD i none with
        | none =>
          rw [hfi] at hgc
          have hgc : (fCells fs)[i]? = some .nil := hgc
          (repeat refine AW.seq_k fun K hK => ?_); refine AW.rg ?_; simp [extM, hin, ↓hgc]; try (refine hK _ rfl ?_; clear hK; clear K)
          refine AW.yes ?_ rfl
          refine AW.exit ?_
          try simp
          refine ⟨⟨x, e, v⟩, Recast.sub fun b y hy => ⟨hy, extM_ones g2 b y hy⟩, g2, g3, g4, ?_⟩
          cases Z with
          | none => exact g5
          | some q => show VMode e v (extStep fs n j t q); rw [hext, hfi]; exact g5
        | some form =>
          obtain ⟨fg, flen⟩ := hfo i form hfi
          rw [hfi] at hgc
          have hgc : (fCells fs)[i]? = some (rowAV (form.map ofQ)) := hgc
          have hne : form.map ofQ ≠ [] := by
            intro h
            have := congrArg List.length h
            rw [List.length_map, flen] at this
            simp at this
            omega
          have hnil := isNil_row hne
          have hflR : (form.map ofQ).length = n := by rw [List.length_map, flen]
          (repeat refine AW.seq_k fun K hK => ?_); refine AW.rg ?_; simp [extM, hin, ↓hgc, hnil]; try (refine hK _ rfl ?_; clear hK; clear K)
          refine AW.no ?_ rfl; refine AW.skip ?_; try simp
          refine hK _ rfl ?_; clear hK; clear K; (repeat refine AW.seq_k fun K hK => ?_); refine AW.rg ?_; simp; try (refine hK _ rfl ?_; clear hK; clear K)
          refine CallK.val hzero ?_; simp
          refine Fresh.intro fun b10 hb10 => ?_
          simp only [extM, set_none2, emp_at, and_true] at hb10
          refine hK _ rfl ?_; clear hK; clear K
          obtain ⟨⟨m1, m1'⟩, ⟨m2, m2'⟩, m3, m3'⟩ := hb10
          refine AW.seq_ex (ι := AV × Int × RR) (fun z => [(0, .ptr c 1 0 0), (1, .osl bv 4 0 n), (2, .osl by_ 1 0 n), (3, .int .i64 j), (9, .int .i64 (i : Nat)), (10, .ptr b10 4 0 0)]) (fun z => (((Mem.emp.set c ⟨61, 1, [z.1]⟩).set bv ⟨36, 4, rrs v⟩).set by_ ⟨42, 1, fCells fs⟩).set b10 ⟨36, 4, [z.2.2.av]⟩) (fun z => isE z.1 z.2.1 ∧ z.2.2.Lb ∧ OneM z.2.1 z.2.2 (Z.bind fun q => dotQ form q i n)) ?_ ?_
          · (repeat refine AW.seq_k fun K hK => ?_); refine AW.rg ?_; simp [-Int.natCast_add, w2]; try (refine hK _ rfl ?_; clear hK; clear K)
            refine AW.block (AW.loopS (ι := Nat × AV × Int × RR) (fun z => [(0, .ptr c 1 0 0), (1, .osl bv 4 0 n), (2, .osl by_ 1 0 n), (3, .int .i64 j), (9, .int .i64 (i : Nat)), (10, .ptr b10 4 0 0), (11, .int .i64 ((i + 1 + z.1 : Nat) : Int))]) (fun z => (((Mem.emp.set c ⟨61, 1, [z.2.1]⟩).set bv ⟨36, 4, rrs v⟩).set by_ ⟨42, 1, fCells fs⟩).set b10 ⟨36, 4, [z.2.2.2.av]⟩) (fun z => z.1 ≤ n - (i + 1) ∧ isE z.2.1 z.2.2.1 ∧ z.2.2.2.Lb ∧ OneM z.2.2.1 z.2.2.2 (Z.bind fun q => iterO (dotStep form q i) z.1 0)) (fun z => n - z.1) (0, x, e, ofQ 0) ⟨by simp, g2, ofQ_lb 0, ?_⟩ rfl (by simp [-Int.natCast_add]) ?_)
            · cases hZc : Z with
              | none => rw [hZc] at g5; exact g5
              | some q => exact ⟨(hZl q hZc).1, rfl, good_zero⟩
            rintro ⟨u, x, e', s⟩ ⟨k1, k2, k3, k4⟩
            simp only at k1 k2 k3 k4
            generalize hk : i + 1 + u = k at *
            (repeat refine AW.seq_k fun K hK => ?_); refine AW.rg ?_; simp [-Int.natCast_add, g3]; try (refine hK _ rfl ?_; clear hK; clear K)
            (repeat refine AW.seq ?_)
            refine AW.cs (fun hkn => ?_) (fun hkn => ?_) rfl <;> (try simp at hkn)
            · refine AW.skip ?_
              try simp [-Int.natCast_add]
              refine hK _ rfl ?_; clear hK; clear K; (repeat refine AW.seq ?_); refine AW.block ?_
              have w5 : IntKind.i64.wrap ((k + 1 : Nat) : Int) = ((k + 1 : Nat) : Int) := wi (by omega)
              have hkf : k < form.length := by omega
              have hkv : k < v.length := by omega
              have ef : rr (form.map ofQ) k = ofQ (qat form k) := rr_map hkf
              have gf : Good (qat form k) := fg.at hkf
              have hab : e' = 0 → (ofQ (qat form k)).q = qat form k ∧ (rr v k).q = qat (Z.getD []) k := by
                intro he
                refine ⟨ofQ_q _, ?_⟩
                cases hZc : Z with
                | none => rw [hZc] at k4; have : e' = 2 := k4; omega
                | some q =>
                  obtain ⟨_, z2, _, z4⟩ := hZl q hZc
                  rw [z2, rr_map (by omega), ofQ_q]; rfl
              have hvok : e' = 0 → (rr v k).ok = true := by
                intro he
                cases hZc : Z with
                | none => rw [hZc] at k4; have : e' = 2 := k4; omega
                | some q =>
                  obtain ⟨_, z2, z3, z4⟩ := hZl q hZc
                  rw [z2, rr_map (by omega)]
                  exact ofQ_ok (z3.at (by omega))
              (repeat refine AW.seq_k fun K hK => ?_)
              refine AW.rdT [] [] [] [b10, by_, bv] [0, 1, 2, 3, 4, 5, 6, 7, 8, 9, 10, 11, 12, 13, 14, 15, 16] mix (by simp [h1, h2, h3, n1, n2, n3, m1, m1', m2, m2', m3, m3', hin, ↓hgc, hkn, hflR, g3, hkv, ef]) (by simp [h1, h2, h3, n1, n2, n3, m1, m1', m2, m2', m3, m3', hin, ↓hgc, hkn, hflR, g3, hkv, ef]) (by simp [h1, h2, h3, n1, n2, n3, m1, m1', m2, m2', m3, m3', hin, ↓hgc, hkn, hflR, g3, hkv, ef]) (by simp [h1, h2, h3, n1, n2, n3, m1, m1', m2, m2', m3, m3', hin, ↓hgc, hkn, hflR, g3, hkv, ef]) (by simp [h1, h2, h3, n1, n2, n3, m1, m1', m2, m2', m3, m3', hin, ↓hgc, hkn, hflR, g3, hkv, ef]) ?_
              simp [-Int.natCast_add, h1, h2, h3, n1, n2, n3, m1, m1', m2, m2', m3, m3', hin, ↓hgc, hkn, hflR, g3, hkv, ef]; try (refine hK _ rfl ?_; clear hK; clear K)
              refine nmul_K (a := ofQ (qat form k)) (b := rr v k) (x := x) (e := e') (by simp [h1, h2, h3, n1, n2, n3, m1, m1', m2, m2', m3, m3']) (by simp [h1, h2, h3, n1, n2, n3, m1, m1', m2, m2', m3, m3']) k2 (ofQ_lb _) (rr_lb g4 k) (fun he => ⟨ofQ_ok gf, hvok he⟩) ?_
              intro x1 hx1
              have hplb : (nOut e' (ofQ (qat form k)) (mulQ (ofQ (qat form k)).q (rr v k).q)).2.Lb := nOut_lb (ofQ_lb _)
              have hds := dot_step k4 hab (e1 := (nOut e' (ofQ (qat form k)) (mulQ (ofQ (qat form k)).q (rr v k).q)).1) (p := (nOut e' (ofQ (qat form k)) (mulQ (ofQ (qat form k)).q (rr v k).q)).2) rfl
              generalize (nOut e' (ofQ (qat form k)) (mulQ (ofQ (qat form k)).q (rr v k).q)) = ep at *
              obtain ⟨e1, p⟩ := ep
              simp only at hx1 hplb hds; simp [-Int.natCast_add, four_c h1 h2 m3']
              refine nadd_K (a := s) (b := p) (x := x1) (e := e1) (by simp [h1, h2, h3, n1, n2, n3, m1, m1', m2, m2', m3, m3']) (by simp [h1, h2, h3, n1, n2, n3, m1, m1', m2, m2', m3, m3']) hx1 k3 hplb (fun he => ⟨k4.ok (hds.2 he).1, (hds.2 he).2⟩) ?_
              intro x2 hx2
              have hslb : (nOut e1 s (addQ s.q p.q)).2.Lb := nOut_lb k3
              replace hds := hds.1
              generalize nOut e1 s (addQ s.q p.q) = ep at *
              obtain ⟨e2, s2⟩ := ep
              simp only at hx2 hslb hds; simp [-Int.natCast_add, four_c h1 h2 m3', h1, h2, h3, n1, n2, n3, m1, m1', m2, m2', m3, m3']; (repeat refine AW.seq_k fun K hK => ?_); refine AW.rg ?_; simp [-Int.natCast_add, w5]; try (refine hK _ rfl ?_; clear hK; clear K)
              refine ⟨u + 1, x2, e2, s2, ⟨by omega, hx2, hslb, ?_⟩, by omega, rfl, by omega⟩
              cases Z with
              | none => exact hds
              | some q =>
                show OneM e2 s2 (iterO (dotStep form q i) (u + 1) 0)
                rw [iterO_succ]
                unfold dotStep at hds ⊢
                rw [hk]
                exact hds
            · refine AW.exit ?_
              try simp [-Int.natCast_add]
              have : u = n - (i + 1) := by omega
              subst this
              exact ⟨x, e', s, ⟨k2, k3, k4⟩, rfl⟩
          rintro ⟨x, e', s⟩ ⟨k2, k3, k4⟩
          simp only at k2 k3 k4; (repeat refine AW.seq_k fun K hK => ?_)
          refine AW.rdT [] [] [] [b10] [0,1,2,4,3,5,6,7] mix (by simp [h1, h2, h3, n1, n2, n3, m1, m1', m2, m2', m3, m3', hin, g3]) (by simp [h1, h2, h3, n1, n2, n3, m1, m1', m2, m2', m3, m3', hin, g3]) (by simp [h1, h2, h3, n1, n2, n3, m1, m1', m2, m2', m3, m3', hin, g3]) (by simp [h1, h2, h3, n1, n2, n3, m1, m1', m2, m2', m3, m3', hin, g3]) (by simp [h1, h2, h3, n1, n2, n3, m1, m1', m2, m2', m3, m3', hin, g3]) ?_
          simp [h1, h2, h3, n1, n2, n3, m1, m1', m2, m2', m3, m3', hin, g3]; try (refine hK _ rfl ?_; clear hK; clear K)
          refine CallK.val hzero ?_; simp
          refine nsub_K (a := ofQ 0) (b := s) (x := x) (e := e') (by simp [h1, h2, h3, n1, n2, n3, m1, m1', m2, m2', m3, m3']) (by simp [h1, h2, h3, n1, n2, n3, m1, m1', m2, m2', m3, m3']) k2 (ofQ_lb _) k3 (fun he => ⟨ofQ_ok good_zero, k4.ok he⟩) ?_
          rw [ofQ_q]
          intro x2 hx2
          have hfin : OneM (nOut e' (ofQ 0) (subQ 0 s.q)).1 (nOut e' (ofQ 0) (subQ 0 s.q)).2 ((Z.bind fun q => dotQ form q i n).bind fun s => subQ 0 s) := k4.bin (op := fun s => subQ 0 s) (fun q z h => good_sub h)
          have hlb2 : (nOut e' (ofQ 0) (subQ 0 s.q)).2.Lb := nOut_lb (ofQ_lb _)
          generalize nOut e' (ofQ 0) (subQ 0 s.q) = ep at *
          obtain ⟨e2, y⟩ := ep
          simp only at hx2 hfin hlb2; simp [four_c h1 h2 m3', four_b h3 m2', h1, h2, h3, n1, n2, n3, m1, m1', m2, m2', m3, m3', hin, g3]
          refine ⟨⟨x2, e2, v.set i y⟩, Recast.drop (m := extM c bv by_ x2 (v.set i y) fs) (by simp [extM, h1, h2, h3, n1, n2, n3, m1, m1', m2, m2', m3, m3']) (extM_ones hx2), hx2, by rw [List.length_set]; exact g3, lb_set g4 i hlb2, ?_⟩
          cases hZc : Z with
          | none => rw [hZc] at hfin; exact hfin
          | some q =>
            rw [hZc] at hfin
            obtain ⟨z1, z2, z3, z4⟩ := hZl q hZc
            show VMode e2 (v.set i y) (extStep fs n j t q)
            rw [hext, hfi]
            replace hfin : OneM e2 y ((dotQ form q i n).bind fun s => subQ 0 s) := hfin
            show VMode e2 (v.set i y) ((dotQ form q i n).bind fun s => (subQ 0 s).map (q.set i))
            cases hdq : dotQ form q i n with
            | none => rw [hdq] at hfin; exact hfin
            | some sq =>
              rw [hdq] at hfin
              replace hfin : OneM e2 y (subQ 0 sq) := hfin
              show VMode e2 (v.set i y) ((subQ 0 sq).map (q.set i))
              cases hsq : subQ 0 sq with
              | none => rw [hsq] at hfin; exact hfin
              | some w =>
                rw [hsq] at hfin
                exact ⟨hfin.1, by rw [z2, hfin.2.1, List.map_set], good_set z3 i hfin.2.2⟩
      rintro ⟨⟨x, e, v⟩, M'⟩ ⟨q0, q1, q2, q3, q4⟩
      simp only at q0 q1 q2 q3 q4
      refine AW.turn [(0, .ptr c 1 0 0), (1, .osl bv 4 0 n), (2, .osl by_ 1 0 n), (3, .int .i64 j), (9, .int .i64 (i : Nat))] (extM c bv by_ x v fs) q0 (by simp) ?_
      (repeat refine AW.seq_k fun K hK => ?_); refine AW.rg ?_; simp [w1]; try (refine hK _ rfl ?_; clear hK; clear K)
      exact ⟨t + 1, ⟨x, e, v⟩, ⟨by omega, q1, q2, q3, by rw [hstep]; exact q4⟩, by omega, rfl, by rw [hiz2]⟩
    · refine AW.exit ?_
      try simp
      have : t = j := by omega
      subst this
      exact ⟨⟨x, e, v⟩, ⟨g2, g3, g4, g5⟩, rfl⟩
  rintro ⟨x, e, v⟩ ⟨g2, g3, g4, g5⟩
  simp only at g2 g3 g4 g5; (repeat refine AW.seq_k fun K hK => ?_); refine AW.rg ?_; simp; try (refine hK _ rfl ?_; clear hK; clear K)
  refine AW.ret (ret_mem rfl ?_ ⟨x, e, v, rfl, rfl, g2, g3, g4, g5⟩)
  exact extM_ones g2
end Go.Av
end
section
namespace Go.Av
open Go.Proofs
/-- The matrix, the numbers, the forms by column and the weights. -/
structure SqMem (M : Mem) (c B : Nat) (bs : List Nat) (rows : List (List RR)) (x : AV) (by_ : Nat) (fs : List AV) (ov : AV) (ob : List Nat) (ws : List AV) : Prop where
  red : RedM (M.only (c :: B :: bs)) c B bs rows x .nil [] []
  by' : M by_ = some ⟨42, 1, fs⟩
  lst : LstV M 36 4 ov ob ws
  nby : by_ ∉ c :: B :: bs
  nob : ∀ b ∈ ob, b ∉ c :: B :: bs ∧ b ≠ by_
section
variable {M : Mem} {c B : Nat} {bs : List Nat} {rows : List (List RR)} {x : AV} {by_ : Nat} {fs : List AV} {ov : AV} {ob : List Nat} {ws : List AV}
theorem SqMem.cell (h : SqMem M c B bs rows x by_ fs ov ob ws) : M c = some ⟨61, 1, [x]⟩ := by
  have := h.red.cell; rwa [only_in (by simp)] at this
theorem SqMem.top (h : SqMem M c B bs rows x by_ fs ov ob ws) : M B = some ⟨42, 1, hdrs bs rows⟩ := by
  have := h.red.mat.top; rwa [only_in (by simp)] at this
theorem SqMem.row (h : SqMem M c B bs rows x by_ fs ov ob ws) {i : Nat} (hi : i < rows.length) : M (nb bs i) = some ⟨36, 4, rrs (mrow rows i)⟩ := by
  have := h.red.mat.row i hi
  rwa [only_in (by simp [nb_mem (show i < bs.length by rw [h.red.mat.len]; exact hi)])] at this
/-- Behind a call that was handed the numbers and the matrix. -/
theorem SqMem.back (h : SqMem M c B bs rows x by_ fs ov ob ws) {g : Mem} {rows' : List (List RR)} {x' : AV} (hg : RedM g c B bs rows' x' .nil [] []) : SqMem (M.back (c :: B :: bs) g) c B bs rows' x' by_ fs ov ob ws := by
  have ho : ∀ b, b ∉ c :: B :: bs → g b = none := fun b hb => by
    cases hx : g b with
    | none => rfl
    | some y => have := hg.only b (by rw [hx]; simp); exact absurd (by simpa using this) hb
  have e : (M.back (c :: B :: bs) g).only (c :: B :: bs) = g := by
    funext b
    by_cases hb : b ∈ c :: B :: bs
    · rw [only_in hb, back_in hb]
    · rw [only_out hb, ho b hb]
  exact ⟨by rw [e]; exact hg, by rw [back_out (ho _ h.nby) h.nby]; exact h.by', h.lst.keep fun b hb => back_out (ho b (h.nob b hb).1) (h.nob b hb).1, h.nby, h.nob⟩
theorem only_set_out {m : Mem} {l : List Nat} {b : Nat} (hb : b ∉ l) (y : Blk) : (m.set b y).only l = m.only l := by
  funext k
  by_cases hk : k ∈ l
  · rw [only_in hk, only_in hk]; simp only [set_at]; rw [if_neg (by rintro rfl; exact hb hk)]
  · rw [only_out hk, only_out hk]
theorem SqMem.setBy (h : SqMem M c B bs rows x by_ fs ov ob ws) (fs' : List AV) : SqMem (M.set by_ ⟨42, 1, fs'⟩) c B bs rows x by_ fs' ov ob ws :=
  ⟨by rw [only_set_out h.nby]; exact h.red, by simp, h.lst.keep fun b hb => by simp only [set_at]; rw [if_neg (h.nob b hb).2], h.nby, h.nob⟩
theorem SqMem.push0 (h : SqMem M c B bs rows x by_ fs .nil [] []) {b : Nat} (hb : M b = none) (v : AV) : SqMem (M.set b ⟨36, 4, [v]⟩) c B bs rows x by_ fs (.osl b 4 0 1) [b] [v] := by
  have h1 : b ∉ c :: B :: bs := by
    intro hm
    have : (M.only (c :: B :: bs)) b = none := by rw [only_in hm]; exact hb
    obtain ⟨f1, f2, f3, _⟩ := h.red.fresh this
    simp [f1, f2, f3] at hm
  have h2 : b ≠ by_ := by rintro rfl; rw [h.by'] at hb; cases hb
  exact ⟨by rw [only_set_out h1]; exact h.red, by simp only [set_at]; rw [if_neg (Ne.symm h2)]; exact h.by', .inr ⟨b, rfl, rfl, by simp⟩, h.nby, fun a ha => by simp at ha; subst ha; exact ⟨h1, h2⟩⟩
theorem SqMem.push1 {b0 : Nat} (h : SqMem M c B bs rows x by_ fs (.osl b0 4 0 ws.length) [b0] ws) {b : Nat} (hb : (M.del b0) b = none) (v : AV) : SqMem ((M.del b0).set b ⟨36, 4, ws ++ [v]⟩) c B bs rows x by_ fs (.osl b 4 0 (ws.length + 1)) [b] (ws ++ [v]) := by
  obtain ⟨k1, k2⟩ := h.nob b0 (by simp)
  have hh : SqMem (M.del b0) c B bs rows x by_ fs .nil [] [] := by
    have hdel : ∀ a, a ≠ b0 → (M.del b0) a = M a := fun a ha => if_neg ha
    have e : (M.del b0).only (c :: B :: bs) = M.only (c :: B :: bs) := by
      funext a
      by_cases ha : a ∈ c :: B :: bs
      · rw [only_in ha, only_in ha, hdel a (by rintro rfl; exact k1 ha)]
      · rw [only_out ha, only_out ha]
    exact ⟨by rw [e]; exact h.red, by rw [hdel by_ (Ne.symm k2)]; exact h.by', .inl ⟨rfl, rfl, rfl⟩, h.nby, by simp⟩
  have h1 : b ∉ c :: B :: bs := by
    intro hm
    have : ((M.del b0).only (c :: B :: bs)) b = none := by rw [only_in hm]; exact hb
    obtain ⟨f1, f2, f3, _⟩ := hh.red.fresh this
    simp [f1, f2, f3] at hm
  have h2 : b ≠ by_ := by rintro rfl; rw [hh.by'] at hb; cases hb
  exact ⟨by rw [only_set_out h1]; exact hh.red, by simp only [set_at]; rw [if_neg (Ne.symm h2)]; exact hh.by', .inr ⟨b, rfl, by simp, by simp⟩, h.nby, fun a ha => by simp at ha; subst ha; exact ⟨h1, h2⟩⟩
theorem RedM.as_only {M : Mem} {c B : Nat} {bs : List Nat} {rows : List (List RR)} {x : AV} (h : RedM M c B bs rows x .nil [] []) : RedM (M.only (c :: B :: bs)) c B bs rows x .nil [] [] := by
  rw [only_self (h.only.sub fun b hb => by simpa using hb)]; exact h
/-- The start. -/
theorem SqMem.start {x : AV} {by_ : Nat} {fs : List AV} (h : RedM M c B bs rows x .nil [] []) (hb : M by_ = none) : SqMem (M.set by_ ⟨42, 1, fs⟩) c B bs rows x by_ fs .nil [] [] := by
  obtain ⟨f1, f2, f3, _⟩ := h.fresh hb
  have hn : by_ ∉ c :: B :: bs := by simp [f1, f2, f3]
  exact ⟨by rw [only_set_out hn]; exact h.as_only, by simp, .inl ⟨rfl, rfl, rfl⟩, hn, by simp⟩
/-- A form is stored, and is no longer owned. -/
theorem SqMem.store (h : SqMem M c B bs rows x by_ fs ov ob ws) {e : Int} (hx : isE x e) {bv n j : Nat} {form : List RR} (hb : M bv = none) (hl : form.length = n) (h1 : ∀ v ∈ fs, v.cells.all AV.one = true) (h2 : ∀ b y, M b = some y → ∀ v ∈ y.l, v.cells.all AV.one = true) (hj : j < fs.length) :
    Recast ((M.set bv ⟨36, 4, rrs form⟩).set by_ ⟨42, 1, fs.set j (.osl bv 4 0 n)⟩) (M.set by_ ⟨42, 1, fs.set j (rowAV form)⟩) := by
  have hne : by_ ≠ bv := by rintro rfl; rw [h.by'] at hb; cases hb
  refine ⟨fun b y hy => ?_⟩
  simp only [set_at] at hy
  by_cases hby : b = by_
  · rw [if_pos hby] at hy
    cases hy
    refine ⟨⟨42, 1, fs.set j (.osl bv 4 0 n)⟩, by simp [hby], rfl, rfl, by simp, fun k v v' q1 q2 => ?_⟩
    simp only [List.getElem?_set] at q1 q2
    by_cases hk : j = k
    · subst hk
      rw [if_pos rfl, if_pos hj] at q1 q2
      cases q1
      cases q2
      refine ⟨view_row (e := 36) (r := form) (by simp [Ne.symm hne]) ?_ hl, rfl⟩
      simp only [set_at]
      rw [if_neg (Ne.symm hne)]; exact hb
    · rw [if_neg hk] at q1 q2
      rw [q1] at q2
      cases q2
      exact ⟨.same _, h1 v (List.mem_of_getElem? q1)⟩
  · rw [if_neg hby] at hy
    have hbv : b ≠ bv := by rintro rfl; rw [hb] at hy; cases hy
    refine ⟨y, ?_, rfl, rfl, rfl, fun k v v' q1 q2 => ?_⟩
    · simp only [set_at]
      rw [if_neg hby, if_neg hbv]; exact hy
    · rw [q1] at q2
      cases q2
      exact ⟨.same _, h2 b y hy v (List.mem_of_getElem? q1)⟩
end
end Go.Av
end
