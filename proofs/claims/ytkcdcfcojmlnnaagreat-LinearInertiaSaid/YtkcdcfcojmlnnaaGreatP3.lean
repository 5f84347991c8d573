/- A part of the proof. -/
import Derived.Test.YtkcdcfcojmlnnaaGreatP2
set_option linter.all false
set_option exponentiation.threshold 5000
set_option maxRecDepth 10000
section
namespace Go.Av
open Go.Proofs
theorem ones_set {bl : Nat} {x : Blk} (h : ∀ v ∈ x.l, v.cells.all AV.one = true) : ∀ (b : Nat) (y : Blk), (Mem.emp.set bl x) b = some y → ∀ v ∈ y.l, v.cells.all AV.one = true := by
  intro b y hy
  simp only [set_at] at hy
  split at hy
  · cases hy; exact h
  · cases hy
theorem ones_u32s (bl : Nat) (w : List Nat) : ∀ (b : Nat) (x : Blk), (Mem.emp.set bl ⟨87, 1, u32s w⟩) b = some x → ∀ v ∈ x.l, v.cells.all AV.one = true :=
  ones_set fun v hv => by
    obtain ⟨n, _, rfl⟩ := List.mem_map.1 hv
    rfl
theorem take_call (u v : List Nat) (j n q bl : Nat) (hbu : Lb u) (hbv : Lb v) (hn : v.length = n) (hj : j + n < u.length) (hl : u.length < 2^40) (hq : q < 4294967296) (hlt : val u < val v * 4294967296 ^ (j + 1))
    (hq1 : val u / 4294967296 ^ j < (q + 1) * val v) (hq2 : q * val v < val u / 4294967296 ^ j + val v) :
    ACall Tryz.prog 141 [.osl bl 1 0 u.length, .int .i64 j, lim v, .int .u64 q] (Mem.emp.set bl ⟨87, 1, u32s u⟩) fun r m => ∃ u' : List Nat, r = .int .u32 ((val u / 4294967296 ^ j / val v : Nat)) ∧ m = Mem.emp.set bl ⟨87, 1, u32s u'⟩ ∧ Lb u' ∧ u'.length = u.length ∧ val u' = val u % (val v * 4294967296 ^ j) := by
  refine acall_S Tryz.func141 rfl rfl 124 rfl (Nat.le_of_ble_eq_true rfl) ?_
  have hV : val v < 4294967296 ^ n := by rw [← hn]; exact val_lt hbv
  have hU : val u < 4294967296 ^ (j + n + 1) := by
    calc val u < val v * 4294967296 ^ (j + 1) := hlt
      _ ≤ 4294967296 ^ n * 4294967296 ^ (j + 1) := Nat.mul_le_mul_right _ (Nat.le_of_lt hV)
      _ = 4294967296 ^ (j + n + 1) := by rw [← Nat.pow_add]; congr 1; omega
  have hVB : val v * 4294967296 ^ j ≤ 4294967296 ^ (j + n + 1) := by
    calc val v * 4294967296 ^ j ≤ 4294967296 ^ n * 4294967296 ^ j := Nat.mul_le_mul_right _ (Nat.le_of_lt hV)
      _ = 4294967296 ^ (j + n) := by rw [← Nat.pow_add]; congr 1; omega
      _ ≤ 4294967296 ^ (j + n + 1) := Nat.pow_le_pow_right (by omega) (by omega)
  have hB : 0 < 4294967296 ^ j := Nat.pow_pos (by omega)
  have hq3 : q % 4294967296 = q := Nat.mod_eq_of_lt hq
  have wn : IntKind.i64.wrap ((j + n : Nat) : Int) = ((j + n : Nat) : Int) := wi (by omega)
  clear hlt
  (repeat refine AW.seq_k fun K hK => ?_); refine AW.rg ?_; simp [-Int.natCast_ediv, -Int.natCast_pow, argsL]; try (refine hK _ rfl ?_; clear hK; clear K)
  (repeat refine AW.seq_k fun K hK => ?_); refine AW.rg ?_; simp [-Int.natCast_ediv, -Int.natCast_pow]; try (refine hK _ rfl ?_; clear hK; clear K)
  refine AW.seq_ex (ι := List Nat × Nat × Nat) (fun z => [(0, .osl bl 1 0 u.length), (1, .int .i64 j), (2, lim v), (3, .int .u64 (q : Nat)), (9, .int .u64 (z.2.1 : Nat)), (10, .int .u64 (z.2.2 : Nat))]) (fun z => Mem.emp.set bl ⟨87, 1, u32s z.1⟩)
    (fun z => Lb z.1 ∧ z.1.length = u.length ∧ z.2.1 < 4294967296 ∧ z.2.2 ≤ 1 ∧ z.1.drop (j + n + 1) = u.drop (j + n + 1) ∧ val z.1 + q * val v * 4294967296 ^ j = val u + 4294967296 ^ (j + n) * (z.2.1 + z.2.2)) ?_ ?_
  · (repeat refine AW.seq_k fun K hK => ?_); refine AW.rg ?_; simp [-Int.natCast_ediv, -Int.natCast_pow, hn]; try (refine hK _ rfl ?_; clear hK; clear K)
    refine AW.block (AW.loopS (ι := Nat × List Nat × Nat × Nat) (fun z => [(0, .osl bl 1 0 u.length), (1, .int .i64 j), (2, lim v), (3, .int .u64 (q : Nat)), (9, .int .u64 (z.2.2.1 : Nat)), (10, .int .u64 (z.2.2.2 : Nat)), (18, .int .i64 (n : Nat)), (19, .int .i64 (z.1 : Nat))]) (fun z => Mem.emp.set bl ⟨87, 1, u32s z.2.1⟩)
      (fun z => z.1 ≤ n ∧ Lb z.2.1 ∧ z.2.1.length = u.length ∧ z.2.2.1 < 4294967296 ∧ z.2.2.2 ≤ 1 ∧ z.2.1.drop (j + n + 1) = u.drop (j + n + 1) ∧ val z.2.1 + q * val (v.take z.1) * 4294967296 ^ j = val u + 4294967296 ^ (j + z.1) * (z.2.2.1 + z.2.2.2)) (fun z => n - z.1) (0, u, 0, 0) ⟨by simp, hbu, rfl, by simp, by simp, rfl, by simp [val]⟩ rfl (by simp) ?_)
    rintro ⟨i, w, c, bo⟩ ⟨h1, h2, h3, h4, h5, h6, h7⟩
    simp only at h1 h2 h3 h4 h5 h6 h7; simp only; (repeat refine AW.seq_k fun K hK => ?_); refine AW.rg ?_; simp [-Int.natCast_ediv, -Int.natCast_pow]; try (refine hK _ rfl ?_; clear hK; clear K)
    (repeat refine AW.seq ?_)
    refine AW.cs (fun hi => ?_) (fun hi => ?_) rfl <;> simp at hi
    · refine AW.skip ?_
      try simp [-Int.natCast_ediv, -Int.natCast_pow]
      have wji : IntKind.i64.wrap ((j + i : Nat) : Int) = ((j + i : Nat) : Int) := wi (by omega)
      have wi1 : IntKind.i64.wrap ((i + 1 : Nat) : Int) = ((i + 1 : Nat) : Int) := wi (by omega)
      have k1 := hbv.nth i
      have k2 := h2.nth (j + i)
      have iv : i < v.length := by omega
      have iu : j + i < w.length := by omega
      have iu2 : j + i < u.length := by omega
      have hset := val_set_eq w (j + i)
      have ht := val_take_getD v i
      generalize hvi : nth v i = vi at *
      generalize hx : nth w (j + i) = x at *
      have m1 := md64 k1
      have m2 := mul64 hq k1
      have p1 : q * vi + c < 18446744073709551616 := by
        have : q * vi ≤ 4294967295 * 4294967295 := Nat.mul_le_mul (by omega) (by omega)
        omega
      have m3 : (q * vi + c) % 18446744073709551616 = q * vi + c := Nat.mod_eq_of_lt p1
      have m4 := md64 k2
      have m5 := and_mask p1
      obtain ⟨t, d, bo', b1, b2, b3, b4, b5, b6⟩ := borrow_step k2 (r := (q * vi + c) % 4294967296) (Nat.mod_lt _ (by omega)) h5
      (repeat refine AW.seq ?_); refine AW.block ?_; (repeat refine AW.seq_k fun K hK => ?_); refine AW.rg ?_; simp [-Int.natCast_ediv, -Int.natCast_pow]; try (refine hK _ rfl ?_; clear hK; clear K)
      (repeat refine AW.seq_k fun K hK => ?_); refine AW.rg ?_; simp [-Int.natCast_add, -Int.natCast_ediv, -Int.natCast_pow, -Int.natCast_mul, iv, hvi, m1, m2, m3]; try (refine hK _ rfl ?_; clear hK; clear K)
      (repeat refine AW.seq_k fun K hK => ?_); refine AW.rg ?_; simp [-Int.natCast_ediv, -Int.natCast_pow, -Int.natCast_add, -Int.natCast_mul]; try (refine hK _ rfl ?_; clear hK; clear K)
      (repeat refine AW.seq_k fun K hK => ?_); refine AW.rg ?_; simp [-Int.natCast_emod, -Int.natCast_add, -Int.natCast_ediv, -Int.natCast_mul, wji, hx, m4, m5, b1, iu, iu2]; try (refine hK _ rfl ?_; clear hK; clear K)
      (repeat refine AW.seq_k fun K hK => ?_); refine AW.rg ?_; simp [-Int.natCast_ediv, -Int.natCast_add, -Int.natCast_emod, -Int.natCast_mul, wji, b2, iu, iu2]; try (refine hK _ rfl ?_; clear hK; clear K)
      (repeat refine AW.seq_k fun K hK => ?_); refine AW.rg ?_; simp [-Int.natCast_mul, -Int.natCast_ediv, -Int.natCast_emod, -Int.natCast_add, b3]; try (refine hK _ rfl ?_; clear hK; clear K)
      (repeat refine AW.seq_k fun K hK => ?_); refine AW.rg ?_; simp [-Int.natCast_mul, -Int.natCast_ediv, -Int.natCast_emod, -Int.natCast_add, wi1]; try (refine hK _ rfl ?_; clear hK; clear K)
      refine ⟨i + 1, w.set (j + i) d, (q * vi + c) / 4294967296, bo', ⟨hi, h2.set _ _ b5, by simpa using h3, Nat.div_lt_of_lt_mul p1, b4, by rw [List.drop_set_of_lt (by omega)]; exact h6, ?_⟩, by omega, rfl, rfl, rfl, rfl⟩
      have e1 := hset d iu
      have e2 := take_step h7 e1 b6 (Nat.div_add_mod (q * vi + c) 4294967296).symm rfl
      rw [ht]; rw [← Nat.add_assoc, Nat.pow_succ, ← e2]
      congr 1
      rw [Nat.mul_add, Nat.add_mul, Nat.pow_add]
      congr 1
      ac_rfl
    · refine AW.exit ?_
      try simp [-Int.natCast_ediv, -Int.natCast_pow]
      have : i = n := by omega
      subst this
      rw [List.take_of_length_le (by omega)] at h7
      exact ⟨w, c, bo, ⟨h2, h3, h4, h5, h6, h7⟩, rfl, rfl, rfl⟩
  rintro ⟨w, c, bo⟩ ⟨h2, h3, h4, h5, h6, h7⟩
  simp only at h2 h3 h4 h5 h6 h7; simp only
  have k2 := h2.nth (j + n)
  have iu : j + n < w.length := by omega
  have hset := val_set_eq w (j + n)
  generalize hx : nth w (j + n) = x at *
  have m4 := md64 k2
  obtain ⟨t, d, bo', b1, b2, b3, b4, b5, b6⟩ := borrow_step k2 (r := c) h4 h5
  have e1 := hset d iu
  have e2 : val (w.set (j + n) d) + q * val v * 4294967296 ^ j = val u + 4294967296 ^ (j + n + 1) * bo' := by
    have g := take_step (qv := 0) (c' := 0) h7 e1 b6 (p := c) (by omega) (by omega)
    rw [Nat.zero_mul, Nat.add_zero, Nat.zero_add] at g
    rw [Nat.pow_succ]; exact g
  have hLb : Lb (w.set (j + n) d) := h2.set _ _ b5
  have hdr : (w.set (j + n) d).drop (j + n + 1) = u.drop (j + n + 1) := by rw [List.drop_set_of_lt (by omega)]; exact h6
  have hlen : (w.set (j + n) d).length = u.length := by simpa using h3
  clear h2 h6 h7 hset e1 b6
  (repeat refine AW.seq_k fun K hK => ?_); refine AW.rg ?_; simp [-Int.natCast_add, -Int.natCast_ediv, -Int.natCast_pow, hn, wn, hx, m4, b1, hj, iu]; try (refine hK _ rfl ?_; clear hK; clear K)
  (repeat refine AW.seq_k fun K hK => ?_); refine AW.rg ?_; simp [-Int.natCast_ediv, -Int.natCast_pow, -Int.natCast_add, hn, wn, b2, hj, iu]; try (refine hK _ rfl ?_; clear hK; clear K)
  generalize w.set (j + n) d = w1 at *
  clear hx
  refine AW.seq_ex (ι := Unit) (fun _ => [(0, .osl bl 1 0 u.length), (1, .int .i64 j), (2, lim v), (3, .int .u64 (q : Nat))]) (fun _ => Mem.emp.set bl ⟨87, 1, u32s w1⟩) (fun _ => bo' = 1) ?_ ?_
  · (repeat refine AW.seq_k fun K hK => ?_); refine AW.rg ?_; simp [-Int.natCast_ediv, -Int.natCast_pow, -Int.natCast_add, b3]; try (refine hK _ rfl ?_; clear hK; clear K)
    (repeat refine AW.seq ?_)
    refine AW.cs (fun hb => ?_) (fun hb => ?_) rfl <;> simp at hb
    · subst hb; (repeat refine AW.seq_k fun K hK => ?_); refine AW.rg ?_; simp [-Int.natCast_ediv, -Int.natCast_pow, -Int.natCast_add, hq3]; try (refine hK _ rfl ?_; clear hK; clear K)
      obtain ⟨g1, g2⟩ := take_end0 hB (e2.trans (by rw [Nat.mul_zero, Nat.add_zero])) hq1
      exact AW.ret (ret_mem rfl (ones_u32s _ _) ⟨w1, by rw [g1]; rfl, rfl, hLb, hlen, g2⟩)
    · refine AW.skip ?_
      try simp [-Int.natCast_add, -Int.natCast_ediv, -Int.natCast_pow]
      exact Nat.le_antisymm b4 (Nat.pos_of_ne_zero hb)
  rintro _ rfl
  simp only [Nat.mul_one] at e2
  have hlt1 := val_lt_of_drop hLb hdr hU (by omega) hlen
  (repeat refine AW.seq_k fun K hK => ?_); refine AW.rg ?_; simp [-Int.natCast_ediv, -Int.natCast_pow]; try (refine hK _ rfl ?_; clear hK; clear K)
  refine AW.seq_ex (ι := List Nat × Nat) (fun z => [(0, .osl bl 1 0 u.length), (1, .int .i64 j), (2, lim v), (3, .int .u64 (q : Nat)), (9, .int .u64 (z.2 : Nat))]) (fun z => Mem.emp.set bl ⟨87, 1, u32s z.1⟩)
    (fun z => Lb z.1 ∧ z.1.length = u.length ∧ z.2 ≤ 1 ∧ z.1.drop (j + n + 1) = u.drop (j + n + 1) ∧ val z.1 + 4294967296 ^ (j + n) * z.2 = val w1 + val v * 4294967296 ^ j) ?_ ?_
  · (repeat refine AW.seq_k fun K hK => ?_); refine AW.rg ?_; simp [-Int.natCast_ediv, -Int.natCast_pow, hn]; try (refine hK _ rfl ?_; clear hK; clear K)
    refine AW.block (AW.loopS (ι := Nat × List Nat × Nat) (fun z => [(0, .osl bl 1 0 u.length), (1, .int .i64 j), (2, lim v), (3, .int .u64 (q : Nat)), (9, .int .u64 (z.2.2 : Nat)), (81, .int .i64 (n : Nat)), (82, .int .i64 (z.1 : Nat))]) (fun z => Mem.emp.set bl ⟨87, 1, u32s z.2.1⟩)
      (fun z => z.1 ≤ n ∧ Lb z.2.1 ∧ z.2.1.length = u.length ∧ z.2.2 ≤ 1 ∧ z.2.1.drop (j + n + 1) = u.drop (j + n + 1) ∧ val z.2.1 + 4294967296 ^ (j + z.1) * z.2.2 = val w1 + val (v.take z.1) * 4294967296 ^ j) (fun z => n - z.1) (0, w1, 0) ⟨by simp, hLb, hlen, by simp, hdr, by simp [val]⟩ rfl (by simp) ?_)
    rintro ⟨i, w, c⟩ ⟨h1, h2, h3, h5, h6, h7⟩
    simp only at h1 h2 h3 h5 h6 h7; simp only; (repeat refine AW.seq_k fun K hK => ?_); refine AW.rg ?_; simp [-Int.natCast_ediv, -Int.natCast_pow]; try (refine hK _ rfl ?_; clear hK; clear K)
    (repeat refine AW.seq ?_)
    refine AW.cs (fun hi => ?_) (fun hi => ?_) rfl <;> simp at hi
    · refine AW.skip ?_
      try simp [-Int.natCast_ediv, -Int.natCast_pow]
      have wji : IntKind.i64.wrap ((j + i : Nat) : Int) = ((j + i : Nat) : Int) := wi (by omega)
      have wi1 : IntKind.i64.wrap ((i + 1 : Nat) : Int) = ((i + 1 : Nat) : Int) := wi (by omega)
      have k1 := hbv.nth i
      have k2 := h2.nth (j + i)
      have iv : i < v.length := by omega
      have iu : j + i < w.length := by omega
      have iu2 : j + i < u.length := by omega
      have hset := val_set_eq w (j + i)
      have ht := val_take_getD v i
      generalize hvi : nth v i = vi at *
      generalize hx : nth w (j + i) = x at *
      have m1 := md64 k1
      have m2 := md64 k2
      have m3 := add64 k2 k1
      have m4 : (x + vi + c) % 18446744073709551616 = x + vi + c := by omega
      (repeat refine AW.seq ?_); refine AW.block ?_; (repeat refine AW.seq_k fun K hK => ?_); refine AW.rg ?_; simp [-Int.natCast_ediv, -Int.natCast_pow]; try (refine hK _ rfl ?_; clear hK; clear K)
      (repeat refine AW.seq_k fun K hK => ?_)
      refine AW.rdA bl [0, 1, 2, 3, 4, 5, 6, 7, 8, 9, 10, 11, 12, 13, 14, 15] mix (by simp) ?_
      simp [-Int.natCast_ediv, -Int.natCast_pow, -Int.natCast_add, wji, iv, hvi, hx, m1, m2, m3, m4, iu, iu2]; try (refine hK _ rfl ?_; clear hK; clear K)
      (repeat refine AW.seq_k fun K hK => ?_); refine AW.rg ?_; simp [-Int.natCast_ediv, -Int.natCast_emod, -Int.natCast_pow, -Int.natCast_add, wji, iu, iu2]; try (refine hK _ rfl ?_; clear hK; clear K)
      (repeat refine AW.seq_k fun K hK => ?_); refine AW.rg ?_; simp [-Int.natCast_ediv, -Int.natCast_pow, -Int.natCast_add, -Int.natCast_emod]; try (refine hK _ rfl ?_; clear hK; clear K)
      (repeat refine AW.seq_k fun K hK => ?_); refine AW.rg ?_; simp [-Int.natCast_emod, -Int.natCast_add, -Int.natCast_ediv, wi1]; try (refine hK _ rfl ?_; clear hK; clear K)
      refine ⟨i + 1, w.set (j + i) ((x + vi + c) % 4294967296), (x + vi + c) / 4294967296, ⟨hi, h2.set _ _ (Nat.mod_lt _ (by omega)), by simpa using h3, by omega, by rw [List.drop_set_of_lt (by omega)]; exact h6, ?_⟩, by omega, rfl, rfl, rfl⟩
      have e1 := hset ((x + vi + c) % 4294967296) iu
      have e3 := back_step h7 e1 rfl rfl
      rw [ht, ← Nat.add_assoc, Nat.pow_succ, e3, Nat.add_mul, Nat.pow_add, Nat.add_assoc]
      congr 2
      ac_rfl
    · refine AW.exit ?_
      try simp [-Int.natCast_ediv, -Int.natCast_pow]
      have : i = n := by omega
      subst this
      rw [List.take_of_length_le (by omega)] at h7
      exact ⟨w, ⟨h2, h3, h5, h6, h7⟩, rfl⟩
  rintro ⟨w, c⟩ ⟨h2, h3, h5, h6, h7⟩
  simp only at h2 h3 h5 h6 h7; simp only
  have k2 := h2.nth (j + n)
  have iu : j + n < w.length := by omega
  have hset := val_set_eq w (j + n)
  generalize hx : nth w (j + n) = x at *
  have m1 : c % 4294967296 = c := by omega
  have e3 := hset ((x + c) % 4294967296) iu
  have e4 := back_step (vi := 0) h7 e3 (by omega) rfl
  rw [Nat.zero_mul, Nat.add_zero, ← Nat.pow_succ] at e4
  have hLb2 : Lb (w.set (j + n) ((x + c) % 4294967296)) := h2.set _ _ (Nat.mod_lt _ (by omega))
  have hdr2 : (w.set (j + n) ((x + c) % 4294967296)).drop (j + n + 1) = u.drop (j + n + 1) := by rw [List.drop_set_of_lt (by omega)]; exact h6
  have hlen2 : (w.set (j + n) ((x + c) % 4294967296)).length = u.length := by simpa using h3
  have hlt2 := val_lt_of_drop hLb2 hdr2 hU (by omega) hlen2
  obtain ⟨q1, g1, g2⟩ := take_end1 hB e2 hlt1 hq2 e4 hlt2 (by omega) hVB
  obtain ⟨q, rfl⟩ : ∃ p, q = p + 1 := ⟨q - 1, (Nat.sub_add_cancel q1).symm⟩
  have w6 : ((q + 1 : Nat) : Int) - 1 = (q : Int) := by rw [Int.natCast_add]; exact Int.add_sub_cancel _ _
  have m7 : q % 18446744073709551616 = q := by omega
  have m8 : q % 4294967296 = q := by omega
  (repeat refine AW.seq_k fun K hK => ?_); refine AW.rg ?_; simp [-Int.natCast_ediv, -Int.natCast_emod, -Int.natCast_pow, -Int.natCast_add, hn, wn, hx, m1, hj, iu]; try (refine hK _ rfl ?_; clear hK; clear K)
  (repeat refine AW.seq_k fun K hK => ?_); refine AW.rg ?_; simp [-Int.natCast_ediv, -Int.natCast_pow, -Int.natCast_add, -Int.natCast_emod, w6, m7, m8]; try (refine hK _ rfl ?_; clear hK; clear K)
  exact AW.ret (ret_mem rfl (ones_u32s _ _) ⟨_, by rw [g1]; rfl, rfl, hLb2, hlen2, g2⟩)
end Go.Av
end
section
namespace Go.Av
open Go.Proofs
theorem ileft_call (x n : Nat) (hn : n < 2^40) (lx : (dig x).length < 2^40) : ACall Tryz.prog 140 [lim (dig x), .int .i64 n] Mem.emp fun v m => v = lim (dig (x * 2 ^ n)) ∧ m = Mem.emp := by
  refine acall_S Tryz.func140 rfl rfl 52 rfl (Nat.le_of_ble_eq_true rfl) ?_
  have hw : IntKind.i64.wrap ((n / 32 : Nat) : Int) = ((n / 32 : Nat) : Int) := wi (by omega)
  have hx := val_dig x
  have hb := dig_lb x
  have hnth := nth_dig x
  generalize ha : dig x = a at *
  have hx2 : x < 4294967296 ^ a.length := by rw [← hx]; exact val_lt hb
  have hw1 : IntKind.i64.wrap ((a.length + n / 32 : Nat) : Int) = ((a.length + n / 32 : Nat) : Int) := wi (by omega)
  have hw3 : IntKind.i64.wrap ((a.length + n / 32 + 1 : Nat) : Int) = ((a.length + n / 32 + 1 : Nat) : Int) := wi (by omega)
  (repeat refine AW.seq ?_); refine AW.rg ?_; simp [argsL]; (repeat refine AW.seq ?_); refine AW.rg ?_; simp [-Int.natCast_mul, -Int.natCast_add, -Int.natCast_ediv, hw, hw1, hw3]
  refine ⟨by omega, Fresh.intro fun bl _ => ?_⟩
  generalize hN : a.length + n / 32 + 1 = N at *
  have hpow : 2 ^ (n % 32) * 2 ^ (32 - n % 32) = 4294967296 := by rw [← Nat.pow_add, show n % 32 + (32 - n % 32) = 32 by omega]
  have hr : n % 32 < 32 := Nat.mod_lt _ (by omega)
  have hn2 : 2 ^ n = 4294967296 ^ (n / 32) * 2 ^ (n % 32) := by rw [B_pow, ← Nat.pow_add, Nat.div_add_mod]
  refine AW.seq_ex (ι := List Nat) (fun o => [(5, .osl bl 1 0 o.length)]) (fun o => Mem.emp.set bl ⟨87, 1, u32s o⟩) (fun o => Lb o ∧ val o = x * 2 ^ n ∧ o.length < 2^42) ?_ ?_
  · (repeat refine AW.seq ?_); refine AW.rg ?_; simp [-Int.natCast_add, -Int.natCast_ediv]
    refine AW.block (AW.loopS (ι := Nat × List Nat) (fun x => [(0, lim a), (1, .int .i64 n), (5, .osl bl 1 0 N), (16, .int .i64 a.length), (17, .int .i64 (x.1 : Nat))]) (fun x => Mem.emp.set bl ⟨87, 1, u32s x.2⟩)
      (fun y => y.1 ≤ a.length ∧ Lb y.2 ∧ y.2.length = N ∧ nth y.2 (y.1 + n / 32) < 2 ^ (n % 32) ∧ val (y.2.take (y.1 + n / 32 + 1)) = x % 4294967296 ^ y.1 * 2 ^ n) (fun y => a.length - y.1) (0, List.replicate N 0) ⟨by simp, Lb.rep _, by simp, by simp [Nat.pow_pos], by simp [val_rep, Nat.mod_one]⟩ (by simp [u32s_rep]) (by simp [-Int.natCast_add, -Int.natCast_ediv]) ?_)
    rintro ⟨i, o⟩ ⟨h1, h3, h4, h6, h5⟩
    simp only at h1 h3 h4 h5 h6; simp only; (repeat refine AW.seq ?_); refine AW.rg ?_; simp; (repeat refine AW.seq ?_)
    refine AW.cs (fun hi => ?_) (fun hi => ?_) rfl <;> simp at hi
    · refine AW.skip ?_; try simp
      have hw4 : IntKind.i64.wrap ((i + n / 32 : Nat) : Int) = ((i + n / 32 : Nat) : Int) := wi (by omega)
      have hw5 : IntKind.i64.wrap ((i + n / 32 + 1 : Nat) : Int) = ((i + n / 32 + 1 : Nat) : Int) := wi (by omega)
      have hw6 : IntKind.i64.wrap ((i + 1 : Nat) : Int) = ((i + 1 : Nat) : Int) := wi (by omega)
      have hm : min (n % 32) 64 = n % 32 := by omega
      have q1 := hb.nth i
      have q2 := h3.nth (i + n / 32)
      (repeat refine AW.seq ?_); refine AW.block ?_; (repeat refine AW.seq ?_); refine AW.rg ?_; simp
      generalize hd : nth a i = d at *
      have q3 : d * 2 ^ (n % 32) < 18446744073709551616 := by
        have : 2 ^ (n % 32) ≤ 2 ^ 32 := Nat.pow_le_pow_right (by omega) (by omega)
        calc d * 2 ^ (n % 32) ≤ d * 2 ^ 32 := Nat.mul_le_mul_left _ this
          _ < 18446744073709551616 := by omega
      have q4 : d * 2 ^ (n % 32) % 18446744073709551616 = d * 2 ^ (n % 32) := Nat.mod_eq_of_lt q3
      (repeat refine AW.seq ?_); refine AW.rg ?_; simp [-Int.natCast_mul, -Int.natCast_pow, -Int.natCast_emod, hi, hd, hm, q4]
      have q5 : bitw .or .u32 (nth o (i + n / 32) : Int) ((d * 2 ^ (n % 32) % 4294967296 : Nat) : Int) = ((nth o (i + n / 32) + d * 2 ^ (n % 32) % 4294967296 : Nat) : Int) := by
        rw [or_u32 q2 (Nat.mod_lt _ (by omega)), or_low (by omega) h6]
      have q6 : i + n / 32 < N := by omega
      have q7 : i + n / 32 + 1 < N := by omega
      (repeat refine AW.seq ?_); refine AW.rg ?_; simp [-Int.natCast_add, -Int.natCast_ediv, -Int.natCast_emod, -Int.natCast_mul, -Int.natCast_pow, hw, hw4, h4, q6, q5]; (repeat refine AW.seq ?_); refine AW.rg ?_; simp [-Int.natCast_ediv, -Int.natCast_add, -Int.natCast_emod, -Int.natCast_mul, -Int.natCast_pow, hw, hw4, hw5, h4, q7]
      have q8 : d * 2 ^ (n % 32) / 4294967296 < 2 ^ (n % 32) := by
        refine Nat.div_lt_of_lt_mul ?_
        exact Nat.mul_lt_mul_of_pos_right q1 (Nat.pow_pos (n := n % 32) (show 0 < 2 by omega))
      have q9 : nth o (i + n / 32) + d * 2 ^ (n % 32) % 4294967296 < 4294967296 := by
        rw [← or_low (show n % 32 ≤ 32 by omega) h6]
        exact Nat.or_lt_two_pow (n := 32) q2 (Nat.mod_lt _ (by omega))
      (repeat refine AW.seq ?_); refine AW.rg ?_; simp [-Int.natCast_add, -Int.natCast_ediv, -Int.natCast_emod, -Int.natCast_mul, -Int.natCast_pow, hw6]
      refine ⟨i + 1, _, ⟨by omega, (h3.set _ _ q9).set _ _ (Nat.mod_lt _ (by omega)), by simpa using h4, ?_, ?_⟩, by omega, rfl, rfl⟩
      · rw [show i + 1 + n / 32 = i + n / 32 + 1 by omega, nth_set_eq _ (by rw [List.length_set]; omega)]
        exact Nat.lt_of_le_of_lt (Nat.mod_le _ _) q8
      · have q10 : d * 2 ^ (n % 32) / 4294967296 < 4294967296 := Nat.lt_of_lt_of_le q8 (Nat.pow_le_pow_right (n := 2) (by omega) (show n % 32 ≤ 32 by omega))
        rw [show i + 1 + n / 32 = i + n / 32 + 1 by omega, take_set_succ _ _ _ (by rw [List.length_set]; omega), take_set_succ _ _ _ (by omega), Nat.mod_eq_of_lt q10]
        rw [val_take_getD] at h5
        have c := carry_step (4294967296 ^ (i + n / 32)) (d * 2 ^ (n % 32))
        rw [mod_pow_step, ← hnth, hd, Nat.add_mul, ← h5, Nat.mul_add, Nat.pow_succ]
        have e : 4294967296 ^ i * d * 2 ^ n = 4294967296 ^ (i + n / 32) * (d * 2 ^ (n % 32)) := by
          rw [hn2, Nat.pow_add]
          ac_rfl
        rw [e, ← c]; omega
    · refine AW.exit ?_
      try simp
      refine ⟨o, ⟨h3, ?_, by omega⟩, by simp [h4]⟩
      have : i = a.length := by omega
      subst this
      rw [val_take_of_le o _ (by omega)] at h5
      rw [h5, Nat.mod_eq_of_lt hx2]
  · rintro o ⟨h1, h2, h3⟩
    refine AW.toEmp [(5, lim o)] (by simp; exact view_osl (e := 87) (by simp)) ?_
    (repeat refine AW.seq ?_); refine AW.rg ?_; simp
    refine CallK.val (trimmed_call o (by omega)) ?_
    try simp
    exact AW.ret (ret_emp rfl _ (.same _) ⟨by simp [trimL_eq h1, h2], rfl⟩)
theorem limb_or {h l : Nat} (hl : l < 4294967296) : l ||| h * 4294967296 = l + h * 4294967296 := by
  rw [Nat.or_comm, or_limb hl]; omega
theorem iright_call (x n : Nat) (hn : n < 2^40) (lx : (dig x).length < 2^40) : ACall Tryz.prog 143 [lim (dig x), .int .i64 n] Mem.emp fun v m => isRight (x / 2 ^ n) v ∧ m = Mem.emp := by
  refine acall_S Tryz.func143 rfl rfl 85 rfl (Nat.le_of_ble_eq_true rfl) ?_
  have hw : IntKind.i64.wrap ((n / 32 : Nat) : Int) = ((n / 32 : Nat) : Int) := wi (by omega)
  have hx := val_dig x
  have hb := dig_lb x
  have hnth := nth_dig x
  generalize ha : dig x = a at *
  have hx2 : x < 4294967296 ^ a.length := by rw [← hx]; exact val_lt hb
  (repeat refine AW.seq ?_); refine AW.rg ?_; simp [argsL]; (repeat refine AW.seq ?_); refine AW.rg ?_; simp [-Int.natCast_ediv, hw]; (repeat refine AW.seq ?_); refine AW.rg ?_; simp [-Int.natCast_ediv]; (repeat refine AW.seq ?_)
  refine AW.cs (fun h => ?_) (fun h => ?_) rfl <;> simp at h
  · (repeat refine AW.seq ?_); refine AW.rg ?_; simp [-Int.natCast_ediv]
    have : x / 2 ^ n = 0 := by
      have h3 := val_lt' hb h
      rw [B_pow] at h3
      have h4 : 2 ^ (32 * (n / 32)) ≤ 2 ^ n := Nat.pow_le_pow_right (by omega) (by omega)
      exact Nat.div_eq_of_lt (by omega)
    exact AW.ret (ret_views [lim [], .bool (decide (0 < a.length))] rfl (by simp [-Int.natCast_ediv]) ⟨⟨decide (0 < a.length), by simp [this, dig_zero]⟩, rfl⟩)
  · refine AW.skip ?_
    try simp [-Int.natCast_ediv]
    have htr := trimmed_call (a.take (n / 32)) (by simp; omega)
    generalize trimL (a.take (n / 32)) = T at htr
    have hm5 : min (n % 32) 32 = n % 32 := by omega
    refine AW.seq_ex (ι := Bool) (fun t => [(0, lim a), (1, .int .i64 n), (6, .int .i64 (n / 32 : Nat)), (7, .bool t)]) (fun _ => Mem.emp) (fun _ => True) ?_ ?_
    · (repeat refine AW.seq ?_)
      refine AW.rd [0, 1, 2, 3, 4, 5, 6, 7, 8, 9, 10, 11, 12, 13, 14, 15, 16, 17, 18] mix ?_
      simp [-Int.natCast_ediv]
      refine ⟨by omega, ?_⟩
      refine CallK.val htr ?_
      try simp [-Int.natCast_emod, -Int.natCast_ediv]
      by_cases hz : T = []
      · subst hz; simp [h, hm5]
        exact Classical.em _
      · simp [hz]
    · rintro t -
      have hw3 : IntKind.i64.wrap ((a.length : Int) - ((n / 32 : Nat) : Int)) = ((a.length - n / 32 : Nat) : Int) := by rw [lift_sub (by omega)]; exact wi (by omega)
      (repeat refine AW.seq ?_); refine AW.rg ?_; simp [-Int.natCast_mul, -Int.natCast_ediv, hw, hw3]
      refine ⟨by omega, Fresh.intro fun bl _ => ?_⟩
      generalize hN : a.length - n / 32 = N at *
      simp only [u32s_rep]
      refine AW.seq_ex (ι := List Nat) (fun o => [(7, .bool t), (8, .osl bl 1 0 o.length)]) (fun o => Mem.emp.set bl ⟨87, 1, u32s o⟩) (fun o => Lb o ∧ val o = x / 2 ^ n ∧ o.length < 2^41) ?_ ?_
      · (repeat refine AW.seq ?_); refine AW.rg ?_; simp [-Int.natCast_ediv]
        refine AW.block (AW.loopS (ι := Nat × List Nat) (fun x => [(0, lim a), (1, .int .i64 n), (6, .int .i64 (n / 32 : Nat)), (7, .bool t), (8, .osl bl 1 0 N), (44, .int .i64 N), (45, .int .i64 (x.1 : Nat))]) (fun x => Mem.emp.set bl ⟨87, 1, u32s x.2⟩)
          (fun y => y.1 ≤ N ∧ Lb y.2 ∧ y.2.length = N ∧ val (y.2.take y.1) = x / 2 ^ n % 4294967296 ^ y.1) (fun x => N - x.1) (0, List.replicate N 0) ⟨by simp, Lb.rep _, by simp, by simp [val, Nat.mod_one]⟩ rfl (by simp [-Int.natCast_ediv]) ?_)
        rintro ⟨i, o⟩ ⟨h1, h3, h4, h5⟩
        simp only at h1 h3 h4 h5; simp only; (repeat refine AW.seq ?_); refine AW.rg ?_; simp [-Int.natCast_ediv]; (repeat refine AW.seq ?_)
        refine AW.cs (fun hi => ?_) (fun hi => ?_) rfl <;> simp at hi
        · refine AW.skip ?_
          try simp [-Int.natCast_ediv]
          have hw4 : IntKind.i64.wrap ((i + n / 32 : Nat) : Int) = ((i + n / 32 : Nat) : Int) := wi (by omega)
          have hw5 : IntKind.i64.wrap ((i + n / 32 + 1 : Nat) : Int) = ((i + n / 32 + 1 : Nat) : Int) := wi (by omega)
          have hw6 : IntKind.i64.wrap ((i + 1 : Nat) : Int) = ((i + 1 : Nat) : Int) := wi (by omega)
          have q1 := hb.nth (i + n / 32)
          have q2 := hb.nth (i + n / 32 + 1)
          have m1 : nth a (i + n / 32) % 18446744073709551616 = nth a (i + n / 32) := by omega
          have m2 : nth a (i + n / 32 + 1) % 18446744073709551616 = nth a (i + n / 32 + 1) := by omega
          have m3 : nth a (i + n / 32 + 1) * 4294967296 % 18446744073709551616 = nth a (i + n / 32 + 1) * 4294967296 := by omega
          have m4 : bitw .or .u64 (nth a (i + n / 32) : Int) ((nth a (i + n / 32 + 1) * 4294967296 : Nat) : Int) = ((nth a (i + n / 32) + nth a (i + n / 32 + 1) * 4294967296 : Nat) : Int) := by
            rw [or_u64 (by omega) (by omega), limb_or q1]
          (repeat refine AW.seq ?_); refine AW.block ?_; (repeat refine AW.seq ?_); refine AW.rg ?_; simp [-Int.natCast_ediv]; (repeat refine AW.seq ?_); refine AW.rg ?_; simp [-Int.natCast_add, -Int.natCast_ediv, hw4, m1]
          refine ⟨by omega, ?_⟩
          refine AW.seq_has [(0, lim a), (1, .int .i64 n), (6, .int .i64 (n / 32 : Nat)), (7, .bool t), (8, .osl bl 1 0 N), (9, .int .i64 (i : Nat)), (44, .int .i64 N), (45, .int .i64 (i : Nat)), (10, .int .u64 ((nth a (i + n / 32) + nth a (i + n / 32 + 1) * 4294967296 : Nat) : Int))] (Mem.emp.set bl ⟨87, 1, u32s o⟩) ?_ ?_
          · (repeat refine AW.seq ?_); refine AW.rg ?_; simp [-Int.natCast_add, -Int.natCast_ediv, hw4, hw5]; (repeat refine AW.seq ?_)
            refine AW.cs (fun hl => ?_) (fun hl => ?_) rfl <;> simp at hl
            · (repeat refine AW.seq ?_); refine AW.rg ?_; simp [-Int.natCast_mul, -Int.natCast_add, -Int.natCast_ediv, hw4, hw5, m2, m3, m4, hl]
            · refine AW.skip ?_
              try simp [-Int.natCast_add, -Int.natCast_mul, -Int.natCast_ediv]
              simp [nth_ge hl]
          · have hm : min (n % 32) 64 = n % 32 := by omega
            have e : (nth a (i + n / 32) + nth a (i + n / 32 + 1) * 4294967296) / 2 ^ (n % 32) % 4294967296 = x / 2 ^ n / 4294967296 ^ i % 4294967296 := by rw [← shift_digit, hnth, hnth]
            (repeat refine AW.seq ?_); refine AW.rg ?_; simp [-Int.natCast_emod, -Int.natCast_add, -Int.natCast_mul, -Int.natCast_ediv, hm, hi, h4, e]; (repeat refine AW.seq ?_); refine AW.rg ?_; simp [-Int.natCast_add, -Int.natCast_ediv, -Int.natCast_emod, -Int.natCast_mul, -Int.natCast_pow, hw6]
            refine ⟨i + 1, _, ⟨by omega, h3.set i _ (Nat.mod_lt _ (by omega)), by simpa using h4, ?_⟩, by omega, rfl, rfl⟩
            rw [take_set_succ _ _ _ (by omega), h5, mod_pow_step]
        · have hiN : i = N := by omega
          refine AW.exit ?_
          try simp [-Int.natCast_ediv]
          refine ⟨o, ⟨h3, ?_, by omega⟩, rfl, h4.symm⟩
          rw [val_take_of_le o i (by omega)] at h5
          rw [h5]
          apply Nat.mod_eq_of_lt
          refine Nat.div_lt_of_lt_mul (Nat.lt_of_lt_of_le hx2 ?_)
          rw [B_pow, B_pow, ← Nat.pow_add]
          exact Nat.pow_le_pow_right (by omega) (by omega)
      · rintro o ⟨h1, h2, h3⟩
        refine AW.toEmp [(7, .bool t), (8, lim o)] (by simp; exact view_osl (e := 87) (by simp)) ?_
        (repeat refine AW.seq ?_); refine AW.rg ?_; simp
        refine CallK.val (trimmed_call o (by omega)) ?_
        rw [trimL_eq h1, h2]; try simp
        exact AW.ret (ret_views [lim (dig (x / 2 ^ n)), .bool t] rfl (by simp) ⟨⟨_, rfl⟩, rfl⟩)
end Go.Av
end
section
namespace Go.Av
open Go.Proofs
def cmpI (x y : Int) : Int := if x < y then -1 else if x = y then 0 else 1
theorem icmp_call (x y : Int) (hx : x.natAbs < B128) (hy : y.natAbs < B128) : ACall Tryz.prog 153 [intAV x, intAV y] Mem.emp fun v m => v = .tup [.int .i64 (cmpI x y), .int .i64 0] ∧ m = Mem.emp := by
  have hb := both_ok x y hx hy
  have lx := dig_128 hx
  have ly := dig_128 hy
  have hc := compare_call x.natAbs y.natAbs (by omega) (by omega)
  have ho : -1 ≤ ordI x.natAbs y.natAbs ∧ ordI x.natAbs y.natAbs ≤ 1 := by unfold ordI; split <;> (try split) <;> omega
  have hw : IntKind.i64.wrap (0 - ordI x.natAbs y.natAbs) = 0 - ordI x.natAbs y.natAbs := wi' (by omega)
  unfold intAV at *
  refine acall_S Tryz.func153 rfl rfl 32 rfl (Nat.le_of_ble_eq_true rfl) ?_
  (repeat refine AW.seq ?_)
  refine AW.rgR [2,3] ?_
  simp [argsL]; (repeat refine AW.seq ?_); refine AW.rg ?_; simp; refine CallK.val hb ?_; try simp
  refine AW.no ?_ rfl; refine AW.skip ?_; try simp
  (repeat refine AW.seq ?_); refine AW.rg ?_; simp; refine CallK.val hc ?_; try simp
  by_cases cx : x < 0
  · by_cases cy : y < 0
    · have e : cmpI x y = 0 - ordI x.natAbs y.natAbs := by
        unfold cmpI ordI; split <;> split <;> (try split) <;> (try split) <;> omega
      (repeat refine AW.seq ?_); refine AW.block ?_; (repeat refine AW.seq ?_); refine AW.rg ?_; simp [cx, cy]; refine AW.yes ?_ rfl
      simp only [Int.zero_sub] at hw
      (repeat refine AW.seq ?_); refine AW.rg ?_; simp [hw]
      exact AW.ret (ret_views [.int .i64 (cmpI x y), .int .i64 0] rfl (by simp [e]) ⟨rfl, rfl⟩)
    · have e : cmpI x y = -1 := by unfold cmpI; rw [if_pos (by omega)]
      (repeat refine AW.seq ?_); refine AW.block ?_; (repeat refine AW.seq ?_); refine AW.rg ?_; simp [cx, cy]; refine AW.no ?_ rfl; (repeat refine AW.seq ?_); refine AW.rg ?_; simp [cx, cy]; refine AW.yes ?_ rfl; (repeat refine AW.seq ?_); refine AW.rg ?_; simp
      exact AW.ret (ret_views [.int .i64 (cmpI x y), .int .i64 0] rfl (by simp [e]) ⟨rfl, rfl⟩)
  · by_cases cy : y < 0
    · have e : cmpI x y = 1 := by unfold cmpI; rw [if_neg (by omega), if_neg (by omega)]
      (repeat refine AW.seq ?_); refine AW.block ?_; (repeat refine AW.seq ?_); refine AW.rg ?_; simp [cx, cy]; refine AW.no ?_ rfl; (repeat refine AW.seq ?_); refine AW.rg ?_; simp [cx, cy]; refine AW.no ?_ rfl; (repeat refine AW.seq ?_); refine AW.rg ?_; simp [cx, cy]; refine AW.yes ?_ rfl; (repeat refine AW.seq ?_); refine AW.rg ?_; simp
      exact AW.ret (ret_views [.int .i64 (cmpI x y), .int .i64 0] rfl (by simp [e]) ⟨rfl, rfl⟩)
    · have e : cmpI x y = ordI x.natAbs y.natAbs := by
        unfold cmpI ordI; split <;> split <;> (try split) <;> (try split) <;> omega
      refine AW.seq_has [(6, .int .i64 (ordI x.natAbs y.natAbs))] Mem.emp ?_ ?_
      · (repeat refine AW.seq ?_); refine AW.block ?_; (repeat refine AW.seq ?_); refine AW.rg ?_; simp [cx, cy]; refine AW.no ?_ rfl; (repeat refine AW.seq ?_); refine AW.rg ?_; simp [cx, cy]; refine AW.no ?_ rfl; (repeat refine AW.seq ?_); refine AW.rg ?_; simp [cx, cy]; refine AW.no ?_ rfl; refine AW.skip ?_; try simp
      · (repeat refine AW.seq ?_); refine AW.rg ?_; simp
        exact AW.ret (ret_views [.int .i64 (cmpI x y), .int .i64 0] rfl (by simp [e]) ⟨rfl, rfl⟩)
end Go.Av
end
section
namespace Go.Av
open Go.Proofs
theorem iof_call (n : Int) (h1 : -9223372036854775808 ≤ n) (h2 : n < 9223372036854775808) : ACall Tryz.prog 124 [.int .i64 n] Mem.emp fun v m => v = intAV n ∧ m = Mem.emp := by
  refine acall_S Tryz.func124 rfl rfl 25 rfl (Nat.le_of_ble_eq_true rfl) ?_
  have hB : B128 = 4294967296 ^ 126 * 4294967296 ^ 2 := by rw [← Nat.pow_add]; rfl
  have hp : 1 ≤ 4294967296 ^ 126 := Nat.pow_pos (by omega)
  have hlt : n.natAbs < B128 := by
    rw [hB]
    calc n.natAbs < 1 * 4294967296 ^ 2 := by omega
      _ ≤ _ := Nat.mul_le_mul_right _ hp
  (repeat refine AW.seq ?_); refine AW.rg ?_; simp [argsL]
  refine Fresh.intro fun b2 _ => ?_
  (repeat refine AW.seq ?_); refine AW.rg ?_; simp
  refine AW.seq_has [(0, .int .i64 n), (2, .ptr b2 2 0 0), (3, .int .u64 (n.natAbs : Nat))] (Mem.emp.set b2 ⟨34, 2, [.agg [.bool false, .nil]]⟩) ?_ ?_
  · (repeat refine AW.seq ?_); refine AW.rg ?_; simp; (repeat refine AW.seq ?_)
    refine AW.cs (fun hn => ?_) (fun hn => ?_) rfl <;> simp at hn
    · (repeat refine AW.seq ?_); refine AW.rg ?_; simp; omega
    · refine AW.skip ?_; try simp
      omega
  have m1 : n.natAbs / 4294967296 < 4294967296 := by omega
  have hv : val [n.natAbs % 4294967296, n.natAbs / 4294967296 % 4294967296] = n.natAbs := by simp [val]; omega
  have hr := result_call (decide (n < 0)) [n.natAbs % 4294967296, n.natAbs / 4294967296 % 4294967296] (fun z hz => by
    simp at hz
    rcases hz with rfl | rfl <;> exact Nat.mod_lt _ (by omega)) (by simp)
  have e : fitAV (if decide (n < 0) = true then -(val [n.natAbs % 4294967296, n.natAbs / 4294967296 % 4294967296] : Int) else val [n.natAbs % 4294967296, n.natAbs / 4294967296 % 4294967296]) = .tup [intAV n, .int .i64 0] := by
    rw [hv]
    have e2 : (if decide (n < 0) = true then -(n.natAbs : Int) else n.natAbs) = n := by
      by_cases hn : n < 0 <;> simp [hn] <;> omega
    rw [e2, fitAV, fz_ok hlt, fe_ok hlt]
  rw [e] at hr
  (repeat refine AW.seq ?_)
  refine AW.rgR [20] ?_
  simp [-Int.natCast_ediv, -Int.natCast_emod]; refine CallK.val hr ?_; simp [-Int.natCast_ediv, -Int.natCast_emod, intAV]
  refine Fresh.intro fun b4 h4 => ?_
  have e4 : b2 ≠ b4 := by rintro rfl; simp at h4
  (repeat refine AW.seq ?_); refine AW.rg ?_; simp [-Int.natCast_ediv, -Int.natCast_emod, e4]
  exact AW.ret (ret_views (vs := [.agg [.bool (decide (n < 0)), lim (dig n.natAbs)]]) [.agg [.bool (decide (n < 0)), lim (dig n.natAbs)]] (by simp [-Int.natCast_ediv, -Int.natCast_emod]) (by simp [-Int.natCast_ediv, -Int.natCast_emod]) ⟨rfl, rfl⟩)
end Go.Av
end
section
namespace Go.Av
open Go.Proofs
section
variable {P : Program} {av : Nat → Prop} {f : FuncId} {args : List AV} {m : Mem} {k : AV → Mem → Prop}
/-- A call that looks at owned memory. -/
theorem CallK.borrow {R : AV → Prop} (args' : List AV) (hv : viewsL m Mem.emp args args') (h : ACall P f args' Mem.emp fun v m' => R v ∧ m' = Mem.emp) (hk : ∀ v, R v → v.flat = true ∧ k v m) : CallK P av f args m k :=
  .inr ⟨args', _, ⟨(viewsL_spec hv).1, (viewsL_spec hv).2⟩, h, fun v _ hr => hk v hr.1⟩
/-- A call that is handed one block. -/
theorem CallK.grant {R : AV → Blk → Prop} (b : Nat) (x : Blk) (hb : m b = some x) (ha : ¬ av b) (h : ACall P f args (Mem.emp.set b x) fun v m' => ∃ x', R v x' ∧ m' = Mem.emp.set b x') (hk : ∀ v x', R v x' → k v (m.set b x')) : CallK P av f args m k := by
  refine .inl ⟨Mem.emp.set b x, _, fun c y hy => ?_, h, ?_⟩
  · simp only [set_at, emp_at] at hy
    split at hy
    · rename_i e; subst e; cases hy; exact ⟨hb, ha⟩
    · cases hy
  · rintro v g' ⟨x', hr, rfl⟩ _
    have e : merge m (Mem.emp.set b x) (Mem.emp.set b x') = m.set b x' := by
      funext c
      unfold merge
      simp only [set_at, emp_at]
      by_cases hc : c = b
      · simp [hc]
      · simp [hc]
    rw [e]
    exact hk v x' hr
end
theorem norm_bound {y lb s : Nat} (hs : s ≤ 32) (ht : y / 4294967296 ^ lb * 2 ^ s < 4294967296) : y * 2 ^ s < 4294967296 ^ (lb + 1) := by
  have hp : 0 < 4294967296 ^ lb := Nat.pow_pos (by omega)
  have h1 : y < 4294967296 ^ lb * (y / 4294967296 ^ lb + 1) := Nat.lt_mul_div_succ y hp
  have h2 : 2 ^ s * 2 ^ (32 - s) = 4294967296 := by rw [← Nat.pow_add, show s + (32 - s) = 32 by omega]
  generalize y / 4294967296 ^ lb = t at *
  have h3 : t < 2 ^ (32 - s) := by
    have : t * 2 ^ s < 2 ^ (32 - s) * 2 ^ s := by rw [Nat.mul_comm (2 ^ (32 - s)), h2]; exact ht
    exact Nat.lt_of_mul_lt_mul_right this
  have h4 : (t + 1) * 2 ^ s ≤ 4294967296 := by
    calc (t + 1) * 2 ^ s ≤ 2 ^ (32 - s) * 2 ^ s := Nat.mul_le_mul_right _ h3
      _ = 4294967296 := by rw [Nat.mul_comm, h2]
  calc y * 2 ^ s < 4294967296 ^ lb * (t + 1) * 2 ^ s := Nat.mul_lt_mul_of_pos_right h1 (Nat.pow_pos (by omega))
    _ = 4294967296 ^ lb * ((t + 1) * 2 ^ s) := Nat.mul_assoc _ _ _
    _ ≤ 4294967296 ^ lb * 4294967296 := Nat.mul_le_mul_left _ h4
    _ = 4294967296 ^ (lb + 1) := (Nat.pow_succ ..).symm
theorem val_pad (x k : Nat) : val (dig x ++ List.replicate k 0) = x := by rw [val_append, val_dig, val_rep, Nat.mul_zero, Nat.add_zero]
/-- One digit of the quotient. -/
theorem quot_step {B x2 V O u O' q : Nat} (h1 : x2 = O * V + u) (hq : q = u / B / V) (hO : O' = O + B * q) : x2 = O' * V + u % (V * B) := by
  rw [hO, h1, hq, Nat.div_div_eq_div_mul, Nat.add_mul]
  have h := Nat.div_add_mod u (V * B)
  rw [Nat.mul_comm B V]
  have e : B * (u / (V * B)) * V = V * B * (u / (V * B)) := by ac_rfl
  omega
theorem divide_end {x y s O u : Nat} (h : x * 2 ^ s = O * (y * 2 ^ s) + u) (hu : u < y * 2 ^ s) : O = x / y ∧ u / 2 ^ s = x % y := by
  have hp : 0 < 2 ^ s := Nat.pow_pos (by omega)
  have hy : 0 < y := by
    rcases Nat.eq_zero_or_pos y with rfl | h
    · simp at hu
    · exact h
  have h1 : x * 2 ^ s / (y * 2 ^ s) = O := Nat.div_eq_of_lt_le (by omega) (by rw [Nat.add_mul]; omega)
  rw [Nat.mul_div_mul_right _ _ hp] at h1
  refine ⟨h1.symm, ?_⟩
  have h2 : u = x % y * 2 ^ s := by
    have h3 := Nat.div_add_mod x y
    rw [h1] at h3
    have h4 : x * 2 ^ s = O * (y * 2 ^ s) + x % y * 2 ^ s := by
      rw [← Nat.mul_assoc, ← Nat.add_mul]
      congr 1
      rw [Nat.mul_comm O y]; exact h3.symm
    omega
  rw [h2, Nat.mul_div_cancel _ hp]
theorem set2_fst (m : Mem) {b c : Nat} (h : b ≠ c) (x y z : Blk) : ((m.set b x).set c y).set b z = (m.set b z).set c y := by
  rw [set_comm' _ _ _ (Ne.symm h), set_set]
theorem order_lt {x y : Nat} : ordI x y < 0 ↔ x < y := by unfold ordI; split <;> (try split) <;> omega
theorem divide_call (x y : Nat) (hy : y ≠ 0) (lx : (dig x).length < 2^30) (ly : (dig y).length < 2^30) : ACall Tryz.prog 114 [lim (dig x), lim (dig y)] Mem.emp fun v m => v = .tup [lim (dig (x / y)), lim (dig (x % y))] ∧ m = Mem.emp := by
  refine acall_S Tryz.func114 rfl rfl 94 rfl (Nat.le_of_ble_eq_true rfl) ?_
  have hdx := nth_dig x
  have hdy := nth_dig y
  have hby := dig_lb y
  have hyl : y < 4294967296 ^ (dig y).length := dig_length_le.1 (Nat.le_refl _)
  have hxl : x < 4294967296 ^ (dig x).length := dig_length_le.1 (Nat.le_refl _)
  (repeat refine AW.seq_k fun K hK => ?_); refine AW.rg ?_; simp [argsL]; try (refine hK _ rfl ?_; clear hK; clear K)
  refine AW.seq_ex (ι := Unit) (fun _ => [(0, lim (dig x)), (1, lim (dig y)), (4, .nil), (5, .nil)]) (fun _ => Mem.emp) (fun _ => y ≤ x) ?_ ?_
  · (repeat refine AW.seq_k fun K hK => ?_); refine AW.rg ?_; simp; try (refine hK _ rfl ?_; clear hK; clear K)
    refine CallK.val (compare_call x y (by omega) (by omega)) ?_
    simp [order_lt]; refine hK _ rfl ?_; clear hK; clear K; (repeat refine AW.seq ?_)
    refine AW.cs (fun h => ?_) (fun h => ?_) rfl <;> simp at h
    · (repeat refine AW.seq_k fun K hK => ?_); refine AW.rg ?_; simp; try (refine hK _ rfl ?_; clear hK; clear K)
      rw [Nat.div_eq_of_lt h, Nat.mod_eq_of_lt h, dig_zero]
      exact AW.ret (ret_views [lim [], lim (dig x)] rfl (by simp) ⟨rfl, rfl⟩)
    · refine AW.skip ?_; try simp
      exact h
  rintro _ hxy
  refine AW.seq_ex (ι := Unit) (fun _ => [(0, lim (dig x)), (1, lim (dig y)), (4, .nil), (5, .nil)]) (fun _ => Mem.emp) (fun _ => (dig y).length ≠ 1) ?_ ?_
  · (repeat refine AW.seq_k fun K hK => ?_); refine AW.rg ?_; simp; try (refine hK _ rfl ?_; clear hK; clear K)
    (repeat refine AW.seq ?_)
    refine AW.cs (fun h => ?_) (fun h => ?_) rfl <;> simp at h
    · have y1 : y < 4294967296 := by rw [h] at hyl; simpa using hyl
      have e0 : nth (dig y) 0 = y := by rw [hdy]; simp; omega
      (repeat refine AW.seq_k fun K hK => ?_); refine AW.rg ?_; simp [h, e0]; try (refine hK _ rfl ?_; clear hK; clear K)
      refine CallK.val (small_call x y hy y1 (by omega)) ?_
      simp [-Int.natCast_emod]; refine hK _ rfl ?_; clear hK; clear K; (repeat refine AW.seq_k fun K hK => ?_)
      refine AW.rgR [34] ?_
      simp [-Int.natCast_emod]; try (refine hK _ rfl ?_; clear hK; clear K)
      refine CallK.val (trimmed_call [x % y] (by simp)) ?_
      have hr : x % y < y := Nat.mod_lt _ (by omega)
      have e : trimL [x % y] = dig (x % y) := by
        rw [trimL_eq (fun z hz => by simp at hz; omega)]; simp [val]
      rw [e]; simp [-Int.natCast_emod]; refine hK _ rfl ?_; clear hK; clear K
      exact AW.ret (ret_views [lim (dig (x / y)), lim (dig (x % y))] rfl (by simp [-Int.natCast_emod]) ⟨rfl, rfl⟩)
    · refine AW.skip ?_; try simp
      exact h
  rintro _ hlen
  have hlen0 : (dig y).length ≠ 0 := by
    intro h; rw [h] at hyl; simp at hyl; omega
  obtain ⟨n, hn⟩ : ∃ n, (dig y).length = n + 2 := ⟨(dig y).length - 2, by omega⟩
  have hle : (dig y).length ≤ (dig x).length := dig_len_le hxy
  rw [hn] at hyl
  have htop : nth (dig y) (n + 1) = y / 4294967296 ^ (n + 1) := by rw [hdy, limb_top hyl]
  have hvt := dig_lb (y)
  have hl1 := hby.nth (n + 1)
  have i1 : n + 1 < n + 2 := by omega
  have w1 : IntKind.i64.wrap (((n + 2 : Nat) : Int) - 1) = ((n + 1 : Nat) : Int) := by rw [wi' (by omega)]; omega
  (repeat refine AW.seq_k fun K hK => ?_); refine AW.rg ?_; simp [-Int.natCast_add, hn, w1, i1]; try (refine hK _ rfl ?_; clear hK; clear K)
  refine CallK.pure (lz_call (nth (dig y) (n + 1)) hl1) ?_
  rintro _ ⟨s, s1, s2, s3, rfl⟩
  rw [htop] at s2
  have hv2 := norm_bound s1 s2
  simp [-Int.natCast_add]; refine hK _ rfl ?_; clear hK; clear K; (repeat refine AW.seq_k fun K hK => ?_); refine AW.rg ?_; simp [-Int.natCast_add]; try (refine hK _ rfl ?_; clear hK; clear K)
  refine CallK.val (ileft_call y s (by omega) (by omega)) ?_
  simp [-Int.natCast_add]; refine hK _ rfl ?_; clear hK; clear K
  have hvl : (dig (y * 2 ^ s)).length = n + 2 := by
    have h1 : (dig (y * 2 ^ s)).length ≤ n + 2 := dig_length_le.2 hv2
    have h2 : (dig y).length ≤ (dig (y * 2 ^ s)).length := dig_len_le (Nat.le_mul_of_pos_right y (Nat.pow_pos (by omega)))
    omega
  generalize hla : (dig x).length = la at *
  have w2 : IntKind.i64.wrap ((la + 1 : Nat) : Int) = ((la + 1 : Nat) : Int) := wi (by omega)
  (repeat refine AW.seq_k fun K hK => ?_); refine AW.rg ?_; simp [-Int.natCast_mul, -Int.natCast_add, hla, w2]; try (refine hK _ rfl ?_; clear hK; clear K)
  refine ⟨by omega, Fresh.intro fun bu _ => ?_⟩
  simp only [u32s_rep]
  refine hK _ rfl ?_; clear hK; clear K; (repeat refine AW.seq_k fun K hK => ?_); refine AW.rg ?_; simp [-Int.natCast_add]; try (refine hK _ rfl ?_; clear hK; clear K)
  refine CallK.val (ileft_call x s (by omega) (by omega)) ?_
  simp [-Int.natCast_add]
  generalize hx2 : x * 2 ^ s = x2 at *
  generalize hy2 : y * 2 ^ s = y2 at *
  have hy2p : 0 < y2 := by rw [← hy2]; exact Nat.mul_pos (Nat.pos_of_ne_zero hy) (Nat.pow_pos (by omega))
  have hxb : x2 < 4294967296 ^ (la + 1) := by
    rw [← hx2, Nat.pow_succ]
    calc x * 2 ^ s ≤ x * 4294967296 := Nat.mul_le_mul_left _ (by rw [show (4294967296 : Nat) = 2 ^ 32 from rfl]; exact Nat.pow_le_pow_right (by omega) s1)
      _ < 4294967296 ^ la * 4294967296 := Nat.mul_lt_mul_of_pos_right hxl (by omega)
  have hdl : (dig x2).length ≤ la + 1 := dig_length_le.2 hxb
  have eU : (u32s (dig x2)).take (la + 1) ++ (u32s (List.replicate (la + 1) 0)).drop (min (dig x2).length (la + 1)) = u32s (dig x2 ++ List.replicate (la + 1 - (dig x2).length) 0) := by
    rw [Nat.min_eq_left hdl, List.take_of_length_le (by simpa using hdl), u32s_drop, List.drop_replicate, u32s_append]
  rw [eU]
  have hU1 : Lb (dig x2 ++ List.replicate (la + 1 - (dig x2).length) 0) := by
    intro z hz
    rcases List.mem_append.1 hz with h | h
    · exact dig_lb _ z h
    · exact Lb.rep _ z h
  have hU2 : (dig x2 ++ List.replicate (la + 1 - (dig x2).length) 0).length = la + 1 := by simp; omega
  have hU3 := val_pad x2 (la + 1 - (dig x2).length)
  generalize dig x2 ++ List.replicate (la + 1 - (dig x2).length) 0 = U0 at *
  clear eU
  refine hK _ rfl ?_; clear hK; clear K
  have w3 : IntKind.i64.wrap ((la : Int) - ((n + 2 : Nat) : Int)) = ((la - (n + 2) : Nat) : Int) := by rw [wi' (by omega)]; omega
  obtain ⟨N, hN⟩ : ∃ N, la - (n + 2) = N := ⟨_, rfl⟩
  have w4 : IntKind.i64.wrap ((N + 1 : Nat) : Int) = ((N + 1 : Nat) : Int) := wi (by omega)
  rw [hN] at w3
  (repeat refine AW.seq_k fun K hK => ?_); refine AW.rg ?_; simp [-Int.natCast_mul, -Int.natCast_add, hla, hn, w3, w4]; try (refine hK _ rfl ?_; clear hK; clear K)
  refine ⟨by omega, Fresh.intro fun bo hbo => ?_⟩
  have hne : bu ≠ bo := by rintro rfl; simp at hbo
  have hne' : bo ≠ bu := Ne.symm hne
  simp only [u32s_rep]
  refine hK _ rfl ?_; clear hK; clear K
  have hlaN : la = N + (n + 2) := by omega
  have hV2 : nth (dig y2) (n + 1) ≠ 0 := by
    intro h
    have h1 := nth_dig y2 (n + 1)
    rw [h, limb_top (by rw [← hvl]; exact dig_length_le.1 (Nat.le_refl _))] at h1
    have h2 : y2 < 4294967296 ^ (n + 1) := (Nat.div_eq_zero_iff_lt (Nat.pow_pos (by omega))).1 h1.symm
    have := dig_length_le.2 h2
    omega
  have hvd := val_dig y2
  have hbd := dig_lb y2
  have hinit : val U0 < y2 * 4294967296 ^ (N + 1) := by
    rw [hU3]
    have hb : 4294967296 ^ (n + 1) ≤ y2 := by
      rcases Nat.lt_or_ge y2 (4294967296 ^ (n + 1)) with h | h
      · have := dig_length_le.2 h; omega
      · exact h
    rw [← hx2, ← hy2]
    have hyb : 4294967296 ^ (n + 1) ≤ y := by
      rcases Nat.lt_or_ge y (4294967296 ^ (n + 1)) with h | h
      · have := dig_length_le.2 h; omega
      · exact h
    calc x * 2 ^ s < 4294967296 ^ la * 2 ^ s := Nat.mul_lt_mul_of_pos_right hxl (Nat.pow_pos (by omega))
      _ = 4294967296 ^ (n + 1) * 4294967296 ^ (N + 1) * 2 ^ s := by rw [← Nat.pow_add]; congr 2; omega
      _ ≤ y * 4294967296 ^ (N + 1) * 2 ^ s := Nat.mul_le_mul_right _ (Nat.mul_le_mul_right _ hyb)
      _ = y * 2 ^ s * 4294967296 ^ (N + 1) := by ac_rfl
  generalize hD : dig y2 = D at *
  refine AW.seq_ex (ι := List Nat × List Nat) (fun z => [(8, .int .i64 s), (10, .osl bu 1 0 (la + 1)), (11, .osl bo 1 0 (N + 1))]) (fun z => (Mem.emp.set bu ⟨87, 1, u32s z.1⟩).set bo ⟨87, 1, u32s z.2⟩)
    (fun z => Lb z.1 ∧ z.1.length = la + 1 ∧ Lb z.2 ∧ z.2.length = N + 1 ∧ val z.1 < y2 ∧ x2 = val z.2 * y2 + val z.1) ?_ ?_
  · (repeat refine AW.seq_k fun K hK => ?_); refine AW.rg ?_; simp [-Int.natCast_add]; try (refine hK _ rfl ?_; clear hK; clear K)
    refine AW.block (AW.loopS (ι := Nat × List Nat × List Nat) (fun z => [(8, .int .i64 s), (9, lim D), (10, .osl bu 1 0 (la + 1)), (11, .osl bo 1 0 (N + 1)), (63, .int .i64 (N + 1 : Nat)), (64, .int .i64 (z.1 : Nat))]) (fun z => (Mem.emp.set bu ⟨87, 1, u32s z.2.1⟩).set bo ⟨87, 1, u32s z.2.2⟩)
      (fun z => z.1 ≤ N + 1 ∧ Lb z.2.1 ∧ z.2.1.length = la + 1 ∧ Lb z.2.2 ∧ z.2.2.length = N + 1 ∧ val z.2.1 < y2 * 4294967296 ^ (N + 1 - z.1) ∧ x2 = val z.2.2 * y2 + val z.2.1 ∧ ∀ i, i < N + 1 - z.1 → nth z.2.2 i = 0) (fun z => N + 1 - z.1) (0, U0, List.replicate (N + 1) 0)
      ⟨by simp, hU1, hU2, Lb.rep _, by simp, hinit, by simp [val_rep, hU3], by simp⟩ rfl (by simp [-Int.natCast_add]) ?_)
    rintro ⟨k, u, o⟩ ⟨h1, h2, h3, h4, h5, h6, h7, h8⟩
    simp only at h1 h2 h3 h4 h5 h6 h7 h8; simp only; (repeat refine AW.seq_k fun K hK => ?_); refine AW.rg ?_; simp [-Int.natCast_add]; try (refine hK _ rfl ?_; clear hK; clear K)
    (repeat refine AW.seq ?_)
    refine AW.cs (fun hk => ?_) (fun hk => ?_) rfl <;> simp at hk
    · refine AW.skip ?_
      try simp [-Int.natCast_add]
      obtain ⟨j, hj⟩ : ∃ j, N + 1 - k = j + 1 := ⟨N - k, by omega⟩
      have hj2 : N + 1 - (k + 1) = j := by omega
      rw [hj] at h6 h8
      have w5 : IntKind.i64.wrap (((N + 1 : Nat) : Int) - 1) = (N : Int) := by rw [wi' (by omega)]; omega
      have w6 : IntKind.i64.wrap ((N : Int) - (k : Int)) = (j : Int) := by rw [wi' (by omega)]; omega
      have w7 : IntKind.i64.wrap ((k + 1 : Nat) : Int) = ((k + 1 : Nat) : Int) := wi (by omega)
      have hjN : j < N + 1 := by omega
      have hdg := digit_call u D j n h2 hbd hvl (by omega) (by omega) hV2 (by rw [hvd]; exact h6)
      rw [hvd] at hdg
      (repeat refine AW.seq ?_); refine AW.block ?_; (repeat refine AW.seq_k fun K hK => ?_); refine AW.rg ?_; simp [-Int.natCast_add]; try (refine hK _ rfl ?_; clear hK; clear K)
      (repeat refine AW.seq_k fun K hK => ?_); refine AW.rg ?_; simp [-Int.natCast_add, w5, w6]; try (refine hK _ rfl ?_; clear hK; clear K)
      (repeat refine AW.seq_k fun K hK => ?_); refine AW.rg ?_; simp [-Int.natCast_add]; try (refine hK _ rfl ?_; clear hK; clear K)
      refine CallK.borrow [lim u, .int .i64 j, lim D] ⟨by rw [← h3]; exact view_osl1 (e := 87) (by simp [hne]) rfl, by simp⟩ hdg ?_
      rintro _ ⟨q, q1, q2, q3, rfl⟩
      refine ⟨rfl, ?_⟩
      simp [-Int.natCast_add]
      have htk := take_call u D j (n + 2) q bu h2 hbd hvl (by omega) (by omega) q1 (by rw [hvd]; exact h6) (by rw [hvd]; exact q2) (by rw [hvd]; exact q3)
      rw [hvd, h3] at htk
      refine CallK.grant (R := fun v x' => ∃ u', v = .int .u32 ((val u / 4294967296 ^ j / y2 : Nat)) ∧ x' = ⟨87, 1, u32s u'⟩ ∧ Lb u' ∧ u'.length = la + 1 ∧ val u' = val u % (y2 * 4294967296 ^ j)) bu ⟨87, 1, u32s u⟩ (by simp [hne]) (by simp) (htk.mono ?_) ?_
      · rintro v g ⟨u', e1, e2, e3, e4, e5⟩
        exact ⟨_, ⟨u', e1, rfl, e3, e4, e5⟩, e2⟩
      rintro _ _ ⟨u', rfl, rfl, e3, e4, e5⟩
      have hqd : val u / 4294967296 ^ j / y2 < 4294967296 := by
        rw [Nat.div_div_eq_div_mul]
        refine Nat.div_lt_of_lt_mul ?_
        rw [Nat.pow_succ] at h6
        calc val u < y2 * (4294967296 ^ j * 4294967296) := h6
          _ = 4294967296 ^ j * y2 * 4294967296 := by ac_rfl
      have hset := val_set_eq o j (val u / 4294967296 ^ j / y2) (by omega)
      rw [h8 j (by omega), Nat.mul_zero, Nat.add_zero] at hset
      have hst := quot_step (B := 4294967296 ^ j) h7 rfl hset
      generalize val u / 4294967296 ^ j / y2 = qd at *
      simp [-Int.natCast_add, hne, hne', hjN, h5]; rw [set2_fst _ hne, set_set]; (repeat refine AW.seq_k fun K hK => ?_); refine AW.rg ?_; simp [-Int.natCast_add, w7]; try (refine hK _ rfl ?_; clear hK; clear K)
      refine ⟨k + 1, u', o.set j qd, ⟨hk, e3, e4, h4.set _ _ hqd, by simpa using h5, ?_, ?_, ?_⟩, by omega, rfl, rfl⟩
      · rw [hj2, e5]
        exact Nat.mod_lt _ (Nat.mul_pos hy2p (Nat.pow_pos (by omega)))
      · rw [e5]; exact hst
      · intro i hi
        rw [hj2] at hi
        rw [nth_set_ne _ (by omega)]
        exact h8 i (by omega)
    · refine AW.exit ?_
      try simp [-Int.natCast_add]
      have e0 : N + 1 - k = 0 := by omega
      rw [e0, Nat.pow_zero, Nat.mul_one] at h6
      exact ⟨u, o, ⟨h2, h3, h4, h5, h6, h7⟩, rfl⟩
  rintro ⟨u, o⟩ ⟨h2, h3, h4, h5, h6, h7⟩
  simp only at h2 h3 h4 h5 h6 h7; simp only
  rw [← hx2, ← hy2] at h7
  rw [← hy2] at h6
  obtain ⟨g1, g2⟩ := divide_end h7 h6
  refine AW.toEmp [(8, .int .i64 s), (10, lim u), (11, lim o)] (by
    simp
    exact ⟨by rw [← h3]; exact view_osl1 (e := 87) (by simp [hne]) rfl, by rw [← h5]; exact view_osl1 (e := 87) (by simp) rfl⟩) ?_
  (repeat refine AW.seq_k fun K hK => ?_); refine AW.rg ?_; simp; try (refine hK _ rfl ?_; clear hK; clear K)
  refine CallK.val (trimmed_call u (by omega)) ?_
  rw [trimL_eq h2]; simp
  refine CallK.pure (iright_call (val u) s (by omega) (by have := dig_length_le.2 (val_lt h2); omega)) ?_
  rintro _ ⟨t, rfl⟩
  rw [g2]; simp; refine hK _ rfl ?_; clear hK; clear K; (repeat refine AW.seq_k fun K hK => ?_); refine AW.rg ?_; simp; try (refine hK _ rfl ?_; clear hK; clear K)
  refine CallK.val (trimmed_call o (by omega)) ?_
  rw [trimL_eq h4, g1]; simp; refine hK _ rfl ?_; clear hK; clear K
  exact AW.ret (ret_views [lim (dig (x / y)), lim (dig (x % y))] rfl (by simp) ⟨rfl, rfl⟩)
end Go.Av
end
section
namespace Go.Av
def ptrTo (b : Nat) : AV → Prop
  | .ptr b' _ _ _ => b' = b
  | _ => True
def noPtr : AV → Prop
  | .ptr _ _ _ _ => False
  | _ => True
def ptrOff (bs : List Nat) : AV → Prop
  | .ptr b _ _ _ => b ∉ bs
  | _ => True
@[simp] theorem ptrTo_ptr (b b' z i j : Nat) : ptrTo b (.ptr b' z i j) ↔ b' = b := Iff.rfl
@[simp] theorem ptrTo_any (b : Nat) : ptrTo b .any ↔ True := Iff.rfl
@[simp] theorem noPtr_rptr (l : List AV) : noPtr (.rptr l) ↔ True := Iff.rfl
@[simp] theorem noPtr_any : noPtr .any ↔ True := Iff.rfl
@[simp] theorem ptrOff_ptr (bs : List Nat) (b z i j : Nat) : ptrOff bs (.ptr b z i j) ↔ b ∉ bs := Iff.rfl
@[simp] theorem ptrOff_any (bs : List Nat) : ptrOff bs .any ↔ True := Iff.rfl
section
variable {P : Program} {Q : Exit → St → Prop} {s : St}
theorem AW.rdT {id : Nat} {ops : Array Oper} (l : List (Nat × Nat)) (rp wo bs : List Nat) (plan : List Nat) (hm : P.follows .mixedOrders = true) (hp1 : ∀ p ∈ l, ptrTo p.2 (s.r p.1)) (hp2 : (l.map (·.2)).Nodup)
    (hrp : ∀ r ∈ rp, noPtr (s.r r)) (hwo : ∀ r ∈ wo, ptrOff bs (s.r r)) (hb : ∀ b ∈ bs, s.m b ≠ none)
    (h : aopsI P ⟨fun _ => false, fun c => c ∈ bs, true⟩ ops plan (Q .normal) s)
    (hok : regionOk s.n ops = true := by kernel_rfl) (hp : planOkS P (fun _ => false) ⟨sepRs (l.map (·.1)), sepRs rp, sepRs wo⟩ ops plan = true := by kernel_rfl) : AW P (.region id ops true) Q s := by
  refine AW.rdS l rp wo bs plan hm (fun p hp b z i j he => ?_) hp2 (fun r hr b z i j he => ?_) (fun r hr b z i j he => ?_) hb h hok hp
  · have := hp1 p hp
    rw [he] at this
    exact this
  · have := hrp r hr
    rw [he] at this
    exact this
  · have := hwo r hr
    rw [he] at this
    exact this
end
end Go.Av
namespace Go.Av
theorem set_none2 (m : Mem) (c : Nat) (x : Blk) (b : Nat) : (m.set c x) b = none ↔ (b ≠ c ∧ c ≠ b) ∧ m b = none := by
  simp only [set_at]
  by_cases h : b = c
  · simp [h]
  · rw [if_neg h]; simp [h, Ne.symm h]
end Go.Av
end
section
namespace Go.Av
open Go.Proofs
/-- The magnitudes of quotient and remainder. -/
def dmQ (x y : Int) : Nat := if (decide (x < 0) != decide (y < 0)) = true ∧ x.natAbs % y.natAbs ≠ 0 then x.natAbs / y.natAbs + 1 else x.natAbs / y.natAbs
def dmR (x y : Int) : Nat := if (decide (x < 0) != decide (y < 0)) = true ∧ x.natAbs % y.natAbs ≠ 0 then y.natAbs - x.natAbs % y.natAbs else x.natAbs % y.natAbs
theorem dm_spec {x y : Int} (hy : y ≠ 0) : (if (decide (x < 0) != decide (y < 0)) = true then -(dmQ x y : Int) else dmQ x y) = x.fdiv y ∧ (if decide (y < 0) = true then -(dmR x y : Int) else dmR x y) = x.fmod y := by
  have hr : x.natAbs % y.natAbs < y.natAbs := Nat.mod_lt _ (by omega)
  have hd := Nat.div_add_mod x.natAbs y.natAbs
  unfold dmQ dmR
  generalize x.natAbs / y.natAbs = q at *
  generalize x.natAbs % y.natAbs = r at *
  have hd2 : ((x.natAbs : Nat) : Int) = ((y.natAbs : Nat) : Int) * (q : Int) + (r : Int) := by rw [← hd, Int.natCast_add, Int.natCast_mul]
  have key : ∀ {q' r' : Int}, r' + y * q' = x → (0 < y → 0 ≤ r' ∧ r' < y) → (y < 0 → y < r' ∧ r' ≤ 0) → q' = x.fdiv y ∧ r' = x.fmod y := by
    intro q' r' h1 h2 h3
    rcases Int.lt_or_gt_of_ne hy with h | h
    · obtain ⟨a, b⟩ := (Int.fdiv_fmod_unique' h).2 ⟨h1, h3 h⟩
      exact ⟨a.symm, b.symm⟩
    · obtain ⟨a, b⟩ := (Int.fdiv_fmod_unique h).2 ⟨h1, h2 h⟩
      exact ⟨a.symm, b.symm⟩
  by_cases cx : x < 0
  · have ex : x = -((x.natAbs : Nat) : Int) := by omega
    by_cases cy : y < 0
    · have ey : ((y.natAbs : Nat) : Int) = -y := by omega
      rw [ey] at hd2
      simp only [cx, cy, decide_true, bne_self_eq_false, Bool.false_eq_true, false_and, if_false, if_true]
      refine key ?_ (fun h => by omega) (fun h => by omega)
      rw [ex, hd2, Int.neg_mul, Int.neg_add, Int.neg_neg]; omega
    · have ey : ((y.natAbs : Nat) : Int) = y := by omega
      rw [ey] at hd2
      by_cases h0 : r = 0
      · subst h0
        simp only [cx, cy, decide_true, decide_false, Bool.bne_false, ne_eq, not_true_eq_false, and_false, if_false, if_true, Bool.false_eq_true]
        refine key ?_ (fun h => by omega) (fun h => by omega)
        rw [ex, hd2, Int.mul_neg]; simp
      · simp only [cx, cy, decide_true, decide_false, Bool.bne_false, ne_eq, h0, not_false_eq_true, and_self, if_true, Bool.false_eq_true, if_false]
        refine key ?_ (fun h => by omega) (fun h => by omega)
        rw [Int.mul_neg, Int.natCast_add, Int.mul_add, ex, hd2]
        have : ((y.natAbs - r : Nat) : Int) = y - r := by omega
        rw [this]; simp; omega
  · have ex : x = ((x.natAbs : Nat) : Int) := by omega
    by_cases cy : y < 0
    · have ey : ((y.natAbs : Nat) : Int) = -y := by omega
      rw [ey] at hd2
      by_cases h0 : r = 0
      · subst h0
        simp only [cx, cy, decide_true, decide_false, Bool.bne_true, Bool.not_false, ne_eq, not_true_eq_false, and_false, if_false, if_true]
        refine key ?_ (fun h => by omega) (fun h => by omega)
        rw [ex, hd2, Int.mul_neg, Int.neg_mul]; simp
      · simp only [cx, cy, decide_true, decide_false, Bool.bne_true, Bool.not_false, ne_eq, h0, not_false_eq_true, and_self, if_true]
        refine key ?_ (fun h => by omega) (fun h => by omega)
        rw [Int.mul_neg, Int.natCast_add, Int.mul_add, ex, hd2]
        have : ((y.natAbs - r : Nat) : Int) = -y - r := by omega
        rw [this, Int.neg_mul]; simp; omega
    · have ey : ((y.natAbs : Nat) : Int) = y := by omega
      rw [ey] at hd2
      simp only [cx, cy, decide_false, bne_self_eq_false, Bool.false_eq_true, false_and, if_false]
      refine key ?_ (fun h => by omega) (fun h => by omega)
      rw [ex, hd2]; omega
theorem dmQ_le (x y : Int) (hy : y ≠ 0) : dmQ x y ≤ x.natAbs := by
  unfold dmQ
  split
  · rename_i h
    have hr : x.natAbs % y.natAbs < y.natAbs := Nat.mod_lt _ (by omega)
    have hd := Nat.div_add_mod x.natAbs y.natAbs
    have : x.natAbs / y.natAbs ≤ y.natAbs * (x.natAbs / y.natAbs) := Nat.le_mul_of_pos_left _ (by omega)
    omega
  · exact Nat.div_le_self _ _
theorem dmR_lt (x y : Int) (hy : y ≠ 0) : dmR x y < y.natAbs := by
  have hr : x.natAbs % y.natAbs < y.natAbs := Nat.mod_lt _ (by omega)
  unfold dmR
  split
  · omega
  · exact hr
theorem fdiv_lt {x y : Int} (hx : x.natAbs < B128) (hy : y ≠ 0) : (x.fdiv y).natAbs < B128 := by
  have := dmQ_le x y hy
  rw [← (dm_spec (x := x) hy).1]
  split <;> omega
theorem fmod_lt {x y : Int} (hx : y.natAbs < B128) (hy : y ≠ 0) : (x.fmod y).natAbs < B128 := by
  have := dmR_lt x y hy
  rw [← (dm_spec (x := x) hy).2]
  split <;> omega
theorem idivmod_call (x y : Int) (hx : x.natAbs < B128) (hy : y.natAbs < B128) (h0 : y ≠ 0) : ACall Tryz.prog 152 [intAV x, intAV y] Mem.emp fun v m => v = .tup [intAV (x.fdiv y), intAV (x.fmod y), .int .i64 0] ∧ m = Mem.emp := by
  have hb := both_ok x y hx hy
  have lx := dig_128 hx
  have ly := dig_128 hy
  have hq := dmQ_le x y h0
  have hr := dmR_lt x y h0
  obtain ⟨s1, s2⟩ := dm_spec (x := x) h0
  have f1 := fdiv_lt hx h0
  have f2 := fmod_lt (x := x) hy h0
  have lq : (dig (dmQ x y)).length ≤ 128 := dig_128 (by omega)
  have lr : (dig (dmR x y)).length ≤ 128 := dig_128 (by omega)
  have r1 := result_call (decide (x < 0) != decide (y < 0)) (dig (dmQ x y)) (dig_lb _) (by omega)
  have r2 := result_call (decide (y < 0)) (dig (dmR x y)) (dig_lb _) (by omega)
  rw [val_dig, s1, fitAV, fz_ok f1, fe_ok f1, bne] at r1
  rw [val_dig, s2, fitAV, fz_ok f2, fe_ok f2] at r2
  have hyl : (dig y.natAbs).length ≠ 0 := by
    intro h
    have := dig_nil.1 (List.eq_nil_of_length_eq_zero h)
    omega
  have hdv := divide_call x.natAbs y.natAbs (by omega) (by omega) (by omega)
  have hmr : x.natAbs % y.natAbs < y.natAbs := Nat.mod_lt _ (by omega)
  have hql : (dig (x.natAbs / y.natAbs)).length ≤ 128 := dig_128 (Nat.lt_of_le_of_lt (Nat.div_le_self _ _) hx)
  have hdq : dmQ x y = if (decide (x < 0) != decide (y < 0)) = true ∧ x.natAbs % y.natAbs ≠ 0 then x.natAbs / y.natAbs + 1 else x.natAbs / y.natAbs := rfl
  have hdr : dmR x y = if (decide (x < 0) != decide (y < 0)) = true ∧ x.natAbs % y.natAbs ≠ 0 then y.natAbs - x.natAbs % y.natAbs else x.natAbs % y.natAbs := rfl
  generalize dmQ x y = Q at *
  generalize dmR x y = R at *
  unfold intAV at *
  generalize hsx : decide (x < 0) = sx at *
  generalize hsy : decide (y < 0) = sy at *
  generalize hX : x.natAbs = X at *
  generalize hY : y.natAbs = Y at *
  generalize decide (x.fdiv y < 0) = sq at *
  generalize decide (x.fmod y < 0) = sr at *
  generalize (x.fdiv y).natAbs = q' at *
  generalize (x.fmod y).natAbs = r' at *
  refine acall_S Tryz.func152 rfl rfl 74 rfl (Nat.le_of_ble_eq_true rfl) ?_
  (repeat refine AW.seq_k fun K hK => ?_)
  refine AW.rgR [2,3] ?_
  simp [argsL]; try (refine hK _ rfl ?_; clear hK; clear K)
  refine Fresh.intro fun b4 _ => Fresh.intro fun b5 hb5 => ?_
  have n5 : b4 ≠ b5 := by rintro rfl; simp at hb5
  refine hK _ rfl ?_; clear hK; clear K; (repeat refine AW.seq_k fun K hK => ?_); refine AW.rg ?_; simp; try (refine hK _ rfl ?_; clear hK; clear K)
  refine CallK.val hb ?_; simp; refine hK _ rfl ?_; clear hK; clear K; refine AW.no ?_ rfl; refine AW.skip ?_; try simp
  refine hK _ rfl ?_; clear hK; clear K; (repeat refine AW.seq_k fun K hK => ?_); refine AW.rg ?_; simp [hyl]; try (refine hK _ rfl ?_; clear hK; clear K)
  refine AW.no ?_ rfl; refine AW.skip ?_; try simp
  refine hK _ rfl ?_; clear hK; clear K; (repeat refine AW.seq_k fun K hK => ?_); refine AW.rg ?_; simp; try (refine hK _ rfl ?_; clear hK; clear K)
  refine CallK.val hdv ?_; simp; refine hK _ rfl ?_; clear hK; clear K
  refine AW.seq_has [(2, .rptr [.bool sx, lim (dig X)]), (3, .rptr [.bool sy, lim (dig Y)]), (4, .ptr b4 2 0 0), (5, .ptr b5 2 0 0), (6, .int .i64 0), (7, lim (dig Q)), (8, lim (dig R))] ((Mem.emp.set b4 ⟨34, 2, [.agg [.bool false, .nil]]⟩).set b5 ⟨34, 2, [.agg [.bool false, .nil]]⟩) ?_ ?_
  · by_cases ht : sx = sy
    · subst ht
      simp only [bne_self_eq_false, Bool.false_eq_true, false_and, if_false] at hdq hdr
      (repeat refine AW.seq_k fun K hK => ?_); refine AW.rg ?_; simp; try (refine hK _ rfl ?_; clear hK; clear K)
      refine AW.no ?_ rfl; refine AW.skip ?_; simp [hdq, hdr]
    · have hb : (sx == sy) = false := by simp [ht]
      have hb2 : (sx != sy) = true := by simp [ht]
      by_cases hm : X % Y = 0
      · simp only [hm, ne_eq, not_true_eq_false, and_false, if_false] at hdq hdr
        (repeat refine AW.seq_k fun K hK => ?_); refine AW.rg ?_; simp [hb, ht, hm, dig_zero]; try (refine hK _ rfl ?_; clear hK; clear K)
        refine AW.no ?_ rfl; refine AW.skip ?_; simp [hdq, hdr, dig_zero]
      · have hml : 0 < (dig (X % Y)).length := by
          rcases Nat.eq_zero_or_pos (dig (X % Y)).length with h | h
          · exact absurd (dig_nil.1 (List.eq_nil_of_length_eq_zero h)) hm
          · exact h
        simp only [hm, hb2, ne_eq, not_false_eq_true, and_self, if_true] at hdq hdr
        (repeat refine AW.seq_k fun K hK => ?_); refine AW.rg ?_; simp [hb, ht, hml]; try (refine hK _ rfl ?_; clear hK; clear K)
        refine AW.yes ?_ rfl; (repeat refine AW.seq_k fun K hK => ?_)
        refine AW.rgR [44,48] ?_
        simp; try (refine hK _ rfl ?_; clear hK; clear K)
        have hs := sum_call (dig (X / Y)) [1] (dig_lb _) (by intro z hz; simp at hz; omega) (by omega) (by simp)
        refine CallK.val hs ?_; rw [val_dig]; simp [val]; refine hK _ rfl ?_; clear hK; clear K; (repeat refine AW.seq_k fun K hK => ?_); refine AW.rg ?_; simp; try (refine hK _ rfl ?_; clear hK; clear K)
        refine CallK.val (difference_call Y (X % Y) (by omega) (by omega)) ?_
        simp [hdq, hdr]
  (repeat refine AW.seq_k fun K hK => ?_); refine AW.rg ?_; simp; try (refine hK _ rfl ?_; clear hK; clear K)
  refine CallK.val r1 ?_; simp
  refine Fresh.intro fun b9 hb9 => ?_
  have n9 : b4 ≠ b9 := by rintro rfl; simp [n5] at hb9
  have n9' : b5 ≠ b9 := by rintro rfl; simp at hb9
  try simp
  refine hK _ rfl ?_; clear hK; clear K; (repeat refine AW.seq_k fun K hK => ?_); refine AW.rg ?_; simp; try (refine hK _ rfl ?_; clear hK; clear K)
  refine AW.no ?_ rfl; refine AW.skip ?_; try simp
  refine hK _ rfl ?_; clear hK; clear K; (repeat refine AW.seq_k fun K hK => ?_); refine AW.rg ?_; simp; try (refine hK _ rfl ?_; clear hK; clear K)
  refine CallK.val r2 ?_; simp
  refine Fresh.intro fun b11 hb11 => ?_
  have n11 : b4 ≠ b11 := by rintro rfl; simp [n5, n9] at hb11
  have n11' : b5 ≠ b11 := by rintro rfl; simp [n9'] at hb11
  have n11'' : b9 ≠ b11 := by rintro rfl; simp at hb11
  try simp
  refine hK _ rfl ?_; clear hK; clear K; (repeat refine AW.seq_k fun K hK => ?_)
  refine AW.rdT [(9, b9), (11, b11), (4, b4), (5, b5)] [] [] [b9, b11] [0, 1, 2, 3, 4] mix (by simp [n5, Ne.symm n5, n9, n9', n11, n11', n11'', Ne.symm n9, Ne.symm n9', Ne.symm n11, Ne.symm n11', Ne.symm n11'']) (by simp [n5, Ne.symm n5, n9, n9', n11, n11', n11'', Ne.symm n9, Ne.symm n9', Ne.symm n11, Ne.symm n11', Ne.symm n11'']) (by simp [n5, Ne.symm n5, n9, n9', n11, n11', n11'', Ne.symm n9, Ne.symm n9', Ne.symm n11, Ne.symm n11', Ne.symm n11'']) (by simp [n5, Ne.symm n5, n9, n9', n11, n11', n11'', Ne.symm n9, Ne.symm n9', Ne.symm n11, Ne.symm n11', Ne.symm n11'']) (by simp [n5, Ne.symm n5, n9, n9', n11, n11', n11'', Ne.symm n9, Ne.symm n9', Ne.symm n11, Ne.symm n11', Ne.symm n11'']) ?_
  simp [n5, Ne.symm n5, n9, n9', n11, n11', n11'', Ne.symm n9, Ne.symm n9', Ne.symm n11, Ne.symm n11', Ne.symm n11'']; try (refine hK _ rfl ?_; clear hK; clear K)
  refine AW.ret (ret_views (vs := [.agg [.bool sq, lim (dig q')], .agg [.bool sr, lim (dig r')], .int .i64 0]) [.agg [.bool sq, lim (dig q')], .agg [.bool sr, lim (dig r')], .int .i64 0] ?_ (by simp) ⟨rfl, rfl⟩)
  simp [n5, Ne.symm n5]
theorem divmod1_call (x y : Int) (hx : x.natAbs < B128) (hy : y.natAbs < B128) (h0 : y ≠ 0) : ACall Tryz.prog 110 [intAV x, intAV y] Mem.emp fun v m => v = .tup [intAV (x.fdiv y), intAV (x.fmod y), .int .i64 0] ∧ m = Mem.emp := by
  have v1 := valid1_ok hx
  have v2 := valid1_ok hy
  have lx := dig_128 hx
  have ly := dig_128 hy
  have hq := dmQ_le x y h0
  have hr := dmR_lt x y h0
  obtain ⟨s1, s2⟩ := dm_spec (x := x) h0
  have f1 := fdiv_lt hx h0
  have f2 := fmod_lt (x := x) hy h0
  have lq : (dig (dmQ x y)).length ≤ 128 := dig_128 (by omega)
  have lr : (dig (dmR x y)).length ≤ 128 := dig_128 (by omega)
  have r1 := fit_call (decide (x < 0) != decide (y < 0)) (dig (dmQ x y)) (dig_lb _) (by omega)
  have r2 := fit_call (decide (y < 0)) (dig (dmR x y)) (dig_lb _) (by omega)
  rw [val_dig, s1, fitAV, fz_ok f1, fe_ok f1, bne] at r1
  rw [val_dig, s2, fitAV, fz_ok f2, fe_ok f2] at r2
  have hyl : (dig y.natAbs).length ≠ 0 := by
    intro h
    have := dig_nil.1 (List.eq_nil_of_length_eq_zero h)
    omega
  have hdv := divide1_call x.natAbs y.natAbs (by omega) (by omega) (by omega)
  have hmr : x.natAbs % y.natAbs < y.natAbs := Nat.mod_lt _ (by omega)
  have hql : (dig (x.natAbs / y.natAbs)).length ≤ 128 := dig_128 (Nat.lt_of_le_of_lt (Nat.div_le_self _ _) hx)
  have hdq : dmQ x y = if (decide (x < 0) != decide (y < 0)) = true ∧ x.natAbs % y.natAbs ≠ 0 then x.natAbs / y.natAbs + 1 else x.natAbs / y.natAbs := rfl
  have hdr : dmR x y = if (decide (x < 0) != decide (y < 0)) = true ∧ x.natAbs % y.natAbs ≠ 0 then y.natAbs - x.natAbs % y.natAbs else x.natAbs % y.natAbs := rfl
  generalize dmQ x y = Q at *
  generalize dmR x y = R at *
  unfold intAV at *
  generalize hsx : decide (x < 0) = sx at *
  generalize hsy : decide (y < 0) = sy at *
  generalize hX : x.natAbs = X at *
  generalize hY : y.natAbs = Y at *
  generalize decide (x.fdiv y < 0) = sq at *
  generalize decide (x.fmod y < 0) = sr at *
  generalize (x.fdiv y).natAbs = q' at *
  generalize (x.fmod y).natAbs = r' at *
  refine acall_S Tryz.func110 rfl rfl 78 rfl (Nat.le_of_ble_eq_true rfl) ?_
  (repeat refine AW.seq_k fun K hK => ?_)
  refine AW.rgR [2,3] ?_
  simp [argsL]; try (refine hK _ rfl ?_; clear hK; clear K)
  refine Fresh.intro fun b4 _ => Fresh.intro fun b5 hb5 => ?_
  have n5 : b4 ≠ b5 := by rintro rfl; simp at hb5
  refine hK _ rfl ?_; clear hK; clear K; (repeat refine AW.seq_k fun K hK => ?_); refine AW.rg ?_; simp; try (refine hK _ rfl ?_; clear hK; clear K)
  refine CallK.val v1 ?_; simp; refine CallK.val v2 ?_; simp; refine hK _ rfl ?_; clear hK; clear K; refine AW.no ?_ rfl; refine AW.skip ?_; try simp
  refine hK _ rfl ?_; clear hK; clear K; (repeat refine AW.seq_k fun K hK => ?_); refine AW.rg ?_; simp [hyl]; try (refine hK _ rfl ?_; clear hK; clear K)
  refine AW.no ?_ rfl; refine AW.skip ?_; try simp
  refine hK _ rfl ?_; clear hK; clear K; (repeat refine AW.seq_k fun K hK => ?_); refine AW.rg ?_; simp; try (refine hK _ rfl ?_; clear hK; clear K)
  refine CallK.val hdv ?_; simp; refine hK _ rfl ?_; clear hK; clear K
  refine AW.seq_has [(2, .rptr [.bool sx, lim (dig X)]), (3, .rptr [.bool sy, lim (dig Y)]), (4, .ptr b4 2 0 0), (5, .ptr b5 2 0 0), (6, .int .i64 0), (7, lim (dig Q)), (8, lim (dig R))] ((Mem.emp.set b4 ⟨34, 2, [.agg [.bool false, .nil]]⟩).set b5 ⟨34, 2, [.agg [.bool false, .nil]]⟩) ?_ ?_
  · by_cases ht : sx = sy
    · subst ht
      simp only [bne_self_eq_false, Bool.false_eq_true, false_and, if_false] at hdq hdr
      (repeat refine AW.seq_k fun K hK => ?_); refine AW.rg ?_; simp; try (refine hK _ rfl ?_; clear hK; clear K)
      refine AW.no ?_ rfl; refine AW.skip ?_; simp [hdq, hdr]
    · have hb : (sx == sy) = false := by simp [ht]
      have hb2 : (sx != sy) = true := by simp [ht]
      by_cases hm : X % Y = 0
      · simp only [hm, ne_eq, not_true_eq_false, and_false, if_false] at hdq hdr
        (repeat refine AW.seq_k fun K hK => ?_); refine AW.rg ?_; simp [hb, ht, hm, dig_zero]; try (refine hK _ rfl ?_; clear hK; clear K)
        refine AW.no ?_ rfl; refine AW.skip ?_; simp [hdq, hdr, dig_zero]
      · have hml : 0 < (dig (X % Y)).length := by
          rcases Nat.eq_zero_or_pos (dig (X % Y)).length with h | h
          · exact absurd (dig_nil.1 (List.eq_nil_of_length_eq_zero h)) hm
          · exact h
        simp only [hm, hb2, ne_eq, not_false_eq_true, and_self, if_true] at hdq hdr
        (repeat refine AW.seq_k fun K hK => ?_); refine AW.rg ?_; simp [hb, ht, hml]; try (refine hK _ rfl ?_; clear hK; clear K)
        refine AW.yes ?_ rfl; (repeat refine AW.seq_k fun K hK => ?_)
        refine AW.rgR [44,48] ?_
        simp; try (refine hK _ rfl ?_; clear hK; clear K)
        have hs := plus_call (dig (X / Y)) [1] (dig_lb _) (by intro z hz; simp at hz; omega) (by omega) (by simp)
        refine CallK.val hs ?_; rw [val_dig]; simp [val]; refine hK _ rfl ?_; clear hK; clear K; (repeat refine AW.seq_k fun K hK => ?_); refine AW.rg ?_; simp; try (refine hK _ rfl ?_; clear hK; clear K)
        refine CallK.val (minus_call Y (X % Y) (by omega) (by omega)) ?_
        simp [hdq, hdr]
  (repeat refine AW.seq_k fun K hK => ?_); refine AW.rg ?_; simp; try (refine hK _ rfl ?_; clear hK; clear K)
  refine CallK.val r1 ?_; simp
  refine Fresh.intro fun b9 hb9 => ?_
  have n9 : b4 ≠ b9 := by rintro rfl; simp [n5] at hb9
  have n9' : b5 ≠ b9 := by rintro rfl; simp at hb9
  try simp
  refine hK _ rfl ?_; clear hK; clear K; (repeat refine AW.seq_k fun K hK => ?_); refine AW.rg ?_; simp; try (refine hK _ rfl ?_; clear hK; clear K)
  refine AW.no ?_ rfl; refine AW.skip ?_; try simp
  refine hK _ rfl ?_; clear hK; clear K; (repeat refine AW.seq_k fun K hK => ?_); refine AW.rg ?_; simp; try (refine hK _ rfl ?_; clear hK; clear K)
  refine CallK.val r2 ?_; simp
  refine Fresh.intro fun b11 hb11 => ?_
  have n11 : b4 ≠ b11 := by rintro rfl; simp [n5, n9] at hb11
  have n11' : b5 ≠ b11 := by rintro rfl; simp [n9'] at hb11
  have n11'' : b9 ≠ b11 := by rintro rfl; simp at hb11
  try simp
  refine hK _ rfl ?_; clear hK; clear K; (repeat refine AW.seq_k fun K hK => ?_)
  refine AW.rdT [(9, b9), (11, b11), (4, b4), (5, b5)] [] [] [b9, b11] [0, 1, 2, 3, 4] mix (by simp [n5, Ne.symm n5, n9, n9', n11, n11', n11'', Ne.symm n9, Ne.symm n9', Ne.symm n11, Ne.symm n11', Ne.symm n11'']) (by simp [n5, Ne.symm n5, n9, n9', n11, n11', n11'', Ne.symm n9, Ne.symm n9', Ne.symm n11, Ne.symm n11', Ne.symm n11'']) (by simp [n5, Ne.symm n5, n9, n9', n11, n11', n11'', Ne.symm n9, Ne.symm n9', Ne.symm n11, Ne.symm n11', Ne.symm n11'']) (by simp [n5, Ne.symm n5, n9, n9', n11, n11', n11'', Ne.symm n9, Ne.symm n9', Ne.symm n11, Ne.symm n11', Ne.symm n11'']) (by simp [n5, Ne.symm n5, n9, n9', n11, n11', n11'', Ne.symm n9, Ne.symm n9', Ne.symm n11, Ne.symm n11', Ne.symm n11'']) ?_
  simp [n5, Ne.symm n5, n9, n9', n11, n11', n11'', Ne.symm n9, Ne.symm n9', Ne.symm n11, Ne.symm n11', Ne.symm n11'']; try (refine hK _ rfl ?_; clear hK; clear K)
  refine AW.ret (ret_views (vs := [.agg [.bool sq, lim (dig q')], .agg [.bool sr, lim (dig r')], .int .i64 0]) [.agg [.bool sq, lim (dig q')], .agg [.bool sr, lim (dig r')], .int .i64 0] ?_ (by simp) ⟨rfl, rfl⟩)
  simp [n5, Ne.symm n5]
end Go.Av
end
section
namespace Go.Av
open Go.Proofs
theorem fit_nat {n : Nat} (h : n < B128) : fitAV (if false = true then -(n : Int) else (n : Int)) = .tup [.agg [.bool false, lim (dig n)], .int .i64 0] := by
  rw [if_neg (by simp), fitAV, fz_ok (by omega), fe_ok (by omega), intAV]; rw [show decide ((n : Int) < 0) = false by simp]
  rfl
theorem two_lt {n : Nat} (h : n < 18446744073709551616) : n < B128 := by
  have h1 : B128 = 4294967296 ^ 126 * 4294967296 ^ 2 := by rw [← Nat.pow_add]; rfl
  have hp : 1 ≤ 4294967296 ^ 126 := Nat.pow_pos (by omega)
  rw [h1]
  calc n < 1 * 4294967296 ^ 2 := by omega
    _ ≤ _ := Nat.mul_le_mul_right _ hp
theorem igcd_call (x y : Int) (hx : x.natAbs < B128) (hy : y.natAbs < B128) : ACall Tryz.prog 87 [intAV x, intAV y] Mem.emp fun v m => v = .tup [intAV (Nat.gcd x.natAbs y.natAbs : Nat), .int .i64 0] ∧ m = Mem.emp := by
  have hb := both_ok x y hx hy
  have hgl : Nat.gcd x.natAbs y.natAbs < B128 := by
    rcases Nat.eq_zero_or_pos x.natAbs with h | h
    · rw [h, Nat.gcd_zero_left]; exact hy
    · exact Nat.lt_of_le_of_lt (Nat.gcd_le_left _ h) hx
  have hiG : intAV (Nat.gcd x.natAbs y.natAbs : Nat) = .agg [.bool false, lim (dig (Nat.gcd x.natAbs y.natAbs))] := by
    rw [intAV, show decide (((Nat.gcd x.natAbs y.natAbs : Nat) : Int) < 0) = false by simp]; rfl
  rw [hiG]
  unfold intAV at hb ⊢
  generalize decide (x < 0) = sx at *
  generalize decide (y < 0) = sy at *
  generalize x.natAbs = X at *
  generalize y.natAbs = Y at *
  generalize hG : Nat.gcd X Y = G at *
  refine acall_S Tryz.func87 rfl rfl 68 rfl (Nat.le_of_ble_eq_true rfl) ?_
  (repeat refine AW.seq_k fun K hK => ?_)
  refine AW.rgR [2,3] ?_
  simp [argsL]; try (refine hK _ rfl ?_; clear hK; clear K)
  refine Fresh.intro fun b4 _ => ?_
  refine hK _ rfl ?_; clear hK; clear K; (repeat refine AW.seq_k fun K hK => ?_); refine AW.rg ?_; simp; try (refine hK _ rfl ?_; clear hK; clear K)
  refine CallK.val hb ?_; simp; refine hK _ rfl ?_; clear hK; clear K; refine AW.no ?_ rfl; refine AW.skip ?_; try simp
  refine hK _ rfl ?_; clear hK; clear K; (repeat refine AW.seq_k fun K hK => ?_)
  refine AW.rd [0, 1, 2, 3, 4, 5] mix ?_
  simp; try (refine hK _ rfl ?_; clear hK; clear K)
  refine AW.seq_ex (ι := Nat × Nat) (fun z => [(4, .ptr b4 2 0 0), (5, .int .i64 0), (6, lim (dig z.1)), (7, lim (dig z.2))]) (fun _ => Mem.emp.set b4 ⟨34, 2, [.agg [.bool false, .nil]]⟩)
    (fun z => Nat.gcd z.1 z.2 = G ∧ z.1 < B128 ∧ z.2 < B128 ∧ (z.2 = 0 ∨ (dig z.1).length ≤ 2 ∧ (dig z.2).length ≤ 2)) ?_ ?_
  · refine AW.block (AW.loopS (ι := Nat × Nat) (fun z => [(4, .ptr b4 2 0 0), (5, .int .i64 0), (6, lim (dig z.1)), (7, lim (dig z.2))]) (fun _ => Mem.emp.set b4 ⟨34, 2, [.agg [.bool false, .nil]]⟩)
      (fun z => Nat.gcd z.1 z.2 = G ∧ z.1 < B128 ∧ z.2 < B128) (fun z => z.2) (X, Y) ⟨hG, hx, hy⟩ rfl (by simp) ?_)
    rintro ⟨p, q⟩ ⟨h1, h2, h3⟩
    simp only at h1 h2 h3; simp only
    refine AW.seq_ex (ι := Unit) (fun _ => [(4, .ptr b4 2 0 0), (5, .int .i64 0), (6, lim (dig p)), (7, lim (dig q))]) (fun _ => Mem.emp.set b4 ⟨34, 2, [.agg [.bool false, .nil]]⟩) (fun _ => q ≠ 0) ?_ ?_
    · by_cases h0 : q = 0
      · subst h0; (repeat refine AW.seq_k fun K hK => ?_); refine AW.rg ?_; simp [dig_zero]; try (refine hK _ rfl ?_; clear hK; clear K)
        refine AW.no ?_ rfl
        refine AW.exit ?_
        try simp
        exact ⟨p, 0, ⟨h1, h2, h3, .inl rfl⟩, rfl, by rw [dig_zero]⟩
      · have hl : 0 < (dig q).length := by
          rcases Nat.eq_zero_or_pos (dig q).length with h | h
          · exact absurd (dig_nil.1 (List.eq_nil_of_length_eq_zero h)) h0
          · exact h
        by_cases h4 : 2 < (dig p).length
        · (repeat refine AW.seq_k fun K hK => ?_); refine AW.rg ?_; simp [hl, h4]; try (refine hK _ rfl ?_; clear hK; clear K)
          refine AW.yes ?_ rfl; refine AW.skip ?_; try simp
          exact h0
        · by_cases h5 : 2 < (dig q).length
          · (repeat refine AW.seq_k fun K hK => ?_); refine AW.rg ?_; simp [hl, h4, h5]; try (refine hK _ rfl ?_; clear hK; clear K)
            refine AW.yes ?_ rfl; refine AW.skip ?_; try simp
            exact h0
          · (repeat refine AW.seq_k fun K hK => ?_); refine AW.rg ?_; simp [hl, h4, h5]; try (refine hK _ rfl ?_; clear hK; clear K)
            refine AW.no ?_ rfl
            refine AW.exit ?_
            try simp
            exact ⟨p, q, ⟨h1, h2, h3, .inr ⟨Nat.le_of_not_lt h4, Nat.le_of_not_lt h5⟩⟩, rfl, rfl⟩
    · rintro _ h0
      have l1 := dig_128 h2
      have l2 := dig_128 h3
      (repeat refine AW.seq ?_); refine AW.block ?_; (repeat refine AW.seq_k fun K hK => ?_); refine AW.rg ?_; simp; try (refine hK _ rfl ?_; clear hK; clear K)
      refine CallK.val (divide_call p q h0 (by omega) (by omega)) ?_
      simp; refine hK _ rfl ?_; clear hK; clear K; (repeat refine AW.seq_k fun K hK => ?_); refine AW.rg ?_; simp; try (refine hK _ rfl ?_; clear hK; clear K)
      exact ⟨q, p % q, ⟨by rw [← h1, Nat.gcd_comm p q, Nat.gcd_rec q p, Nat.gcd_comm], h3, Nat.lt_trans (Nat.mod_lt _ (Nat.pos_of_ne_zero h0)) h3⟩, Nat.mod_lt _ (Nat.pos_of_ne_zero h0), rfl, rfl⟩
  rintro ⟨p, q⟩ ⟨h1, h2, h3, h4⟩
  simp only at h1 h2 h3 h4; simp only
  have l1 := dig_128 h2
  refine AW.seq_ex (ι := Unit) (fun _ => [(4, .ptr b4 2 0 0), (5, .int .i64 0), (6, lim (dig p)), (7, lim (dig q))]) (fun _ => Mem.emp.set b4 ⟨34, 2, [.agg [.bool false, .nil]]⟩) (fun _ => (dig p).length ≤ 2 ∧ (dig q).length ≤ 2) ?_ ?_
  · (repeat refine AW.seq_k fun K hK => ?_); refine AW.rg ?_; simp; try (refine hK _ rfl ?_; clear hK; clear K)
    (repeat refine AW.seq ?_)
    refine AW.cs (fun h5 => ?_) (fun h5 => ?_) rfl <;> simp at h5
    · have hq : q = 0 := by omega
      subst hq
      rw [Nat.gcd_zero_right] at h1
      subst h1; (repeat refine AW.seq_k fun K hK => ?_); refine AW.rg ?_; simp; try (refine hK _ rfl ?_; clear hK; clear K)
      refine CallK.val (result_call false (dig p) (dig_lb _) (by omega)) ?_
      rw [val_dig, fit_nat h2]; simp; refine hK _ rfl ?_; clear hK; clear K
      refine AW.ret (ret_int (b := b4) (.bool false) (lim (dig p)) rfl rfl (by simp; exact ⟨rfl, rfl⟩) rfl ?_ ⟨?_, rfl⟩)
      · simp
      · rfl
    · refine AW.skip ?_; try simp
      rcases h4 with rfl | h4
      · rw [dig_zero]; exact ⟨h5, by simp⟩
      · exact h4
  rintro _ ⟨h5, h6⟩
  have hp := dig_length_le.1 h5
  have hq := dig_length_le.1 h6
  (repeat refine AW.seq_k fun K hK => ?_); refine AW.rg ?_; simp; try (refine hK _ rfl ?_; clear hK; clear K)
  refine CallK.val (word_call p (by omega)) ?_
  simp
  refine CallK.val (word_call q (by omega)) ?_
  simp; refine hK _ rfl ?_; clear hK; clear K
  refine AW.seq_ex (ι := Unit) (fun _ => [(4, .ptr b4 2 0 0), (5, .int .i64 0), (10, .int .u64 (G : Nat))]) (fun _ => Mem.emp.set b4 ⟨34, 2, [.agg [.bool false, .nil]]⟩) (fun _ => G < 18446744073709551616) ?_ ?_
  · refine AW.block (AW.loopS (ι := Nat × Nat) (fun z => [(4, .ptr b4 2 0 0), (5, .int .i64 0), (10, .int .u64 (z.1 : Nat)), (11, .int .u64 (z.2 : Nat))]) (fun _ => Mem.emp.set b4 ⟨34, 2, [.agg [.bool false, .nil]]⟩)
      (fun z => Nat.gcd z.1 z.2 = G ∧ z.1 < 18446744073709551616 ∧ z.2 < 18446744073709551616) (fun z => z.2) (p, q) ⟨h1, by omega, by omega⟩ rfl (by simp) ?_)
    rintro ⟨n, k⟩ ⟨g1, g2, g3⟩
    simp only at g1 g2 g3; simp only; (repeat refine AW.seq_k fun K hK => ?_); refine AW.rg ?_; simp; try (refine hK _ rfl ?_; clear hK; clear K)
    (repeat refine AW.seq ?_)
    refine AW.cs (fun hk => ?_) (fun hk => ?_) rfl <;> simp at hk
    · refine AW.skip ?_; try simp
      refine hK _ rfl ?_; clear hK; clear K; (repeat refine AW.seq ?_); refine AW.block ?_
      have hk0 : k ≠ 0 := by omega
      (repeat refine AW.seq_k fun K hK => ?_)
      refine AW.rd [0, 1, 2, 3, 4, 5] mix ?_
      simp [-Int.natCast_emod, hk0]; try (refine hK _ rfl ?_; clear hK; clear K)
      exact ⟨k, n % k, ⟨by rw [← g1, Nat.gcd_comm n k, Nat.gcd_rec k n, Nat.gcd_comm], g3, Nat.lt_trans (Nat.mod_lt _ hk) g3⟩, Nat.mod_lt _ hk, rfl, rfl⟩
    · refine AW.exit ?_
      try simp
      have : k = 0 := by omega
      subst this
      rw [Nat.gcd_zero_right] at g1
      subst g1
      exact ⟨g2, rfl⟩
  rintro _ hG2
  have m1 : G / 4294967296 < 4294967296 := by omega
  have hv : val [G % 4294967296, G / 4294967296 % 4294967296] = G := by simp [val]; omega
  have hr := result_call false [G % 4294967296, G / 4294967296 % 4294967296] (fun z hz => by
    simp at hz
    rcases hz with rfl | rfl <;> exact Nat.mod_lt _ (by omega)) (by simp)
  rw [hv, fit_nat hgl] at hr
  (repeat refine AW.seq_k fun K hK => ?_)
  refine AW.rgR [64] ?_
  simp [-Int.natCast_ediv, -Int.natCast_emod]; try (refine hK _ rfl ?_; clear hK; clear K)
  refine CallK.val hr ?_; simp [-Int.natCast_ediv, -Int.natCast_emod]; refine hK _ rfl ?_; clear hK; clear K
  refine AW.ret (ret_int (b := b4) (.bool false) (lim (dig G)) rfl rfl (by simp; exact ⟨rfl, rfl⟩) rfl ?_ ⟨?_, rfl⟩)
  · simp
  · rfl
end Go.Av
end
section
namespace Go.Av
open Go.Proofs
theorem of1_call (n : Int) (h1 : -9223372036854775808 ≤ n) (h2 : n < 9223372036854775808) : ACall Tryz.prog 106 [.int .i64 n] Mem.emp fun v m => v = intAV n ∧ m = Mem.emp := by
  refine acall_S Tryz.func106 rfl rfl 22 rfl (Nat.le_of_ble_eq_true rfl) ?_
  have hB : B128 = 4294967296 ^ 126 * 4294967296 ^ 2 := by rw [← Nat.pow_add]; rfl
  (repeat refine AW.seq_k fun K hK => ?_); refine AW.rg ?_; simp [argsL]; try (refine hK _ rfl ?_; clear hK; clear K)
  refine Fresh.intro fun b2 _ => ?_
  refine hK _ rfl ?_; clear hK; clear K; (repeat refine AW.seq_k fun K hK => ?_); refine AW.rg ?_; simp; try (refine hK _ rfl ?_; clear hK; clear K)
  refine AW.seq_has [(0, .int .i64 n), (2, .ptr b2 2 0 0), (3, .int .u64 (n.natAbs : Nat))] (Mem.emp.set b2 ⟨34, 2, [.agg [.bool false, .nil]]⟩) ?_ ?_
  · (repeat refine AW.seq_k fun K hK => ?_); refine AW.rg ?_; simp; try (refine hK _ rfl ?_; clear hK; clear K)
    (repeat refine AW.seq ?_)
    refine AW.cs (fun hn => ?_) (fun hn => ?_) rfl <;> simp at hn
    · (repeat refine AW.seq_k fun K hK => ?_); refine AW.rg ?_; simp; try (refine hK _ rfl ?_; clear hK; clear K)
      omega
    · refine AW.skip ?_; try simp
      omega
  have hv : val [n.natAbs % 4294967296, n.natAbs / 4294967296 % 4294967296] = n.natAbs := by simp [val]; omega
  have hl : Lb [n.natAbs % 4294967296, n.natAbs / 4294967296 % 4294967296] := fun z hz => by
    simp at hz
    rcases hz with rfl | rfl <;> exact Nat.mod_lt _ (by omega)
  have ht := trim_call [n.natAbs % 4294967296, n.natAbs / 4294967296 % 4294967296] (by simp)
  rw [trimL_eq hl, hv] at ht
  have hlen : (dig n.natAbs).length ≤ 2 := dig_length_le.2 (by omega)
  (repeat refine AW.seq_k fun K hK => ?_)
  refine AW.rgR [18] ?_
  simp [-Int.natCast_ediv, -Int.natCast_emod]; try (refine hK _ rfl ?_; clear hK; clear K)
  refine Fresh.intro fun b12 h12 => ?_
  have n12 : b2 ≠ b12 := by rintro rfl; simp at h12
  refine CallK.val ht ?_; simp [-Int.natCast_ediv, -Int.natCast_emod, n12, Ne.symm n12]
  refine ⟨by omega, by unfold maxLen; omega, Fresh.intro fun b13 h13 => ?_⟩
  have n13 : b2 ≠ b13 := by rintro rfl; simp [n12] at h13
  simp [-Int.natCast_ediv, -Int.natCast_emod, n12, Ne.symm n12, n13, Ne.symm n13]; refine hK _ rfl ?_; clear hK; clear K
  refine AW.ret (ret_views (vs := [.agg [.bool (decide (n < 0)), .osl b13 1 0 (dig n.natAbs).length]]) [.agg [.bool (decide (n < 0)), lim (dig n.natAbs)]] (by simp [-Int.natCast_ediv, -Int.natCast_emod]) ?_ ⟨rfl, rfl⟩)
  simp [-Int.natCast_ediv, -Int.natCast_emod]
  exact view_osl1 (e := 87) (by simp [n13, Ne.symm n13]) rfl
end Go.Av
end
section
namespace Go.Av
open Go.Proofs
/-- Both parts fit. -/
def Good (q : Rat) : Prop := q.num.natAbs < B128 ∧ q.den < B128
/-- A rational number in memory. -/
def qAV (q : Rat) : AV := .agg [.bool (decide (q.num < 0)), lim (dig q.num.natAbs), .bool false, lim (dig q.den)]
def zeroRat : AV := .agg [.bool false, lim [], .bool false, lim []]
def resQ : Option Rat → AV
  | some q => .tup [qAV q, .int .i64 0]
  | none => .tup [zeroRat, .int .i64 2]
def fits (z : Int) : Bool := decide (z.natAbs < B128)
def addQ (a b : Rat) : Option Rat := if (fits (a.num * b.den) && fits (b.num * a.den) && fits (a.num * b.den + b.num * a.den) && fits ((a.den : Int) * b.den)) = true then some (a + b) else none
def subQ (a b : Rat) : Option Rat := if (fits (a.num * b.den) && fits (b.num * a.den) && fits (a.num * b.den - b.num * a.den) && fits ((a.den : Int) * b.den)) = true then some (a - b) else none
def mulQ (a b : Rat) : Option Rat := if (fits (a.num * b.num) && fits ((a.den : Int) * b.den)) = true then some (a * b) else none
def divQ (a b : Rat) : Option Rat := if (fits (a.num * b.den) && fits ((a.den : Int) * b.num)) = true then some (a / b) else none
def signQ (a : Rat) : Int := if a.num < 0 then -1 else if a.num = 0 then 0 else 1
theorem fits_iff {z : Int} : fits z = true ↔ z.natAbs < B128 := by unfold fits; simp
/-- The lowest terms. -/
theorem divInt_num {n d : Int} (hd : 0 < d) : (Rat.divInt n d).num = n / (Nat.gcd n.natAbs d.natAbs : Nat) := by
  rw [Rat.num_divInt, Int.sign_eq_one_of_pos hd, Int.one_mul, Int.gcd, Nat.gcd_comm]
theorem divInt_den {n d : Int} (hd : 0 < d) : (Rat.divInt n d).den = d.natAbs / Nat.gcd n.natAbs d.natAbs := by
  rw [Rat.den_divInt, if_neg (by omega), Int.gcd, Nat.gcd_comm]
theorem good_divInt {n d : Int} (hn : n.natAbs < B128) (hd : d.natAbs < B128) (h0 : d ≠ 0) : Good (Rat.divInt n d) := by
  have key : ∀ {n d : Int}, n.natAbs < B128 → d.natAbs < B128 → 0 < d → Good (Rat.divInt n d) := by
    intro n d hn hd h0
    refine ⟨?_, ?_⟩
    · rw [divInt_num h0]
      refine Nat.lt_of_le_of_lt ?_ hn
      exact Int.natAbs_ediv_le_natAbs _ _
    · rw [divInt_den h0]
      exact Nat.lt_of_le_of_lt (Nat.div_le_self _ _) hd
  rcases Int.lt_or_gt_of_ne h0 with h | h
  · have := key (n := -n) (d := -d) (by omega) (by omega) (by omega)
    rwa [Rat.neg_divInt_neg] at this
  · exact key hn hd h
theorem add_eq (a b : Rat) : a + b = Rat.divInt (a.num * b.den + b.num * a.den) ((a.den : Int) * b.den) := by
  rw [Rat.add_def', ← Int.natCast_mul, Rat.divInt_ofNat]
theorem sub_eq (a b : Rat) : a - b = Rat.divInt (a.num * b.den - b.num * a.den) ((a.den : Int) * b.den) := by
  rw [Rat.sub_def', ← Int.natCast_mul, Rat.divInt_ofNat]
theorem mul_eq (a b : Rat) : a * b = Rat.divInt (a.num * b.num) ((a.den : Int) * b.den) := by
  rw [Rat.mul_def', ← Int.natCast_mul, Rat.divInt_ofNat]
theorem div_eq (a b : Rat) : a / b = Rat.divInt (a.num * b.den) ((a.den : Int) * b.num) := by
  rw [Rat.div_def, Rat.inv_def, ← Rat.num_divInt_den a, Rat.divInt_mul_divInt, Rat.num_divInt_den]
theorem good_add {a b c : Rat} (h : addQ a b = some c) : Good c := by
  unfold addQ at h
  split at h
  · rename_i h1
    simp only [Bool.and_eq_true, fits_iff] at h1
    cases h
    rw [add_eq]
    refine good_divInt h1.1.2 h1.2 ?_
    have := a.den_pos; have := b.den_pos
    exact Int.ne_of_gt (Int.mul_pos (by omega) (by omega))
  · cases h
theorem good_sub {a b c : Rat} (h : subQ a b = some c) : Good c := by
  unfold subQ at h
  split at h
  · rename_i h1
    simp only [Bool.and_eq_true, fits_iff] at h1
    cases h
    rw [sub_eq]
    refine good_divInt h1.1.2 h1.2 ?_
    have := a.den_pos; have := b.den_pos
    exact Int.ne_of_gt (Int.mul_pos (by omega) (by omega))
  · cases h
theorem good_mul {a b c : Rat} (h : mulQ a b = some c) : Good c := by
  unfold mulQ at h
  split at h
  · rename_i h1
    simp only [Bool.and_eq_true, fits_iff] at h1
    cases h
    rw [mul_eq]
    refine good_divInt h1.1 h1.2 ?_
    have := a.den_pos; have := b.den_pos
    exact Int.ne_of_gt (Int.mul_pos (by omega) (by omega))
  · cases h
theorem good_div {a b c : Rat} (hb : b ≠ 0) (h : divQ a b = some c) : Good c := by
  unfold divQ at h
  split at h
  · rename_i h1
    simp only [Bool.and_eq_true, fits_iff] at h1
    cases h
    rw [div_eq]
    refine good_divInt h1.1 h1.2 ?_
    have := a.den_pos
    exact Int.mul_ne_zero (by omega) (fun e => hb (Rat.num_eq_zero.1 e))
  · cases h
/-- A rational number as it stands in memory, valid or not. -/
structure RR where
  n1 : Bool
  l1 : List Nat
  n2 : Bool
  l2 : List Nat
def RR.av (r : RR) : AV := .agg [.bool r.n1, lim r.l1, .bool r.n2, lim r.l2]
def RR.Lb (r : RR) : Prop := Av.Lb r.l1 ∧ Av.Lb r.l2
def RR.ok (r : RR) : Bool := okRat r.n1 r.l1 r.n2 r.l2
def ofQ (q : Rat) : RR := ⟨decide (q.num < 0), dig q.num.natAbs, false, dig q.den⟩
theorem ofQ_av (q : Rat) : (ofQ q).av = qAV q := rfl
theorem ofQ_lb (q : Rat) : (ofQ q).Lb := ⟨dig_lb _, dig_lb _⟩
theorem ofQ_ok {q : Rat} (h : Good q) : (ofQ q).ok = true := by
  unfold RR.ok ofQ okRat
  have h1 := okInt_dig (z := q.num) h.1
  have h2 := okInt_dig (z := (q.den : Int)) (by simpa using h.2)
  rw [show decide ((q.den : Int) < 0) = false by simp, Int.natAbs_natCast] at h2
  simp only [h1, h2, Bool.not_false, Bool.and_true, Bool.true_and, Bool.and_eq_true, decide_eq_true_eq, val_dig]
  refine ⟨fun e => ?_, q.reduced⟩
  have := dig_nil.1 (List.eq_nil_of_length_eq_zero e)
  exact q.den_nz this
theorem ok_ofQ {r : RR} (hl : r.Lb) (h : r.ok = true) : ∃ q, Good q ∧ r = ofQ q := by
  obtain ⟨n1, l1, n2, l2⟩ := r
  unfold RR.ok okRat at h
  simp only [Bool.and_eq_true, decide_eq_true_eq, Bool.not_eq_true'] at h
  obtain ⟨⟨⟨⟨h1, h2⟩, h3⟩, h4⟩, h5⟩ := h
  obtain ⟨z1, b1, e1, e1', c1⟩ := okInt_canon hl.1 h1
  obtain ⟨z2, b2, e2, e2', c2⟩ := okInt_canon hl.2 h2
  simp only at e1 e1' c1 e2 e2' c2 h3 h4 h5
  subst e1 e1'
  rw [h3] at e2
  have hz2 : z2.natAbs ≠ 0 := by
    intro e
    rw [e, dig_zero] at e2'
    exact h4 (by rw [e2']; rfl)
  refine ⟨⟨z1, z2.natAbs, hz2, ?_⟩, ⟨b1, b2⟩, ?_⟩
  · rw [← c1, ← c2] at h5; exact h5
  · rw [h3]
    show RR.mk _ _ _ l2 = RR.mk _ _ _ (dig z2.natAbs)
    rw [← e2']
end Go.Av
end
section
namespace Go.Av
open Go.Proofs
theorem rvalid_call (r : RR) (hr : r.Lb) : ACall Tryz.prog 51 [r.av] Mem.emp fun v m => v = .bool r.ok ∧ m = Mem.emp := by
  obtain ⟨n1, l1, n2, l2⟩ := r
  obtain ⟨h1, h2⟩ := hr
  simp only at h1 h2
  unfold RR.ok RR.av okRat
  simp only
  have v1 := valid_callU n1 l1
  have v2 := valid_callU n2 l2
  have z2 := zero_call n2 l2
  unfold rawInt at v1 v2 z2
  refine acall_S Tryz.func51 rfl rfl 38 rfl (Nat.le_of_ble_eq_true rfl) ?_
  (repeat refine AW.seq_k fun K hK => ?_)
  refine AW.rgR [1] ?_
  simp [argsL]; try (refine hK _ rfl ?_; clear hK; clear K)
  cases o1 : okInt n1 l1
  · rw [o1] at v1
    (repeat refine AW.seq_k fun K hK => ?_); refine AW.rg ?_; simp; try (refine hK _ rfl ?_; clear hK; clear K)
    refine CallK.val v1 ?_; simp; refine hK _ rfl ?_; clear hK; clear K; refine AW.yes ?_ rfl; (repeat refine AW.seq_k fun K hK => ?_); refine AW.rg ?_; simp; try (refine hK _ rfl ?_; clear hK; clear K)
    exact AW.ret (ret_emp rfl _ (.same _) ⟨by simp, rfl⟩)
  rw [o1] at v1
  cases o2 : okInt n2 l2
  · rw [o2] at v2
    (repeat refine AW.seq_k fun K hK => ?_); refine AW.rg ?_; simp; try (refine hK _ rfl ?_; clear hK; clear K)
    refine CallK.val v1 ?_; simp; refine CallK.val v2 ?_; simp; refine hK _ rfl ?_; clear hK; clear K; refine AW.yes ?_ rfl; (repeat refine AW.seq_k fun K hK => ?_); refine AW.rg ?_; simp; try (refine hK _ rfl ?_; clear hK; clear K)
    exact AW.ret (ret_emp rfl _ (.same _) ⟨by simp, rfl⟩)
  rw [o2] at v2
  obtain ⟨z1, b1, rfl, rfl, c1⟩ := okInt_canon h1 o1
  obtain ⟨z3, b2, e2, rfl, c2⟩ := okInt_canon h2 o2
  cases n2
  · have g := igcd_call z1 z3 b1 b2
    have on := one_call z3 b2
    unfold intAV at g on
    rw [← e2] at g on
    (repeat refine AW.seq_k fun K hK => ?_); refine AW.rg ?_; simp; try (refine hK _ rfl ?_; clear hK; clear K)
    refine CallK.val v1 ?_; simp; refine CallK.val v2 ?_; simp; refine CallK.val z2 ?_; simp; refine hK _ rfl ?_; clear hK; clear K; (repeat refine AW.seq ?_)
    refine AW.cs (fun hl => ?_) (fun hl => ?_) rfl <;> (try simp at hl)
    · (repeat refine AW.seq_k fun K hK => ?_); refine AW.rg ?_; simp; try (refine hK _ rfl ?_; clear hK; clear K)
      exact AW.ret (ret_emp rfl _ (.same _) ⟨by simp [hl], rfl⟩)
    · refine AW.skip ?_; try simp
      refine hK _ rfl ?_; clear hK; clear K
      have hg : Nat.gcd z1.natAbs z3.natAbs < B128 := by
        refine Nat.lt_of_le_of_lt (Nat.le_of_dvd ?_ (Nat.gcd_dvd_right _ _)) b2
        rcases Nat.eq_zero_or_pos z3.natAbs with h | h
        · exact absurd (dig_nil.2 h) hl
        · exact h
      have on2 := one_call (Nat.gcd z1.natAbs z3.natAbs : Nat) (by simpa using hg)
      rw [intAV] at on2
      rw [show decide (((Nat.gcd z1.natAbs z3.natAbs : Nat) : Int) < 0) = false by simp] at g on2
      rw [Int.natAbs_natCast] at g on2
      rw [val_dig, val_dig]
      simp only [hl, ne_eq, not_false_eq_true, decide_true, Bool.and_true, Bool.true_and, Bool.not_false]
      (repeat refine AW.seq_k fun K hK => ?_); refine AW.rg ?_; simp; try (refine hK _ rfl ?_; clear hK; clear K)
      refine CallK.val on ?_; simp; refine hK _ rfl ?_; clear hK; clear K; (repeat refine AW.seq ?_)
      refine AW.cs (fun h3 => ?_) (fun h3 => ?_) rfl <;> (try simp at h3)
      · subst h3; (repeat refine AW.seq_k fun K hK => ?_); refine AW.rg ?_; simp; try (refine hK _ rfl ?_; clear hK; clear K)
        exact AW.ret (ret_emp rfl _ (.same _) ⟨by simp [dig_nil], rfl⟩)
      · refine AW.skip ?_; try simp
        refine hK _ rfl ?_; clear hK; clear K; (repeat refine AW.seq_k fun K hK => ?_); refine AW.rg ?_; simp; try (refine hK _ rfl ?_; clear hK; clear K)
        refine CallK.val g ?_; simp
        refine Fresh.intro fun b3 _ => ?_
        try simp
        refine hK _ rfl ?_; clear hK; clear K; (repeat refine AW.seq_k fun K hK => ?_); refine AW.rg ?_; simp; try (refine hK _ rfl ?_; clear hK; clear K)
        refine CallK.val on2 ?_; simp; refine hK _ rfl ?_; clear hK; clear K
        exact AW.ret (ret_views [.bool (decide (Nat.gcd z1.natAbs z3.natAbs = 1))] rfl (by simp) ⟨by simp [hl], rfl⟩)
  · (repeat refine AW.seq_k fun K hK => ?_); refine AW.rg ?_; simp; try (refine hK _ rfl ?_; clear hK; clear K)
    refine CallK.val v1 ?_; simp; refine CallK.val v2 ?_; simp; refine hK _ rfl ?_; clear hK; clear K; refine AW.yes ?_ rfl; (repeat refine AW.seq_k fun K hK => ?_); refine AW.rg ?_; simp; try (refine hK _ rfl ?_; clear hK; clear K)
    exact AW.ret (ret_emp rfl _ (.same _) ⟨by simp, rfl⟩)
def signR (r : RR) : Int := if r.ok = true then (if r.l1.length = 0 then 0 else if r.n1 = true then -1 else 1) else 0
theorem rsign_call (r : RR) (hr : r.Lb) : ACall Tryz.prog 58 [r.av] Mem.emp fun v m => v = .int .i64 (signR r) ∧ m = Mem.emp := by
  have hv := rvalid_call r hr
  have hz := zero_call r.n1 r.l1
  unfold rawInt at hz
  unfold RR.av at hv ⊢
  refine acall_S Tryz.func58 rfl rfl 16 rfl (Nat.le_of_ble_eq_true rfl) ?_
  (repeat refine AW.seq_k fun K hK => ?_)
  refine AW.rgR [1] ?_
  simp [argsL]; try (refine hK _ rfl ?_; clear hK; clear K)
  refine AW.seq_ex (ι := Unit) (fun _ => []) (fun _ => Mem.emp) (fun _ => r.ok = true ∧ ¬ r.l1.length = 0 ∧ r.n1 = false) ?_ ?_
  · (repeat refine AW.seq ?_); refine AW.block ?_
    by_cases h1 : r.ok = true
    · rw [h1] at hv
      (repeat refine AW.seq_k fun K hK => ?_); refine AW.rg ?_; simp; try (refine hK _ rfl ?_; clear hK; clear K)
      refine CallK.val hv ?_; simp; refine CallK.val hz ?_; simp; refine hK _ rfl ?_; clear hK; clear K; (repeat refine AW.seq ?_)
      refine AW.cs (fun h2 => ?_) (fun h2 => ?_) rfl <;> (try simp at h2)
      · (repeat refine AW.seq_k fun K hK => ?_); refine AW.rg ?_; simp; try (refine hK _ rfl ?_; clear hK; clear K)
        exact AW.ret (ret_emp rfl _ (.same _) ⟨by simp [signR, h2], rfl⟩)
      · (repeat refine AW.seq_k fun K hK => ?_); refine AW.rg ?_; simp; try (refine hK _ rfl ?_; clear hK; clear K)
        (repeat refine AW.seq ?_)
        refine AW.cs (fun h3 => ?_) (fun h3 => ?_) rfl <;> (try simp at h3)
        · (repeat refine AW.seq_k fun K hK => ?_); refine AW.rg ?_; simp; try (refine hK _ rfl ?_; clear hK; clear K)
          exact AW.ret (ret_emp rfl _ (.same _) ⟨by simp [signR, h1, h2, h3], rfl⟩)
        · refine AW.skip ?_; try simp
          exact ⟨h1, h2, h3⟩
    · have h1' : r.ok = false := by simpa using h1
      rw [h1'] at hv
      (repeat refine AW.seq_k fun K hK => ?_); refine AW.rg ?_; simp; try (refine hK _ rfl ?_; clear hK; clear K)
      refine CallK.val hv ?_; simp; refine hK _ rfl ?_; clear hK; clear K; refine AW.yes ?_ rfl; (repeat refine AW.seq_k fun K hK => ?_); refine AW.rg ?_; simp; try (refine hK _ rfl ?_; clear hK; clear K)
      exact AW.ret (ret_emp rfl _ (.same _) ⟨by simp [signR, h1'], rfl⟩)
  rintro _ ⟨h1, h2, h3⟩
  (repeat refine AW.seq_k fun K hK => ?_); refine AW.rg ?_; simp; try (refine hK _ rfl ?_; clear hK; clear K)
  exact AW.ret (ret_emp rfl _ (.same _) ⟨by simp [signR, h1, h2, h3], rfl⟩)
theorem rsign2_call (r : RR) (hr : r.Lb) : ACall Tryz.prog 28 [r.av] Mem.emp fun v m => v = .int .i64 (signR r) ∧ m = Mem.emp := by
  have hv := valid2_call r.n1 r.l1 r.n2 r.l2 hr.1 hr.2
  have hz := isZero_call r.n1 r.l1
  unfold rawInt at hz
  unfold rawRat at hv
  unfold RR.av
  have hok : okRat r.n1 r.l1 r.n2 r.l2 = r.ok := rfl
  rw [hok] at hv
  refine acall_S Tryz.func28 rfl rfl 16 rfl (Nat.le_of_ble_eq_true rfl) ?_
  (repeat refine AW.seq_k fun K hK => ?_)
  refine AW.rgR [1] ?_
  simp [argsL]; try (refine hK _ rfl ?_; clear hK; clear K)
  (repeat refine AW.seq_k fun K hK => ?_); refine AW.rg ?_; simp; try (refine hK _ rfl ?_; clear hK; clear K)
  refine CallK.val hv ?_; simp; refine hK _ rfl ?_; clear hK; clear K
  by_cases h1 : r.ok = true
  · (repeat refine AW.seq_k fun K hK => ?_); refine AW.rg ?_; simp [h1]; try (refine hK _ rfl ?_; clear hK; clear K)
    refine CallK.val hz ?_; simp; refine hK _ rfl ?_; clear hK; clear K; (repeat refine AW.seq ?_)
    refine AW.cs (fun h2 => ?_) (fun h2 => ?_) rfl <;> (try simp at h2)
    · (repeat refine AW.seq_k fun K hK => ?_); refine AW.rg ?_; simp; try (refine hK _ rfl ?_; clear hK; clear K)
      exact AW.ret (ret_emp rfl _ (.same _) ⟨by simp [signR, h2], rfl⟩)
    · refine AW.skip ?_; try simp
      refine hK _ rfl ?_; clear hK; clear K; (repeat refine AW.seq_k fun K hK => ?_); refine AW.rg ?_; simp; try (refine hK _ rfl ?_; clear hK; clear K)
      (repeat refine AW.seq ?_)
      refine AW.cs (fun h3 => ?_) (fun h3 => ?_) rfl <;> (try simp at h3)
      · (repeat refine AW.seq_k fun K hK => ?_); refine AW.rg ?_; simp; try (refine hK _ rfl ?_; clear hK; clear K)
        exact AW.ret (ret_emp rfl _ (.same _) ⟨by simp [signR, h1, h2, h3], rfl⟩)
      · refine AW.skip ?_; try simp
        refine hK _ rfl ?_; clear hK; clear K; (repeat refine AW.seq_k fun K hK => ?_); refine AW.rg ?_; simp; try (refine hK _ rfl ?_; clear hK; clear K)
        exact AW.ret (ret_emp rfl _ (.same _) ⟨by simp [signR, h1, h2, h3], rfl⟩)
  · have h1' : r.ok = false := by simpa using h1
    (repeat refine AW.seq_k fun K hK => ?_); refine AW.rg ?_; simp [h1']; try (refine hK _ rfl ?_; clear hK; clear K)
    refine AW.yes ?_ rfl; (repeat refine AW.seq_k fun K hK => ?_); refine AW.rg ?_; simp; try (refine hK _ rfl ?_; clear hK; clear K)
    exact AW.ret (ret_emp rfl _ (.same _) ⟨by simp [signR, h1'], rfl⟩)
theorem signR_ofQ {q : Rat} (h : Good q) : signR (ofQ q) = signQ q := by
  unfold signR signQ
  rw [ofQ_ok h, if_pos rfl]
  simp only [ofQ, decide_eq_true_eq]
  by_cases h1 : q.num < 0
  · have : (dig q.num.natAbs).length ≠ 0 := by
      intro e
      have := dig_nil.1 (List.eq_nil_of_length_eq_zero e)
      omega
    rw [if_neg this, if_pos h1, if_pos h1]
  · by_cases h2 : q.num = 0
    · rw [h2]; simp [dig_zero]
    · have : (dig q.num.natAbs).length ≠ 0 := by
        intro e
        have := dig_nil.1 (List.eq_nil_of_length_eq_zero e)
        omega
      rw [if_neg this, if_neg h1, if_neg h1, if_neg h2]
end Go.Av
end
section
namespace Go.Av
open Go.Proofs
theorem neg_flag {z : Int} (h : z ≠ 0) : decide (-z < 0) = !decide (z < 0) := by
  by_cases h1 : z < 0
  · simp only [h1, decide_true, Bool.not_true, decide_eq_false_iff_not]; omega
  · simp only [h1, decide_false, Bool.not_false, decide_eq_true_eq]; omega
theorem neg_call (z : Int) (hz : z.natAbs < B128) : ACall Tryz.prog 127 [intAV z] Mem.emp fun v m => v = intAV (-z) ∧ m = Mem.emp := by
  have lz := dig_128 hz
  unfold intAV
  rw [Int.natAbs_neg]
  refine acall_S Tryz.func127 rfl rfl 16 rfl (Nat.le_of_ble_eq_true rfl) ?_
  (repeat refine AW.seq_k fun K hK => ?_)
  refine AW.rgR [1] ?_
  simp [argsL]; try (refine hK _ rfl ?_; clear hK; clear K)
  refine Fresh.intro fun b2 _ => ?_
  refine hK _ rfl ?_; clear hK; clear K; (repeat refine AW.seq_k fun K hK => ?_); refine AW.rg ?_; simp; try (refine hK _ rfl ?_; clear hK; clear K)
  (repeat refine AW.seq ?_)
  refine AW.cs (fun h => ?_) (fun h => ?_) rfl <;> (try simp at h)
  · have h0 : z = 0 := by rw [dig_nil] at h; omega
    subst h0; (repeat refine AW.seq_k fun K hK => ?_); refine AW.rg ?_; simp; try (refine hK _ rfl ?_; clear hK; clear K)
    exact AW.ret (ret_views (vs := [.agg [.bool false, .nil]]) [.agg [.bool false, lim []]] (by simp) (by simp) ⟨by simp [dig_zero], rfl⟩)
  · refine AW.skip ?_; try simp
    refine hK _ rfl ?_; clear hK; clear K
    have h0 : z ≠ 0 := by rintro rfl; exact h (by simp [dig_zero])
    rw [neg_flag h0]
    generalize decide (z < 0) = s at *
    generalize hN : dig z.natAbs = N at *
    (repeat refine AW.seq_k fun K hK => ?_)
    refine AW.rdT [] [] [] [] [0,1,2,4,5,3,6,7,8] mix (by simp) (by simp) (by simp) (by simp) (by simp) ?_
    simp; try (refine hK _ rfl ?_; clear hK; clear K)
    refine Fresh.intro fun b11 hb11 => ?_
    simp only [set_none2, emp_at, and_true] at hb11
    refine ⟨by omega, by unfold maxLen; omega, Fresh.intro fun b14 h14 => ?_⟩
    have n14 : b2 ≠ b14 := by rintro rfl; simp [hb11] at h14
    simp [hb11, n14, Ne.symm n14]; refine hK _ rfl ?_; clear hK; clear K
    refine AW.ret (ret_views (vs := [.agg [.bool (!s), .osl b14 1 0 N.length]]) [.agg [.bool (!s), lim N]] (by simp) ?_ ⟨rfl, rfl⟩)
    simp
    exact view_osl1 (e := 87) (by simp [Ne.symm n14]) rfl
theorem negative_call (z : Int) (hz : z.natAbs < B128) : ACall Tryz.prog 109 [intAV z] Mem.emp fun v m => v = intAV (-z) ∧ m = Mem.emp := by
  have hi := isZero_call (decide (z < 0)) (dig z.natAbs)
  unfold rawInt at hi
  unfold intAV
  rw [Int.natAbs_neg]
  refine acall_S Tryz.func109 rfl rfl 12 rfl (Nat.le_of_ble_eq_true rfl) ?_
  (repeat refine AW.seq_k fun K hK => ?_)
  refine AW.rgR [1] ?_
  simp [argsL]; try (refine hK _ rfl ?_; clear hK; clear K)
  refine Fresh.intro fun b2 _ => ?_
  refine hK _ rfl ?_; clear hK; clear K; (repeat refine AW.seq_k fun K hK => ?_); refine AW.rg ?_; simp; try (refine hK _ rfl ?_; clear hK; clear K)
  refine CallK.val hi ?_; simp; refine hK _ rfl ?_; clear hK; clear K; (repeat refine AW.seq ?_)
  refine AW.cs (fun h => ?_) (fun h => ?_) rfl <;> (try simp at h)
  · have h0 : z = 0 := by rw [dig_nil] at h; omega
    subst h0; (repeat refine AW.seq_k fun K hK => ?_); refine AW.rg ?_; simp; try (refine hK _ rfl ?_; clear hK; clear K)
    exact AW.ret (ret_views (vs := [.agg [.bool false, lim (dig 0)]]) [.agg [.bool false, lim (dig 0)]] (by simp) (by simp) ⟨by simp, rfl⟩)
  · refine AW.skip ?_; try simp
    refine hK _ rfl ?_; clear hK; clear K
    have h0 : z ≠ 0 := by rintro rfl; exact h (by simp [dig_zero])
    rw [neg_flag h0]; (repeat refine AW.seq_k fun K hK => ?_); refine AW.rg ?_; simp; try (refine hK _ rfl ?_; clear hK; clear K)
    exact AW.ret (ret_views (vs := [.agg [.bool (!decide (z < 0)), lim (dig z.natAbs)]]) [.agg [.bool (!decide (z < 0)), lim (dig z.natAbs)]] (by simp) (by simp) ⟨rfl, rfl⟩)
theorem fresh_call (s : Bool) (l : List Nat) (hl : l.length < 2^40) : ACall Tryz.prog 146 [.agg [.bool s, lim l]] Mem.emp fun v m => v = .agg [.bool s, lim l] ∧ m = Mem.emp := by
  refine acall_S Tryz.func146 rfl rfl 9 rfl (Nat.le_of_ble_eq_true rfl) ?_
  (repeat refine AW.seq_k fun K hK => ?_)
  refine AW.rgR [1] ?_
  simp [argsL]; try (refine hK _ rfl ?_; clear hK; clear K)
  refine Fresh.intro fun b2 _ => ?_
  refine hK _ rfl ?_; clear hK; clear K; (repeat refine AW.seq_k fun K hK => ?_)
  refine AW.rdT [] [] [] [] [0, 1, 2, 3, 4, 5, 6] mix (by simp) (by simp) (by simp) (by simp) (by simp) ?_
  simp; try (refine hK _ rfl ?_; clear hK; clear K)
  refine ⟨by omega, by unfold maxLen; omega, ?_⟩
  by_cases h : l = []
  · subst h; simp; refine hK _ rfl ?_; clear hK; clear K
    exact AW.ret (ret_views (vs := [.agg [.bool s, .sl 1 []]]) [.agg [.bool s, lim []]] (by simp) (by simp [lim]) ⟨rfl, rfl⟩)
  · simp [h]
    refine Fresh.intro fun b11 hb11 => ?_
    simp only [set_none2, emp_at, and_true] at hb11
    simp [hb11]; refine hK _ rfl ?_; clear hK; clear K
    refine AW.ret (ret_views (vs := [.agg [.bool s, .osl b11 1 0 l.length]]) [.agg [.bool s, lim l]] (by simp) ?_ ⟨rfl, rfl⟩)
    simp
    exact view_osl1 (e := 87) (by simp [hb11]) rfl
theorem ownInt_call (s : Bool) (l : List Nat) (hl : l.length < 2^40) : ACall Tryz.prog 102 [.agg [.bool s, lim l]] Mem.emp fun v m => v = .agg [.bool s, lim l] ∧ m = Mem.emp := by
  refine acall_S Tryz.func102 rfl rfl 16 rfl (Nat.le_of_ble_eq_true rfl) ?_
  (repeat refine AW.seq_k fun K hK => ?_)
  refine AW.rgR [1] ?_
  simp [argsL]; try (refine hK _ rfl ?_; clear hK; clear K)
  refine Fresh.intro fun b2 _ => ?_
  refine hK _ rfl ?_; clear hK; clear K; (repeat refine AW.seq_k fun K hK => ?_); refine AW.rg ?_; simp [-Int.natCast_mul]; try (refine hK _ rfl ?_; clear hK; clear K)
  refine ⟨by omega, ?_⟩
  refine Fresh.intro fun b3 hb3 => ?_
  simp only [set_none2, emp_at, and_true] at hb3
  simp only [u32s_rep]
  refine hK _ rfl ?_; clear hK; clear K; (repeat refine AW.seq_k fun K hK => ?_); refine AW.rg ?_; simp [hb3]; try (refine hK _ rfl ?_; clear hK; clear K)
  (repeat refine AW.seq_k fun K hK => ?_); refine AW.rg ?_; simp [hb3]; try (refine hK _ rfl ?_; clear hK; clear K)
  refine AW.ret (ret_views (vs := [.agg [.bool s, .osl b3 1 0 l.length]]) [.agg [.bool s, lim l]] (by simp) ?_ ⟨rfl, rfl⟩)
  simp
  exact view_osl1 (e := 87) (by simp [hb3]) rfl
theorem own_call (r : RR) (h1 : r.l1.length < 2^40) (h2 : r.l2.length < 2^40) : ACall Tryz.prog 67 [r.av] Mem.emp fun v m => v = r.av ∧ m = Mem.emp := by
  have o1 := ownInt_call r.n1 r.l1 h1
  have o2 := ownInt_call r.n2 r.l2 h2
  unfold RR.av
  refine acall_S Tryz.func67 rfl rfl 10 rfl (Nat.le_of_ble_eq_true rfl) ?_
  (repeat refine AW.seq_k fun K hK => ?_)
  refine AW.rgR [1] ?_
  simp [argsL]; try (refine hK _ rfl ?_; clear hK; clear K)
  refine Fresh.intro fun b2 _ => ?_
  refine hK _ rfl ?_; clear hK; clear K; (repeat refine AW.seq_k fun K hK => ?_)
  refine AW.rdT [] [] [] [] [0,1,3,4,2,5,6,7] mix (by simp) (by simp) (by simp) (by simp) (by simp) ?_
  simp; try (refine hK _ rfl ?_; clear hK; clear K)
  refine CallK.val o1 ?_; simp; refine CallK.val o2 ?_; simp; refine hK _ rfl ?_; clear hK; clear K
  exact AW.ret (ret_views (vs := [.agg [.bool r.n1, lim r.l1, .bool r.n2, lim r.l2]]) [.agg [.bool r.n1, lim r.l1, .bool r.n2, lim r.l2]] (by simp) (by simp) ⟨rfl, rfl⟩)
theorem both2_call (r1 r2 : RR) (h1 : r1.Lb) (h2 : r2.Lb) : ACall Tryz.prog 77 [r1.av, r2.av] Mem.emp fun v m => v = .bool (r1.ok && r2.ok) ∧ m = Mem.emp := by
  have v1 : ACall Tryz.prog 52 [r1.av] Mem.emp fun v m => v = .bool r1.ok ∧ m = Mem.emp := valid2_call r1.n1 r1.l1 r1.n2 r1.l2 h1.1 h1.2
  have v2 : ACall Tryz.prog 52 [r2.av] Mem.emp fun v m => v = .bool r2.ok ∧ m = Mem.emp := valid2_call r2.n1 r2.l1 r2.n2 r2.l2 h2.1 h2.2
  unfold RR.av at *
  refine acall_S Tryz.func77 rfl rfl 15 rfl (Nat.le_of_ble_eq_true rfl) ?_
  (repeat refine AW.seq_k fun K hK => ?_)
  refine AW.rgR [2,3] ?_
  simp [argsL]; try (refine hK _ rfl ?_; clear hK; clear K)
  (repeat refine AW.seq_k fun K hK => ?_); refine AW.rg ?_; simp; try (refine hK _ rfl ?_; clear hK; clear K)
  refine CallK.val v1 ?_; simp; refine hK _ rfl ?_; clear hK; clear K; (repeat refine AW.seq_k fun K hK => ?_); refine AW.rg ?_; simp; try (refine hK _ rfl ?_; clear hK; clear K)
  refine CallK.val v2 ?_; simp; refine hK _ rfl ?_; clear hK; clear K
  cases o1 : r1.ok
  · (repeat refine AW.seq_k fun K hK => ?_); refine AW.rg ?_; simp; try (refine hK _ rfl ?_; clear hK; clear K)
    exact AW.ret (ret_emp rfl _ (.same _) ⟨by simp, rfl⟩)
  · (repeat refine AW.seq_k fun K hK => ?_); refine AW.rg ?_; simp; try (refine hK _ rfl ?_; clear hK; clear K)
    exact AW.ret (ret_emp rfl _ (.same _) ⟨by simp, rfl⟩)
theorem all_call (r1 r2 : RR) (h1 : r1.Lb) (h2 : r2.Lb) : ACall Tryz.prog 129 [.sl 4 [r1.av, r2.av]] Mem.emp fun v m => v = .bool (r1.ok && r2.ok) ∧ m = Mem.emp := by
  have v1 := rvalid_call r1 h1
  have v2 := rvalid_call r2 h2
  refine acall_S Tryz.func129 rfl rfl 15 rfl (Nat.le_of_ble_eq_true rfl) ?_
  (repeat refine AW.seq_k fun K hK => ?_); refine AW.rg ?_; simp [argsL]; try (refine hK _ rfl ?_; clear hK; clear K)
  refine AW.seq_ex (ι := Unit) (fun _ => []) (fun _ => Mem.emp) (fun _ => r1.ok = true ∧ r2.ok = true) ?_ ?_
  · (repeat refine AW.seq_k fun K hK => ?_); refine AW.rg ?_; simp; try (refine hK _ rfl ?_; clear hK; clear K)
    refine AW.block (AW.loopS (ι := Nat) (fun i => [(5, .sl 4 [r1.av, r2.av]), (6, .int .i64 2), (7, .int .i64 (i : Nat))]) (fun _ => Mem.emp)
      (fun i => i ≤ 2 ∧ (1 ≤ i → r1.ok = true) ∧ (2 ≤ i → r2.ok = true)) (fun i => 2 - i) 0 ⟨by simp, by simp, by simp⟩ rfl (by simp) ?_)
    rintro i ⟨i1, i2, i3⟩
    rcases i with _ | _ | i
    · have w : IntKind.i64.wrap 1 = 1 := rfl
      have w2 : IntKind.i64.wrap 2 = 2 := rfl
      (repeat refine AW.seq_k fun K hK => ?_); refine AW.rg ?_; simp; try (refine hK _ rfl ?_; clear hK; clear K)
      refine AW.seq_k fun K hK => ?_
      refine AW.yes ?_ rfl; refine AW.skip ?_; try simp
      refine hK _ rfl ?_; clear hK; clear K
      refine AW.seq_ex (ι := Unit) (fun _ => [(5, .sl 4 [r1.av, r2.av]), (6, .int .i64 2), (7, .int .i64 0)]) (fun _ => Mem.emp) (fun _ => r1.ok = true) ?_ ?_
      · (repeat refine AW.seq ?_); refine AW.block ?_; (repeat refine AW.seq_k fun K hK => ?_); refine AW.rg ?_; simp [RR.av]; try (refine hK _ rfl ?_; clear hK; clear K)
        refine Fresh.intro fun b4 _ => ?_
        try simp
        refine hK _ rfl ?_; clear hK; clear K; (repeat refine AW.seq_k fun K hK => ?_); refine AW.rg ?_; simp; try (refine hK _ rfl ?_; clear hK; clear K)
        refine CallK.val v1 ?_; simp; refine hK _ rfl ?_; clear hK; clear K
        refine AW.toEmp [(5, .sl 4 [r1.av, r2.av]), (6, .int .i64 2), (7, .int .i64 0), (13, .bool (!r1.ok))] (by simp [RR.av]) ?_
        by_cases h : r1.ok = true
        · refine AW.no ?_ (by simp [h])
          exact AW.skip ⟨(), h, rfl, rfl, by simp⟩
        · refine AW.yes ?_ (by simp [h])
          (repeat refine AW.seq_k fun K hK => ?_); refine AW.rg ?_; simp; try (refine hK _ rfl ?_; clear hK; clear K)
          exact AW.ret (ret_emp rfl _ (.same _) ⟨by simp [h], rfl⟩)
      · rintro _ h
        (repeat refine AW.seq_k fun K hK => ?_); refine AW.rg ?_; simp [w, w2]; try (refine hK _ rfl ?_; clear hK; clear K)
        exact ⟨1, ⟨by omega, fun _ => h, fun hh => absurd hh (by omega)⟩, by omega, by simp⟩
    · have w : IntKind.i64.wrap 1 = 1 := rfl
      have w2 : IntKind.i64.wrap 2 = 2 := rfl
      (repeat refine AW.seq_k fun K hK => ?_); refine AW.rg ?_; simp; try (refine hK _ rfl ?_; clear hK; clear K)
      refine AW.seq_k fun K hK => ?_
      refine AW.yes ?_ rfl; refine AW.skip ?_; try simp
      refine hK _ rfl ?_; clear hK; clear K
      refine AW.seq_ex (ι := Unit) (fun _ => [(5, .sl 4 [r1.av, r2.av]), (6, .int .i64 2), (7, .int .i64 1)]) (fun _ => Mem.emp) (fun _ => r2.ok = true) ?_ ?_
      · (repeat refine AW.seq ?_); refine AW.block ?_; (repeat refine AW.seq_k fun K hK => ?_); refine AW.rg ?_; simp [RR.av]; try (refine hK _ rfl ?_; clear hK; clear K)
        refine Fresh.intro fun b4 _ => ?_
        try simp
        refine hK _ rfl ?_; clear hK; clear K; (repeat refine AW.seq_k fun K hK => ?_); refine AW.rg ?_; simp; try (refine hK _ rfl ?_; clear hK; clear K)
        refine CallK.val v2 ?_; simp; refine hK _ rfl ?_; clear hK; clear K
        refine AW.toEmp [(5, .sl 4 [r1.av, r2.av]), (6, .int .i64 2), (7, .int .i64 1), (13, .bool (!r2.ok))] (by simp [RR.av]) ?_
        by_cases h : r2.ok = true
        · refine AW.no ?_ (by simp [h])
          exact AW.skip ⟨(), h, rfl, rfl, by simp⟩
        · refine AW.yes ?_ (by simp [h])
          (repeat refine AW.seq_k fun K hK => ?_); refine AW.rg ?_; simp; try (refine hK _ rfl ?_; clear hK; clear K)
          exact AW.ret (ret_emp rfl _ (.same _) ⟨by simp [h], rfl⟩)
      · rintro _ h
        (repeat refine AW.seq_k fun K hK => ?_); refine AW.rg ?_; simp [w, w2]; try (refine hK _ rfl ?_; clear hK; clear K)
        exact ⟨2, ⟨by omega, fun _ => i2 (by omega), fun hh => h⟩, by omega, by simp⟩
    · have : i = 0 := by omega
      subst this; (repeat refine AW.seq_k fun K hK => ?_); refine AW.rg ?_; simp; try (refine hK _ rfl ?_; clear hK; clear K)
      refine AW.seq_k fun K hK => ?_
      refine AW.no ?_ rfl
      refine AW.exit ?_
      try simp
      exact ⟨i2 (by omega), i3 (by omega)⟩
  rintro _ ⟨o1, o2⟩
  (repeat refine AW.seq_k fun K hK => ?_); refine AW.rg ?_; simp; try (refine hK _ rfl ?_; clear hK; clear K)
  exact AW.ret (ret_emp rfl _ (.same _) ⟨by simp [o1, o2], rfl⟩)
end Go.Av
end
section
namespace Go.Av
open Go.Proofs
/-- Numerator and denominator with a positive denominator. -/
def posN (n d : Int) : Int := if d < 0 then -n else n
def posD (d : Int) : Int := if d < 0 then -d else d
theorem posD_pos {d : Int} (h : d ≠ 0) : 0 < posD d := by unfold posD; split <;> omega
theorem posN_abs (n d : Int) : (posN n d).natAbs = n.natAbs := by unfold posN; split <;> omega
theorem posD_abs (d : Int) : (posD d).natAbs = d.natAbs := by unfold posD; split <;> omega
theorem pos_divInt (n d : Int) : Rat.divInt (posN n d) (posD d) = Rat.divInt n d := by
  unfold posN posD
  split
  · rw [Rat.neg_divInt_neg]
  · rfl
theorem gcd_bound {a b : Nat} (ha : a < B128) (hb : b < B128) : Nat.gcd a b < B128 := by
  rcases Nat.eq_zero_or_pos a with h | h
  · rw [h, Nat.gcd_zero_left]; exact hb
  · exact Nat.lt_of_le_of_lt (Nat.gcd_le_left _ h) ha
theorem low_num {n d : Int} (h : d ≠ 0) : (posN n d).fdiv (Nat.gcd n.natAbs d.natAbs : Nat) = (Rat.divInt n d).num := by
  rw [← pos_divInt, divInt_num (posD_pos h), posN_abs, posD_abs, Int.fdiv_eq_ediv_of_nonneg _ (by omega)]
theorem low_den {n d : Int} (h : d ≠ 0) : (posD d).fdiv (Nat.gcd n.natAbs d.natAbs : Nat) = ((Rat.divInt n d).den : Int) := by
  have hp := posD_pos h
  rw [← pos_divInt, divInt_den hp, posN_abs, posD_abs, Int.fdiv_eq_ediv_of_nonneg _ (by omega), Int.natCast_ediv]
  have e : posD d = ((posD d).natAbs : Int) := by omega
  rw [posD_abs] at e
  rw [← e]
theorem reduce_call (n d : Int) (hn : n.natAbs < B128) (hd : d.natAbs < B128) (h0 : d ≠ 0) : ACall Tryz.prog 145 [intAV n, intAV d] Mem.emp fun v m => v = qAV (Rat.divInt n d) ∧ m = Mem.emp := by
  have hN := posN_abs n d
  have hD := posD_abs d
  have hDp := posD_pos h0
  have hgl := gcd_bound hn hd
  have hg0 : Nat.gcd n.natAbs d.natAbs ≠ 0 := by
    intro e
    have := (Nat.gcd_eq_zero_iff.1 e).2
    omega
  have hg := igcd_call (posN n d) (posD d) (by omega) (by omega)
  rw [hN, hD] at hg
  have hone := one_call (Nat.gcd n.natAbs d.natAbs : Nat) (by simpa using hgl)
  have dm1 := idivmod_call (posN n d) (Nat.gcd n.natAbs d.natAbs : Nat) (by omega) (by simpa using hgl) (by omega)
  have dm2 := idivmod_call (posD d) (Nat.gcd n.natAbs d.natAbs : Nat) (by omega) (by simpa using hgl) (by omega)
  rw [low_num h0] at dm1
  rw [low_den h0] at dm2
  have hng := neg_call n hn
  have hnd := neg_call d hd
  have hflag : decide (((Nat.gcd n.natAbs d.natAbs : Nat) : Int) < 0) = false := by simp
  have hflag2 : decide (((Rat.divInt n d).den : Int) < 0) = false := by simp
  have e1 : Nat.gcd n.natAbs d.natAbs = 1 → posN n d = (Rat.divInt n d).num ∧ posD d = ((Rat.divInt n d).den : Int) := by
    intro h
    have a1 := low_num (n := n) h0
    have a2 := low_den (n := n) h0
    rw [h, show ((1 : Nat) : Int) = 1 from rfl, Int.fdiv_one] at a1 a2
    exact ⟨a1, a2⟩
  unfold intAV at *
  unfold qAV
  simp only [hflag, hflag2, Int.natAbs_natCast] at *
  generalize (Rat.divInt n d).num = q1 at *
  generalize (Rat.divInt n d).den = q2 at *
  generalize Nat.gcd n.natAbs d.natAbs = g at *
  refine acall_S Tryz.func145 rfl rfl 39 rfl (Nat.le_of_ble_eq_true rfl) ?_
  (repeat refine AW.seq_k fun K hK => ?_); refine AW.rg ?_; simp [argsL]; try (refine hK _ rfl ?_; clear hK; clear K)
  refine Fresh.intro fun b2 _ => ?_
  refine Fresh.intro fun b3 hb3 => ?_
  simp only [set_none2, emp_at, and_true] at hb3
  refine Fresh.intro fun b4 hb4 => ?_
  simp only [set_none2, emp_at, and_true] at hb4
  refine hK _ rfl ?_; clear hK; clear K
  refine AW.seq_has [(2, .ptr b2 2 0 0), (3, .ptr b3 2 0 0), (4, .ptr b4 4 0 0)] (((Mem.emp.set b2 ⟨34, 2, [.agg [.bool (decide (posN n d < 0)), lim (dig (posN n d).natAbs)]]⟩).set b3 ⟨34, 2, [.agg [.bool (decide (posD d < 0)), lim (dig (posD d).natAbs)]]⟩).set b4 ⟨36, 4, [.agg [.bool false, .nil, .bool false, .nil]]⟩) ?_ ?_
  · (repeat refine AW.seq_k fun K hK => ?_); refine AW.rg ?_; simp [hb3, hb4]; try (refine hK _ rfl ?_; clear hK; clear K)
    (repeat refine AW.seq ?_)
    refine AW.cs (fun h => ?_) (fun h => ?_) rfl <;> (try simp at h)
    · have p1 : posN n d = -n := if_pos h
      have p2 : posD d = -d := if_pos h
      (repeat refine AW.seq_k fun K hK => ?_)
      refine AW.rdT [] [] [] [b2, b3] [0,2,1,3,4,5] mix (by simp [hb3, hb4]) (by simp [hb3, hb4]) (by simp [hb3, hb4]) (by simp [hb3, hb4]) (by simp [hb3, hb4]) ?_
      simp [hb3, hb4]; try (refine hK _ rfl ?_; clear hK; clear K)
      refine CallK.val hng ?_; simp; refine CallK.val hnd ?_; simp [hb3, hb4]; rw [p1, p2]; simp
      funext c
      simp only [set_at, emp_at]
      (repeat' split) <;> simp_all
    · have p1 : posN n d = n := if_neg (by omega)
      have p2 : posD d = d := if_neg (by omega)
      refine AW.skip ⟨rfl, ?_, by simp⟩
      rw [p1, p2]
      rfl
  generalize hsN : decide (posN n d < 0) = sN at *
  generalize hsD : decide (posD d < 0) = sD at *
  generalize hsq : decide (q1 < 0) = sq at *
  (repeat refine AW.seq_k fun K hK => ?_); refine AW.rg ?_; simp [hb3, hb4]; try (refine hK _ rfl ?_; clear hK; clear K)
  refine CallK.val hg ?_; simp
  refine Fresh.intro fun b5 hb5 => ?_
  simp only [set_none2, emp_at, and_true] at hb5
  try simp [hb3, hb4, hb5]
  refine hK _ rfl ?_; clear hK; clear K
  refine AW.seq_has [(2, .ptr b2 2 0 0), (3, .ptr b3 2 0 0), (4, .ptr b4 4 0 0)] ((((Mem.emp.set b2 ⟨34, 2, [.agg [.bool sq, lim (dig q1.natAbs)]]⟩).set b3 ⟨34, 2, [.agg [.bool false, lim (dig q2)]]⟩).set b4 ⟨36, 4, [.agg [.bool false, .nil, .bool false, .nil]]⟩).set b5 ⟨34, 2, [.agg [.bool false, lim (dig g)]]⟩) ?_ ?_
  · (repeat refine AW.seq_k fun K hK => ?_); refine AW.rg ?_; simp [hb3, hb4, hb5]; try (refine hK _ rfl ?_; clear hK; clear K)
    refine CallK.val hone ?_; simp; refine hK _ rfl ?_; clear hK; clear K; (repeat refine AW.seq ?_)
    refine AW.cs (fun h => ?_) (fun h => ?_) rfl <;> (try simp at h)
    · (repeat refine AW.seq_k fun K hK => ?_); refine AW.rg ?_; simp [hb3, hb4, hb5]; try (refine hK _ rfl ?_; clear hK; clear K)
      refine CallK.val dm1 ?_; simp [hb3, hb4, hb5]; refine hK _ rfl ?_; clear hK; clear K; (repeat refine AW.seq_k fun K hK => ?_); refine AW.rg ?_; simp [hb3, hb4, hb5]; try (refine hK _ rfl ?_; clear hK; clear K)
      refine CallK.val dm2 ?_; simp [hb3, hb4, hb5]
      funext c
      simp only [set_at, emp_at]
      (repeat' split) <;> simp_all
    · obtain ⟨a1, a2⟩ := e1 h
      rw [a1] at hsN
      rw [a2] at hsD
      have a3 : sN = sq := by rw [← hsN, hsq]
      have a4 : sD = false := by rw [← hsD]; simp
      refine AW.skip ⟨rfl, ?_, by simp⟩
      rw [a1, a2, a3, a4, Int.natAbs_natCast]
      rfl
  (repeat refine AW.seq_k fun K hK => ?_); refine AW.rg ?_; simp [hb3, hb4, hb5]; try (refine hK _ rfl ?_; clear hK; clear K)
  exact AW.ret (ret_views (vs := [.agg [.bool sq, lim (dig q1.natAbs), .bool false, lim (dig q2)]]) [.agg [.bool sq, lim (dig q1.natAbs), .bool false, lim (dig q2)]] (by simp [hb3, hb4, hb5]) (by simp) ⟨rfl, rfl⟩)
end Go.Av
end
section
namespace Go.Av
open Go.Proofs
theorem lowest_call (n d : Int) (hn : n.natAbs < B128) (hd : d.natAbs < B128) (h0 : d ≠ 0) : ACall Tryz.prog 79 [intAV n, intAV d] Mem.emp fun v m => v = qAV (Rat.divInt n d) ∧ m = Mem.emp := by
  have hN := posN_abs n d
  have hD := posD_abs d
  have hDp := posD_pos h0
  have hgl := gcd_bound hn hd
  have hg0 : Nat.gcd n.natAbs d.natAbs ≠ 0 := by
    intro e
    have := (Nat.gcd_eq_zero_iff.1 e).2
    omega
  have hg := gcd1_call n d (by omega) (by omega)
  have dm1 := divmod1_call (posN n d) (Nat.gcd n.natAbs d.natAbs : Nat) (by omega) (by simpa using hgl) (by omega)
  have dm2 := divmod1_call (posD d) (Nat.gcd n.natAbs d.natAbs : Nat) (by omega) (by simpa using hgl) (by omega)
  rw [low_num h0] at dm1
  rw [low_den h0] at dm2
  have hng := negative_call n hn
  have hnd := negative_call d hd
  have hflag : decide (((Nat.gcd n.natAbs d.natAbs : Nat) : Int) < 0) = false := by simp
  have hflag2 : decide (((Rat.divInt n d).den : Int) < 0) = false := by simp
  unfold intAV at *
  unfold qAV
  simp only [hflag, hflag2, Int.natAbs_natCast] at *
  generalize (Rat.divInt n d).num = q1 at *
  generalize (Rat.divInt n d).den = q2 at *
  generalize Nat.gcd n.natAbs d.natAbs = g at *
  refine acall_S Tryz.func79 rfl rfl 42 rfl (Nat.le_of_ble_eq_true rfl) ?_
  (repeat refine AW.seq_k fun K hK => ?_); refine AW.rg ?_; simp [argsL]; try (refine hK _ rfl ?_; clear hK; clear K)
  refine Fresh.intro fun b2 _ => ?_
  refine Fresh.intro fun b3 hb3 => ?_
  simp only [set_none2, emp_at, and_true] at hb3
  refine Fresh.intro fun b4 hb4 => ?_
  simp only [set_none2, emp_at, and_true] at hb4
  refine hK _ rfl ?_; clear hK; clear K; (repeat refine AW.seq_k fun K hK => ?_); refine AW.rg ?_; simp [hb3, hb4]; try (refine hK _ rfl ?_; clear hK; clear K)
  refine CallK.val hg ?_; simp
  refine Fresh.intro fun b5 hb5 => ?_
  simp only [set_none2, emp_at, and_true] at hb5
  try simp [hb3, hb4, hb5]
  refine hK _ rfl ?_; clear hK; clear K
  refine AW.seq_has [(2, .ptr b2 2 0 0), (3, .ptr b3 2 0 0), (4, .ptr b4 4 0 0), (5, .ptr b5 2 0 0)] ((((Mem.emp.set b2 ⟨34, 2, [.agg [.bool (decide (posN n d < 0)), lim (dig (posN n d).natAbs)]]⟩).set b3 ⟨34, 2, [.agg [.bool (decide (posD d < 0)), lim (dig (posD d).natAbs)]]⟩).set b4 ⟨36, 4, [.agg [.bool false, .nil, .bool false, .nil]]⟩).set b5 ⟨34, 2, [.agg [.bool false, lim (dig g)]]⟩) ?_ ?_
  · (repeat refine AW.seq_k fun K hK => ?_); refine AW.rg ?_; simp [hb3, hb4, hb5]; try (refine hK _ rfl ?_; clear hK; clear K)
    (repeat refine AW.seq ?_)
    refine AW.cs (fun h => ?_) (fun h => ?_) rfl <;> (try simp at h)
    · have p1 : posN n d = -n := if_pos h
      have p2 : posD d = -d := if_pos h
      (repeat refine AW.seq_k fun K hK => ?_); refine AW.rg ?_; simp [hb3, hb4, hb5]; try (refine hK _ rfl ?_; clear hK; clear K)
      refine CallK.val hng ?_; simp [hb3, hb4, hb5]; refine hK _ rfl ?_; clear hK; clear K; (repeat refine AW.seq_k fun K hK => ?_); refine AW.rg ?_; simp [hb3, hb4, hb5]; try (refine hK _ rfl ?_; clear hK; clear K)
      refine CallK.val hnd ?_; simp [hb3, hb4, hb5]; rw [p1, p2]; simp
      funext c
      simp only [set_at, emp_at]
      (repeat' split) <;> simp_all
    · have p1 : posN n d = n := if_neg (by omega)
      have p2 : posD d = d := if_neg (by omega)
      refine AW.skip ⟨rfl, ?_, by simp⟩
      rw [p1, p2]
      rfl
  (repeat refine AW.seq_k fun K hK => ?_); refine AW.rg ?_; simp [hb3, hb4, hb5]; try (refine hK _ rfl ?_; clear hK; clear K)
  refine CallK.val dm1 ?_; simp [hb3, hb4, hb5]
  refine Fresh.intro fun b7 hb7 => ?_
  simp only [set_none2, emp_at, and_true] at hb7
  refine Fresh.intro fun b8 hb8 => ?_
  simp only [set_none2, emp_at, and_true] at hb8
  try simp [hb3, hb4, hb5, hb7, hb8]
  refine hK _ rfl ?_; clear hK; clear K; (repeat refine AW.seq_k fun K hK => ?_); refine AW.rg ?_; simp [hb3, hb4, hb5, hb7, hb8]; try (refine hK _ rfl ?_; clear hK; clear K)
  refine CallK.val dm2 ?_; simp [hb3, hb4, hb5, hb7, hb8]
  refine Fresh.intro fun b10 hb10 => ?_
  simp only [set_none2, emp_at, and_true] at hb10
  refine Fresh.intro fun b11 hb11 => ?_
  simp only [set_none2, emp_at, and_true] at hb11
  try simp [hb3, hb4, hb5, hb7, hb8, hb10, hb11]
  refine hK _ rfl ?_; clear hK; clear K; (repeat refine AW.seq_k fun K hK => ?_); refine AW.rg ?_; simp [hb3, hb4, hb5, hb7, hb8, hb10, hb11]; try (refine hK _ rfl ?_; clear hK; clear K)
  exact AW.ret (ret_views (vs := [.agg [.bool (decide (q1 < 0)), lim (dig q1.natAbs), .bool false, lim (dig q2)]]) [.agg [.bool (decide (q1 < 0)), lim (dig q1.natAbs), .bool false, lim (dig q2)]] (by simp [hb3, hb4, hb5, hb7, hb8, hb10, hb11]) (by simp) ⟨rfl, rfl⟩)
/-- The end of a function that gives a rational number and an error. -/
theorem ret_rat {n c t b : Nat} {L : List (Nat × AV)} {m : Mem} {R : AV → Mem → Prop} {x1 x2 x3 x4 e : AV} (y1 y2 y3 y4 : AV) (hc : look L c = .ptr b 4 0 0) (he : look L t = e) (hm : m b = some ⟨36, 4, [.agg [x1, x2, x3, x4]]⟩) (hn : (Nat.blt c n && Nat.blt t n) = true)
    (hv : viewsL m Mem.emp [x1, x2, x3, x4] [y1, y2, y3, y4]) (hR : R (.tup [.agg [y1, y2, y3, y4], e]) Mem.emp) : retQ Tryz.prog [.cell c 36, .tmp t] R .ret (S n L m) := by
  rw [Bool.and_eq_true] at hn
  refine ret_views (vs := [.agg [x1, x2, x3, x4], e]) [.agg [y1, y2, y3, y4], e] ?_ ?_ hR
  · simp only [resList_cons, resList_nil, resOne_cell, resOne_tmp, hn.1, hn.2, if_true, hc, he, ti36, Option.bind_some, loadAV_ptr, hm]
    simp
  · simp only [viewsL_cons, viewsL_nil, and_true, view_same, view_agg] at hv ⊢
    exact hv
theorem make2_call (n d : Int) (hn : n.natAbs < B128) (hd : d.natAbs < B128) (h0 : d ≠ 0) : ACall Tryz.prog 105 [intAV n, intAV d] Mem.emp fun v m => v = resQ (some (Rat.divInt n d)) ∧ m = Mem.emp := by
  have v1 := valid1_ok hn
  have v2 := valid1_ok hd
  have hz := isZero_call (decide (d < 0)) (dig d.natAbs)
  have hlo := lowest_call n d hn hd h0
  have hl : ¬ dig d.natAbs = [] := by rw [dig_nil]; omega
  unfold rawInt at hz
  simp only [resQ]
  unfold intAV qAV at *
  refine acall_S Tryz.func105 rfl rfl 25 rfl (Nat.le_of_ble_eq_true rfl) ?_
  (repeat refine AW.seq_k fun K hK => ?_)
  refine AW.rgR [2,3] ?_
  simp [argsL]; try (refine hK _ rfl ?_; clear hK; clear K)
  refine Fresh.intro fun b4 _ => ?_
  refine hK _ rfl ?_; clear hK; clear K; (repeat refine AW.seq_k fun K hK => ?_); refine AW.rg ?_; simp; try (refine hK _ rfl ?_; clear hK; clear K)
  refine CallK.val v1 ?_; simp; refine hK _ rfl ?_; clear hK; clear K; (repeat refine AW.seq_k fun K hK => ?_); refine AW.rg ?_; simp; try (refine hK _ rfl ?_; clear hK; clear K)
  refine CallK.val v2 ?_; simp; refine hK _ rfl ?_; clear hK; clear K; (repeat refine AW.seq_k fun K hK => ?_); refine AW.rg ?_; simp; try (refine hK _ rfl ?_; clear hK; clear K)
  refine AW.no ?_ rfl; refine AW.skip ?_; try simp
  refine hK _ rfl ?_; clear hK; clear K; (repeat refine AW.seq_k fun K hK => ?_); refine AW.rg ?_; simp; try (refine hK _ rfl ?_; clear hK; clear K)
  refine CallK.val hz ?_; simp [hl]; refine hK _ rfl ?_; clear hK; clear K; refine AW.no ?_ rfl; refine AW.skip ?_; try simp
  refine hK _ rfl ?_; clear hK; clear K; (repeat refine AW.seq_k fun K hK => ?_); refine AW.rg ?_; simp; try (refine hK _ rfl ?_; clear hK; clear K)
  refine CallK.val hlo ?_; simp; refine hK _ rfl ?_; clear hK; clear K
  exact AW.ret (ret_rat (b := b4) _ _ _ _ rfl rfl (by simp; exact ⟨rfl, rfl, rfl, rfl⟩) rfl (by simp) ⟨rfl, rfl⟩)
theorem make_call (n d : Int) (hn : n.natAbs < B128) (hd : d.natAbs < B128) (h0 : d ≠ 0) : ACall Tryz.prog 123 [intAV n, intAV d] Mem.emp fun v m => v = resQ (some (Rat.divInt n d)) ∧ m = Mem.emp := by
  have v1 := valid_callU (decide (n < 0)) (dig n.natAbs)
  have v2 := valid_callU (decide (d < 0)) (dig d.natAbs)
  rw [okInt_dig hn] at v1
  rw [okInt_dig hd] at v2
  have hz := zero_call (decide (d < 0)) (dig d.natAbs)
  have hlo := reduce_call n d hn hd h0
  have hl : ¬ dig d.natAbs = [] := by rw [dig_nil]; omega
  obtain ⟨g1, g2⟩ := good_divInt hn hd h0
  have l1 := dig_128 g1
  have l2 := dig_128 g2
  unfold rawInt at *
  simp only [resQ]
  unfold intAV qAV at *
  generalize (Rat.divInt n d).num = q1 at *
  generalize (Rat.divInt n d).den = q2 at *
  have f1 := fresh_call (decide (q1 < 0)) (dig q1.natAbs) (by omega)
  have f2 := fresh_call false (dig q2) (by omega)
  refine acall_S Tryz.func123 rfl rfl 31 rfl (Nat.le_of_ble_eq_true rfl) ?_
  (repeat refine AW.seq_k fun K hK => ?_)
  refine AW.rgR [2,3] ?_
  simp [argsL]; try (refine hK _ rfl ?_; clear hK; clear K)
  refine Fresh.intro fun b4 _ => ?_
  refine hK _ rfl ?_; clear hK; clear K
  refine AW.seq_has [(2, .rptr [.bool (decide (n < 0)), lim (dig n.natAbs)]), (3, .rptr [.bool (decide (d < 0)), lim (dig d.natAbs)]), (4, .ptr b4 4 0 0)] (Mem.emp.set b4 ⟨36, 4, [.agg [.bool false, .nil, .bool false, .nil]]⟩) ?_ ?_
  · (repeat refine AW.seq ?_); refine AW.block ?_; (repeat refine AW.seq_k fun K hK => ?_); refine AW.rg ?_; simp; try (refine hK _ rfl ?_; clear hK; clear K)
    refine CallK.val v1 ?_; simp; refine CallK.val v2 ?_; simp; refine hK _ rfl ?_; clear hK; clear K; refine AW.no ?_ rfl; (repeat refine AW.seq_k fun K hK => ?_); refine AW.rg ?_; simp; try (refine hK _ rfl ?_; clear hK; clear K)
    refine CallK.val hz ?_; simp [hl]; refine hK _ rfl ?_; clear hK; clear K; refine AW.no ?_ rfl; refine AW.skip ?_; try simp
  (repeat refine AW.seq_k fun K hK => ?_); refine AW.rg ?_; simp; try (refine hK _ rfl ?_; clear hK; clear K)
  refine CallK.val hlo ?_; simp
  refine Fresh.intro fun b6 hb6 => ?_
  simp only [set_none2, emp_at, and_true] at hb6
  try simp
  refine hK _ rfl ?_; clear hK; clear K; (repeat refine AW.seq_k fun K hK => ?_)
  refine AW.rdT [] [] [] [b6] [0,1,3,4,2,5,6,7,8] mix (by simp [hb6]) (by simp [hb6]) (by simp [hb6]) (by simp [hb6]) (by simp [hb6]) ?_
  simp [hb6]; try (refine hK _ rfl ?_; clear hK; clear K)
  refine CallK.val f1 ?_; simp; refine CallK.val f2 ?_; simp [hb6]; refine hK _ rfl ?_; clear hK; clear K
  exact AW.ret (ret_rat (b := b4) _ _ _ _ rfl rfl (by simp; exact ⟨rfl, rfl, rfl, rfl⟩) rfl (by simp) ⟨rfl, rfl⟩)
theorem of_call (n d : Int) (h1 : -9223372036854775808 ≤ n) (h2 : n < 9223372036854775808) (h3 : -9223372036854775808 ≤ d) (h4 : d < 9223372036854775808) (h0 : d ≠ 0) : ACall Tryz.prog 91 [.int .i64 n, .int .i64 d] Mem.emp fun v m => v = resQ (some (Rat.divInt n d)) ∧ m = Mem.emp := by
  have o1 := iof_call n h1 h2
  have o2 := iof_call d h3 h4
  have mk := make_call n d (two_lt (by omega)) (two_lt (by omega)) h0
  simp only [resQ] at *
  unfold qAV at *
  refine acall_S Tryz.func91 rfl rfl 13 rfl (Nat.le_of_ble_eq_true rfl) ?_
  (repeat refine AW.seq_k fun K hK => ?_); refine AW.rg ?_; simp [argsL]; try (refine hK _ rfl ?_; clear hK; clear K)
  refine Fresh.intro fun b4 _ => ?_
  refine hK _ rfl ?_; clear hK; clear K; (repeat refine AW.seq_k fun K hK => ?_); refine AW.rg ?_; simp; try (refine hK _ rfl ?_; clear hK; clear K)
  refine CallK.val o1 ?_; simp; refine CallK.val o2 ?_; simp; refine CallK.val mk ?_; simp; refine hK _ rfl ?_; clear hK; clear K
  exact AW.ret (ret_rat (b := b4) _ _ _ _ rfl rfl (by simp; exact ⟨rfl, rfl, rfl, rfl⟩) rfl (by simp) ⟨rfl, rfl⟩)
theorem of2_call (n d : Int) (h1 : -9223372036854775808 ≤ n) (h2 : n < 9223372036854775808) (h3 : -9223372036854775808 ≤ d) (h4 : d < 9223372036854775808) (h0 : d ≠ 0) : ACall Tryz.prog 76 [.int .i64 n, .int .i64 d] Mem.emp fun v m => v = resQ (some (Rat.divInt n d)) ∧ m = Mem.emp := by
  have o1 := of1_call n h1 h2
  have o2 := of1_call d h3 h4
  have mk := make2_call n d (two_lt (by omega)) (two_lt (by omega)) h0
  simp only [resQ] at *
  unfold qAV at *
  refine acall_S Tryz.func76 rfl rfl 13 rfl (Nat.le_of_ble_eq_true rfl) ?_
  (repeat refine AW.seq_k fun K hK => ?_); refine AW.rg ?_; simp [argsL]; try (refine hK _ rfl ?_; clear hK; clear K)
  refine Fresh.intro fun b4 _ => ?_
  refine hK _ rfl ?_; clear hK; clear K; (repeat refine AW.seq_k fun K hK => ?_); refine AW.rg ?_; simp; try (refine hK _ rfl ?_; clear hK; clear K)
  refine CallK.val o1 ?_; simp; refine CallK.val o2 ?_; simp; refine CallK.val mk ?_; simp; refine hK _ rfl ?_; clear hK; clear K
  exact AW.ret (ret_rat (b := b4) _ _ _ _ rfl rfl (by simp; exact ⟨rfl, rfl, rfl, rfl⟩) rfl (by simp) ⟨rfl, rfl⟩)
end Go.Av
end
section
namespace Go.Av
open Go.Proofs
theorem intAV_nat (d : Nat) : intAV (d : Int) = .agg [.bool false, lim (dig d)] := by
  rw [intAV, show decide ((d : Int) < 0) = false by simp]; rfl
theorem fit_yes {z : Int} (h : fits z = true) : fitAV z = .tup [.agg [.bool (decide (z < 0)), lim (dig z.natAbs)], .int .i64 0] := by
  rw [fits_iff] at h
  rw [fitAV, fz_ok h, fe_ok h]; rfl
theorem fit_no {z : Int} (h : ¬ fits z = true) : fitAV z = .tup [.agg [.bool false, lim []], .int .i64 2] := by
  rw [fits_iff] at h
  rw [fitAV, fz, fe, if_neg h, if_neg h, intAV]; simp [dig_zero]
section
variable {a b : Rat}
theorem mulQ_s (h1 : fits (a.num * b.num) = true) (h2 : fits ((a.den : Int) * b.den) = true) : mulQ a b = some (a * b) := by unfold mulQ; rw [h1, h2]; rfl
theorem mulQ_n1 (h1 : ¬ fits (a.num * b.num) = true) : mulQ a b = none := by unfold mulQ; rw [if_neg (by simp only [Bool.and_eq_true]; exact fun h => h1 h.1)]
theorem mulQ_n2 (h1 : fits (a.num * b.num) = true) (h2 : ¬ fits ((a.den : Int) * b.den) = true) : mulQ a b = none := by unfold mulQ; rw [if_neg (by simp only [Bool.and_eq_true]; exact fun h => h2 h.2)]
theorem divQ_s (h1 : fits (a.num * b.den) = true) (h2 : fits ((a.den : Int) * b.num) = true) : divQ a b = some (a / b) := by unfold divQ; rw [h1, h2]; rfl
theorem divQ_n1 (h1 : ¬ fits (a.num * b.den) = true) : divQ a b = none := by unfold divQ; rw [if_neg (by simp only [Bool.and_eq_true]; exact fun h => h1 h.1)]
theorem divQ_n2 (h1 : fits (a.num * b.den) = true) (h2 : ¬ fits ((a.den : Int) * b.num) = true) : divQ a b = none := by unfold divQ; rw [if_neg (by simp only [Bool.and_eq_true]; exact fun h => h2 h.2)]
theorem addQ_s (h1 : fits (a.num * b.den) = true) (h2 : fits (b.num * a.den) = true) (h3 : fits (a.num * b.den + b.num * a.den) = true) (h4 : fits ((a.den : Int) * b.den) = true) : addQ a b = some (a + b) := by unfold addQ; rw [h1, h2, h3, h4]; rfl
theorem addQ_n1 (h1 : ¬ fits (a.num * b.den) = true) : addQ a b = none := by unfold addQ; rw [if_neg (by simp only [Bool.and_eq_true]; exact fun h => h1 h.1.1.1)]
theorem addQ_n2 (h1 : fits (a.num * b.den) = true) (h2 : ¬ fits (b.num * a.den) = true) : addQ a b = none := by unfold addQ; rw [if_neg (by simp only [Bool.and_eq_true]; exact fun h => h2 h.1.1.2)]
theorem addQ_n3 (h1 : fits (a.num * b.den) = true) (h2 : fits (b.num * a.den) = true) (h3 : ¬ fits (a.num * b.den + b.num * a.den) = true) : addQ a b = none := by unfold addQ; rw [if_neg (by simp only [Bool.and_eq_true]; exact fun h => h3 h.1.2)]
theorem addQ_n4 (h1 : fits (a.num * b.den) = true) (h2 : fits (b.num * a.den) = true) (h3 : fits (a.num * b.den + b.num * a.den) = true) (h4 : ¬ fits ((a.den : Int) * b.den) = true) : addQ a b = none := by unfold addQ; rw [if_neg (by simp only [Bool.and_eq_true]; exact fun h => h4 h.2)]
theorem subQ_s (h1 : fits (a.num * b.den) = true) (h2 : fits (b.num * a.den) = true) (h3 : fits (a.num * b.den - b.num * a.den) = true) (h4 : fits ((a.den : Int) * b.den) = true) : subQ a b = some (a - b) := by unfold subQ; rw [h1, h2, h3, h4]; rfl
theorem subQ_n1 (h1 : ¬ fits (a.num * b.den) = true) : subQ a b = none := by unfold subQ; rw [if_neg (by simp only [Bool.and_eq_true]; exact fun h => h1 h.1.1.1)]
theorem subQ_n2 (h1 : fits (a.num * b.den) = true) (h2 : ¬ fits (b.num * a.den) = true) : subQ a b = none := by unfold subQ; rw [if_neg (by simp only [Bool.and_eq_true]; exact fun h => h2 h.1.1.2)]
theorem subQ_n3 (h1 : fits (a.num * b.den) = true) (h2 : fits (b.num * a.den) = true) (h3 : ¬ fits (a.num * b.den - b.num * a.den) = true) : subQ a b = none := by unfold subQ; rw [if_neg (by simp only [Bool.and_eq_true]; exact fun h => h3 h.1.2)]
theorem subQ_n4 (h1 : fits (a.num * b.den) = true) (h2 : fits (b.num * a.den) = true) (h3 : fits (a.num * b.den - b.num * a.den) = true) (h4 : ¬ fits ((a.den : Int) * b.den) = true) : subQ a b = none := by unfold subQ; rw [if_neg (by simp only [Bool.and_eq_true]; exact fun h => h4 h.2)]
end
theorem den_lt {q : Rat} (h : Good q) : ((q.den : Int)).natAbs < B128 := by simpa using h.2
theorem mul2_call (a b : Rat) (ha : Good a) (hb : Good b) : ACall Tryz.prog 38 [qAV a, qAV b] Mem.emp fun v m => v = resQ (mulQ a b) ∧ m = Mem.emp := by
  have hbo := both2_call (ofQ a) (ofQ b) (ofQ_lb a) (ofQ_lb b)
  rw [ofQ_ok ha, ofQ_ok hb] at hbo
  have m1 := mul1_call a.num b.num ha.1 hb.1
  have m2 := mul1_call a.den b.den (den_lt ha) (den_lt hb)
  have hne : (a.den : Int) * b.den ≠ 0 := Int.ne_of_gt (Int.mul_pos (by have := a.den_pos; omega) (by have := b.den_pos; omega))
  have hlo : fits (a.num * b.num) = true → fits ((a.den : Int) * b.den) = true → _ := fun h1 h2 => lowest_call (a.num * b.num) ((a.den : Int) * b.den) (fits_iff.1 h1) (fits_iff.1 h2) hne
  rw [← mul_eq] at hlo
  simp only [RR.av, ofQ] at hbo
  unfold qAV at *
  simp only [intAV_nat] at m2
  simp only [intAV] at m1 hlo
  refine acall_S Tryz.func38 rfl rfl 42 rfl (Nat.le_of_ble_eq_true rfl) ?_
  (repeat refine AW.seq_k fun K hK => ?_)
  refine AW.rgR [2,3] ?_
  simp [argsL]; try (refine hK _ rfl ?_; clear hK; clear K)
  refine Fresh.intro fun b4 _ => ?_
  refine hK _ rfl ?_; clear hK; clear K; (repeat refine AW.seq_k fun K hK => ?_); refine AW.rg ?_; simp; try (refine hK _ rfl ?_; clear hK; clear K)
  refine CallK.val hbo ?_; simp; refine hK _ rfl ?_; clear hK; clear K; refine AW.no ?_ rfl; refine AW.skip ?_; try simp
  refine hK _ rfl ?_; clear hK; clear K; (repeat refine AW.seq_k fun K hK => ?_); refine AW.rg ?_; simp [and_true]; try (refine hK _ rfl ?_; clear hK; clear K)
  refine CallK.val m1 ?_
  by_cases c1 : fits (a.num * b.num) = true
  case neg =>
    rw [fit_no c1]; simp
    refine Fresh.intro fun b6 hb6 => ?_
    simp only [set_none2, emp_at, and_true] at hb6
    try simp [and_true]
    refine hK _ rfl ?_; clear hK; clear K; (repeat refine AW.seq_k fun K hK => ?_); refine AW.rg ?_; simp; try (refine hK _ rfl ?_; clear hK; clear K)
    refine AW.yes ?_ rfl; (repeat refine AW.seq_k fun K hK => ?_); refine AW.rg ?_; simp [and_true, hb6]; try (refine hK _ rfl ?_; clear hK; clear K)
    exact AW.ret (ret_rat (b := b4) _ _ _ _ rfl rfl (by simp [and_true, hb6]; exact ⟨rfl, rfl, rfl, rfl⟩) rfl (by simp; exact ⟨view_same _ _ _ |>.2 trivial, View.nilsl 1, view_same _ _ _ |>.2 trivial, View.nilsl 1⟩) ⟨by rw [mulQ_n1 c1]; rfl, rfl⟩)
  rw [fit_yes c1]; simp
  refine Fresh.intro fun b6 hb6 => ?_
  simp only [set_none2, emp_at, and_true] at hb6
  try simp [and_true]
  refine hK _ rfl ?_; clear hK; clear K; (repeat refine AW.seq_k fun K hK => ?_); refine AW.rg ?_; simp; try (refine hK _ rfl ?_; clear hK; clear K)
  refine AW.no ?_ rfl; refine AW.skip ?_; try simp
  refine hK _ rfl ?_; clear hK; clear K; (repeat refine AW.seq_k fun K hK => ?_); refine AW.rg ?_; simp [hb6]; try (refine hK _ rfl ?_; clear hK; clear K)
  refine CallK.val m2 ?_
  by_cases c2 : fits ((a.den : Int) * b.den) = true
  case neg =>
    rw [fit_no c2]; simp
    refine Fresh.intro fun b8 hb8 => ?_
    simp only [set_none2, emp_at, and_true] at hb8
    try simp [hb6]
    refine hK _ rfl ?_; clear hK; clear K; (repeat refine AW.seq_k fun K hK => ?_); refine AW.rg ?_; simp; try (refine hK _ rfl ?_; clear hK; clear K)
    refine AW.yes ?_ rfl; (repeat refine AW.seq_k fun K hK => ?_); refine AW.rg ?_; simp [hb6, hb8]; try (refine hK _ rfl ?_; clear hK; clear K)
    exact AW.ret (ret_rat (b := b4) _ _ _ _ rfl rfl (by simp [hb6, hb8]; exact ⟨rfl, rfl, rfl, rfl⟩) rfl (by simp; exact ⟨view_same _ _ _ |>.2 trivial, View.nilsl 1, view_same _ _ _ |>.2 trivial, View.nilsl 1⟩) ⟨by rw [mulQ_n2 c1 c2]; rfl, rfl⟩)
  rw [fit_yes c2]; simp [-Int.natCast_mul]
  refine Fresh.intro fun b8 hb8 => ?_
  simp only [set_none2, emp_at, and_true] at hb8
  try simp [-Int.natCast_mul, hb6]
  refine hK _ rfl ?_; clear hK; clear K; (repeat refine AW.seq_k fun K hK => ?_); refine AW.rg ?_; simp [-Int.natCast_mul]; try (refine hK _ rfl ?_; clear hK; clear K)
  refine AW.no ?_ rfl; refine AW.skip ?_
  try simp [-Int.natCast_mul]
  refine hK _ rfl ?_; clear hK; clear K; (repeat refine AW.seq_k fun K hK => ?_); refine AW.rg ?_; simp [-Int.natCast_mul, hb6, hb8]; try (refine hK _ rfl ?_; clear hK; clear K)
  refine CallK.val (hlo c1 c2) ?_
  simp [-Int.natCast_mul, hb6, hb8]; refine hK _ rfl ?_; clear hK; clear K
  exact AW.ret (ret_rat (b := b4) _ _ _ _ rfl rfl (by simp [-Int.natCast_mul, hb6, hb8]; exact ⟨rfl, rfl, rfl, rfl⟩) rfl (viewsL_same _ _ _) ⟨by rw [mulQ_s c1 c2]; rfl, rfl⟩)
theorem div2_call (a b : Rat) (ha : Good a) (hb : Good b) (h0 : b ≠ 0) : ACall Tryz.prog 82 [qAV a, qAV b] Mem.emp fun v m => v = resQ (divQ a b) ∧ m = Mem.emp := by
  have hbo := both2_call (ofQ a) (ofQ b) (ofQ_lb a) (ofQ_lb b)
  rw [ofQ_ok ha, ofQ_ok hb] at hbo
  have hb0 : b.num ≠ 0 := fun e => h0 (Rat.num_eq_zero.1 e)
  have hz := isZero_call (decide (b.num < 0)) (dig b.num.natAbs)
  have hl : ¬ dig b.num.natAbs = [] := by rw [dig_nil]; omega
  have m1 := mul1_call a.num b.den ha.1 (den_lt hb)
  have m2 := mul1_call a.den b.num (den_lt ha) hb.1
  have hne : (a.den : Int) * b.num ≠ 0 := Int.mul_ne_zero (by have := a.den_pos; omega) hb0
  have hlo : fits (a.num * b.den) = true → fits ((a.den : Int) * b.num) = true → _ := fun h1 h2 => lowest_call (a.num * b.den) ((a.den : Int) * b.num) (fits_iff.1 h1) (fits_iff.1 h2) hne
  rw [← div_eq] at hlo
  simp only [RR.av, ofQ] at hbo
  unfold rawInt at hz
  unfold qAV at *
  simp only [intAV_nat] at m1 m2
  simp only [intAV] at m1 m2 hlo
  refine acall_S Tryz.func82 rfl rfl 46 rfl (Nat.le_of_ble_eq_true rfl) ?_
  (repeat refine AW.seq_k fun K hK => ?_)
  refine AW.rgR [2,3] ?_
  simp [argsL]; try (refine hK _ rfl ?_; clear hK; clear K)
  refine Fresh.intro fun b4 _ => ?_
  refine hK _ rfl ?_; clear hK; clear K; (repeat refine AW.seq_k fun K hK => ?_); refine AW.rg ?_; simp; try (refine hK _ rfl ?_; clear hK; clear K)
  refine CallK.val hbo ?_; simp; refine hK _ rfl ?_; clear hK; clear K; refine AW.no ?_ rfl; refine AW.skip ?_; try simp
  refine hK _ rfl ?_; clear hK; clear K; (repeat refine AW.seq_k fun K hK => ?_); refine AW.rg ?_; simp; try (refine hK _ rfl ?_; clear hK; clear K)
  refine CallK.val hz ?_; simp [hl]; refine hK _ rfl ?_; clear hK; clear K; refine AW.no ?_ rfl; refine AW.skip ?_; try simp
  refine hK _ rfl ?_; clear hK; clear K; (repeat refine AW.seq_k fun K hK => ?_); refine AW.rg ?_; simp [and_true]; try (refine hK _ rfl ?_; clear hK; clear K)
  refine CallK.val m1 ?_
  by_cases c1 : fits (a.num * (b.den : Int)) = true
  case neg =>
    rw [fit_no c1]; simp
    refine Fresh.intro fun b6 hb6 => ?_
    simp only [set_none2, emp_at, and_true] at hb6
    try simp [and_true]
    refine hK _ rfl ?_; clear hK; clear K; (repeat refine AW.seq_k fun K hK => ?_); refine AW.rg ?_; simp; try (refine hK _ rfl ?_; clear hK; clear K)
    refine AW.yes ?_ rfl; (repeat refine AW.seq_k fun K hK => ?_); refine AW.rg ?_; simp [and_true, hb6]; try (refine hK _ rfl ?_; clear hK; clear K)
    exact AW.ret (ret_rat (b := b4) _ _ _ _ rfl rfl (by simp [and_true, hb6]; exact ⟨rfl, rfl, rfl, rfl⟩) rfl (by simp; exact ⟨view_same _ _ _ |>.2 trivial, View.nilsl 1, view_same _ _ _ |>.2 trivial, View.nilsl 1⟩) ⟨by rw [divQ_n1 c1]; rfl, rfl⟩)
  rw [fit_yes c1]; simp
  refine Fresh.intro fun b6 hb6 => ?_
  simp only [set_none2, emp_at, and_true] at hb6
  try simp [and_true]
  refine hK _ rfl ?_; clear hK; clear K; (repeat refine AW.seq_k fun K hK => ?_); refine AW.rg ?_; simp; try (refine hK _ rfl ?_; clear hK; clear K)
  refine AW.no ?_ rfl; refine AW.skip ?_; try simp
  refine hK _ rfl ?_; clear hK; clear K; (repeat refine AW.seq_k fun K hK => ?_); refine AW.rg ?_; simp [hb6]; try (refine hK _ rfl ?_; clear hK; clear K)
  refine CallK.val m2 ?_
  by_cases c2 : fits ((a.den : Int) * b.num) = true
  case neg =>
    rw [fit_no c2]; simp
    refine Fresh.intro fun b8 hb8 => ?_
    simp only [set_none2, emp_at, and_true] at hb8
    try simp [hb6]
    refine hK _ rfl ?_; clear hK; clear K; (repeat refine AW.seq_k fun K hK => ?_); refine AW.rg ?_; simp; try (refine hK _ rfl ?_; clear hK; clear K)
    refine AW.yes ?_ rfl; (repeat refine AW.seq_k fun K hK => ?_); refine AW.rg ?_; simp [hb6, hb8]; try (refine hK _ rfl ?_; clear hK; clear K)
    exact AW.ret (ret_rat (b := b4) _ _ _ _ rfl rfl (by simp [hb6, hb8]; exact ⟨rfl, rfl, rfl, rfl⟩) rfl (by simp; exact ⟨view_same _ _ _ |>.2 trivial, View.nilsl 1, view_same _ _ _ |>.2 trivial, View.nilsl 1⟩) ⟨by rw [divQ_n2 c1 c2]; rfl, rfl⟩)
  rw [fit_yes c2]; simp
  refine Fresh.intro fun b8 hb8 => ?_
  simp only [set_none2, emp_at, and_true] at hb8
  try simp [hb6]
  refine hK _ rfl ?_; clear hK; clear K; (repeat refine AW.seq_k fun K hK => ?_); refine AW.rg ?_; simp; try (refine hK _ rfl ?_; clear hK; clear K)
  refine AW.no ?_ rfl; refine AW.skip ?_; try simp
  refine hK _ rfl ?_; clear hK; clear K; (repeat refine AW.seq_k fun K hK => ?_); refine AW.rg ?_; simp [hb6, hb8]; try (refine hK _ rfl ?_; clear hK; clear K)
  refine CallK.val (hlo c1 c2) ?_
  simp [hb6, hb8]; refine hK _ rfl ?_; clear hK; clear K
  exact AW.ret (ret_rat (b := b4) _ _ _ _ rfl rfl (by simp [hb6, hb8]; exact ⟨rfl, rfl, rfl, rfl⟩) rfl (viewsL_same _ _ _) ⟨by rw [divQ_s c1 c2]; rfl, rfl⟩)
theorem sum2_add_call (a b : Rat) (ha : Good a) (hb : Good b) : ACall Tryz.prog 80 [qAV a, qAV b, .bool false] Mem.emp fun v m => v = resQ (addQ a b) ∧ m = Mem.emp := by
  have hbo := both2_call (ofQ a) (ofQ b) (ofQ_lb a) (ofQ_lb b)
  rw [ofQ_ok ha, ofQ_ok hb] at hbo
  have m1 := mul1_call a.num b.den ha.1 (den_lt hb)
  have m2 := mul1_call b.num a.den hb.1 (den_lt ha)
  have m4 := mul1_call a.den b.den (den_lt ha) (den_lt hb)
  have hne : (a.den : Int) * b.den ≠ 0 := Int.ne_of_gt (Int.mul_pos (by have := a.den_pos; omega) (by have := b.den_pos; omega))
  have hlo : fits (a.num * b.den + b.num * a.den) = true → fits ((a.den : Int) * b.den) = true → _ := fun h1 h2 => lowest_call (a.num * b.den + b.num * a.den) ((a.den : Int) * b.den) (fits_iff.1 h1) (fits_iff.1 h2) hne
  rw [← add_eq] at hlo
  have m3 : fits (a.num * b.den) = true → fits (b.num * a.den) = true → _ := fun h1 h2 => add1_call (a.num * b.den) (b.num * a.den) (fits_iff.1 h1) (fits_iff.1 h2)
  simp only [RR.av, ofQ] at hbo
  unfold qAV at *
  simp only [intAV_nat] at m1 m2 m4
  simp only [intAV] at m1 m2 m3 hlo
  refine acall_S Tryz.func80 rfl rfl 73 rfl (Nat.le_of_ble_eq_true rfl) ?_
  (repeat refine AW.seq_k fun K hK => ?_)
  refine AW.rgR [3,4] ?_
  simp [argsL]; try (refine hK _ rfl ?_; clear hK; clear K)
  refine Fresh.intro fun b6 _ => ?_
  refine hK _ rfl ?_; clear hK; clear K; (repeat refine AW.seq_k fun K hK => ?_); refine AW.rg ?_; simp; try (refine hK _ rfl ?_; clear hK; clear K)
  refine CallK.val hbo ?_; simp; refine hK _ rfl ?_; clear hK; clear K; refine AW.no ?_ rfl; refine AW.skip ?_; try simp
  refine hK _ rfl ?_; clear hK; clear K; (repeat refine AW.seq_k fun K hK => ?_); refine AW.rg ?_; simp [and_true]; try (refine hK _ rfl ?_; clear hK; clear K)
  refine CallK.val m1 ?_
  by_cases c1 : fits (a.num * (b.den : Int)) = true
  case neg =>
    rw [fit_no c1]; simp
    refine Fresh.intro fun b8 hb8 => ?_
    simp only [set_none2, emp_at, and_true] at hb8
    try simp [and_true]
    refine hK _ rfl ?_; clear hK; clear K; (repeat refine AW.seq_k fun K hK => ?_); refine AW.rg ?_; simp; try (refine hK _ rfl ?_; clear hK; clear K)
    refine AW.yes ?_ rfl; (repeat refine AW.seq_k fun K hK => ?_); refine AW.rg ?_; simp [and_true, hb8]; try (refine hK _ rfl ?_; clear hK; clear K)
    exact AW.ret (ret_rat (b := b6) _ _ _ _ rfl rfl (by simp [and_true, hb8]; exact ⟨rfl, rfl, rfl, rfl⟩) rfl (by simp; exact ⟨view_same _ _ _ |>.2 trivial, View.nilsl 1, view_same _ _ _ |>.2 trivial, View.nilsl 1⟩) ⟨by rw [addQ_n1 c1]; rfl, rfl⟩)
  rw [fit_yes c1]; simp
  refine Fresh.intro fun b8 hb8 => ?_
  simp only [set_none2, emp_at, and_true] at hb8
  try simp [and_true]
  refine hK _ rfl ?_; clear hK; clear K; (repeat refine AW.seq_k fun K hK => ?_); refine AW.rg ?_; simp; try (refine hK _ rfl ?_; clear hK; clear K)
  refine AW.no ?_ rfl; refine AW.skip ?_; try simp
  refine hK _ rfl ?_; clear hK; clear K; (repeat refine AW.seq_k fun K hK => ?_); refine AW.rg ?_; simp [hb8]; try (refine hK _ rfl ?_; clear hK; clear K)
  refine CallK.val m2 ?_
  by_cases c2 : fits (b.num * (a.den : Int)) = true
  case neg =>
    rw [fit_no c2]; simp
    refine Fresh.intro fun b10 hb10 => ?_
    simp only [set_none2, emp_at, and_true] at hb10
    try simp [hb8]
    refine hK _ rfl ?_; clear hK; clear K; (repeat refine AW.seq_k fun K hK => ?_); refine AW.rg ?_; simp; try (refine hK _ rfl ?_; clear hK; clear K)
    refine AW.yes ?_ rfl; (repeat refine AW.seq_k fun K hK => ?_); refine AW.rg ?_; simp [hb8, hb10]; try (refine hK _ rfl ?_; clear hK; clear K)
    exact AW.ret (ret_rat (b := b6) _ _ _ _ rfl rfl (by simp [hb8, hb10]; exact ⟨rfl, rfl, rfl, rfl⟩) rfl (by simp; exact ⟨view_same _ _ _ |>.2 trivial, View.nilsl 1, view_same _ _ _ |>.2 trivial, View.nilsl 1⟩) ⟨by rw [addQ_n2 c1 c2]; rfl, rfl⟩)
  rw [fit_yes c2]; simp
  refine Fresh.intro fun b10 hb10 => ?_
  simp only [set_none2, emp_at, and_true] at hb10
  try simp [hb8]
  refine hK _ rfl ?_; clear hK; clear K; (repeat refine AW.seq_k fun K hK => ?_); refine AW.rg ?_; simp; try (refine hK _ rfl ?_; clear hK; clear K)
  refine AW.no ?_ rfl; refine AW.skip ?_; try simp
  refine hK _ rfl ?_; clear hK; clear K
  refine AW.seq_k fun K hK => ?_
  (repeat refine AW.seq_k fun K hK => ?_); refine AW.rg ?_; simp; try (refine hK _ rfl ?_; clear hK; clear K)
  refine AW.no ?_ rfl; refine AW.skip ?_; try simp
  refine hK _ rfl ?_; clear hK; clear K; (repeat refine AW.seq_k fun K hK => ?_); refine AW.rg ?_; simp [hb8, hb10]; try (refine hK _ rfl ?_; clear hK; clear K)
  refine CallK.val (m3 c1 c2) ?_
  by_cases c3 : fits (a.num * (b.den : Int) + b.num * (a.den : Int)) = true
  case neg =>
    rw [fit_no c3]; simp
    refine Fresh.intro fun b12 hb12 => ?_
    simp only [set_none2, emp_at, and_true] at hb12
    try simp [hb8, hb10]
    refine hK _ rfl ?_; clear hK; clear K; (repeat refine AW.seq_k fun K hK => ?_); refine AW.rg ?_; simp; try (refine hK _ rfl ?_; clear hK; clear K)
    refine AW.yes ?_ rfl; (repeat refine AW.seq_k fun K hK => ?_); refine AW.rg ?_; simp [hb8, hb10, hb12]; try (refine hK _ rfl ?_; clear hK; clear K)
    exact AW.ret (ret_rat (b := b6) _ _ _ _ rfl rfl (by simp [hb8, hb10, hb12]; exact ⟨rfl, rfl, rfl, rfl⟩) rfl (by simp; exact ⟨view_same _ _ _ |>.2 trivial, View.nilsl 1, view_same _ _ _ |>.2 trivial, View.nilsl 1⟩) ⟨by rw [addQ_n3 c1 c2 c3]; rfl, rfl⟩)
  rw [fit_yes c3]; simp
  refine Fresh.intro fun b12 hb12 => ?_
  simp only [set_none2, emp_at, and_true] at hb12
  try simp [hb8, hb10]
  refine hK _ rfl ?_; clear hK; clear K; (repeat refine AW.seq_k fun K hK => ?_); refine AW.rg ?_; simp; try (refine hK _ rfl ?_; clear hK; clear K)
  refine AW.no ?_ rfl; refine AW.skip ?_; try simp
  refine hK _ rfl ?_; clear hK; clear K; (repeat refine AW.seq_k fun K hK => ?_); refine AW.rg ?_; simp [hb8, hb10, hb12]; try (refine hK _ rfl ?_; clear hK; clear K)
  refine CallK.val m4 ?_
  by_cases c4 : fits ((a.den : Int) * (b.den : Int)) = true
  case neg =>
    rw [fit_no c4]; simp
    refine Fresh.intro fun b14 hb14 => ?_
    simp only [set_none2, emp_at, and_true] at hb14
    try simp [hb8, hb10, hb12]
    refine hK _ rfl ?_; clear hK; clear K; (repeat refine AW.seq_k fun K hK => ?_); refine AW.rg ?_; simp; try (refine hK _ rfl ?_; clear hK; clear K)
    refine AW.yes ?_ rfl; (repeat refine AW.seq_k fun K hK => ?_); refine AW.rg ?_; simp [hb8, hb10, hb12, hb14]; try (refine hK _ rfl ?_; clear hK; clear K)
    exact AW.ret (ret_rat (b := b6) _ _ _ _ rfl rfl (by simp [hb8, hb10, hb12, hb14]; exact ⟨rfl, rfl, rfl, rfl⟩) rfl (by simp; exact ⟨view_same _ _ _ |>.2 trivial, View.nilsl 1, view_same _ _ _ |>.2 trivial, View.nilsl 1⟩) ⟨by rw [addQ_n4 c1 c2 c3 c4]; rfl, rfl⟩)
  rw [fit_yes c4]; simp [-Int.natCast_mul]
  refine Fresh.intro fun b14 hb14 => ?_
  simp only [set_none2, emp_at, and_true] at hb14
  try simp [-Int.natCast_mul, hb8, hb10, hb12]
  refine hK _ rfl ?_; clear hK; clear K; (repeat refine AW.seq_k fun K hK => ?_); refine AW.rg ?_; simp [-Int.natCast_mul]; try (refine hK _ rfl ?_; clear hK; clear K)
  refine AW.no ?_ rfl; refine AW.skip ?_
  try simp [-Int.natCast_mul]
  refine hK _ rfl ?_; clear hK; clear K; (repeat refine AW.seq_k fun K hK => ?_); refine AW.rg ?_; simp [-Int.natCast_mul, hb8, hb10, hb12, hb14]; try (refine hK _ rfl ?_; clear hK; clear K)
  refine CallK.val (hlo c3 c4) ?_
  simp [-Int.natCast_mul, hb8, hb10, hb12, hb14]; refine hK _ rfl ?_; clear hK; clear K
  exact AW.ret (ret_rat (b := b6) _ _ _ _ rfl rfl (by simp [-Int.natCast_mul, hb8, hb10, hb12, hb14]; exact ⟨rfl, rfl, rfl, rfl⟩) rfl (viewsL_same _ _ _) ⟨by rw [addQ_s c1 c2 c3 c4]; rfl, rfl⟩)
theorem sum2_sub_call (a b : Rat) (ha : Good a) (hb : Good b) : ACall Tryz.prog 80 [qAV a, qAV b, .bool true] Mem.emp fun v m => v = resQ (subQ a b) ∧ m = Mem.emp := by
  have hbo := both2_call (ofQ a) (ofQ b) (ofQ_lb a) (ofQ_lb b)
  rw [ofQ_ok ha, ofQ_ok hb] at hbo
  have m1 := mul1_call a.num b.den ha.1 (den_lt hb)
  have m2 := mul1_call b.num a.den hb.1 (den_lt ha)
  have m4 := mul1_call a.den b.den (den_lt ha) (den_lt hb)
  have hne : (a.den : Int) * b.den ≠ 0 := Int.ne_of_gt (Int.mul_pos (by have := a.den_pos; omega) (by have := b.den_pos; omega))
  have hlo : fits (a.num * b.den - b.num * a.den) = true → fits ((a.den : Int) * b.den) = true → _ := fun h1 h2 => lowest_call (a.num * b.den - b.num * a.den) ((a.den : Int) * b.den) (fits_iff.1 h1) (fits_iff.1 h2) hne
  rw [← sub_eq] at hlo
  have hng : fits (b.num * a.den) = true → _ := fun h => negative_call (b.num * a.den) (fits_iff.1 h)
  have m3 : fits (a.num * b.den) = true → fits (b.num * a.den) = true → _ := fun h1 h2 => add1_call (a.num * b.den) (-(b.num * a.den)) (fits_iff.1 h1) (by rw [Int.natAbs_neg]; exact fits_iff.1 h2)
  rw [← Int.sub_eq_add_neg] at m3
  obtain ⟨y, hy⟩ : ∃ y : Int, -(b.num * a.den) = y := ⟨_, rfl⟩
  rw [hy] at hng m3
  simp only [RR.av, ofQ] at hbo
  unfold qAV at *
  simp only [intAV_nat] at m1 m2 m4
  simp only [intAV] at m1 m2 m3 hlo hng
  refine acall_S Tryz.func80 rfl rfl 73 rfl (Nat.le_of_ble_eq_true rfl) ?_
  (repeat refine AW.seq_k fun K hK => ?_)
  refine AW.rgR [3,4] ?_
  simp [argsL]; try (refine hK _ rfl ?_; clear hK; clear K)
  refine Fresh.intro fun b6 _ => ?_
  refine hK _ rfl ?_; clear hK; clear K; (repeat refine AW.seq_k fun K hK => ?_); refine AW.rg ?_; simp; try (refine hK _ rfl ?_; clear hK; clear K)
  refine CallK.val hbo ?_; simp; refine hK _ rfl ?_; clear hK; clear K; refine AW.no ?_ rfl; refine AW.skip ?_; try simp
  refine hK _ rfl ?_; clear hK; clear K; (repeat refine AW.seq_k fun K hK => ?_); refine AW.rg ?_; simp [and_true]; try (refine hK _ rfl ?_; clear hK; clear K)
  refine CallK.val m1 ?_
  by_cases c1 : fits (a.num * (b.den : Int)) = true
  case neg =>
    rw [fit_no c1]; simp
    refine Fresh.intro fun b8 hb8 => ?_
    simp only [set_none2, emp_at, and_true] at hb8
    try simp [and_true]
    refine hK _ rfl ?_; clear hK; clear K; (repeat refine AW.seq_k fun K hK => ?_); refine AW.rg ?_; simp; try (refine hK _ rfl ?_; clear hK; clear K)
    refine AW.yes ?_ rfl; (repeat refine AW.seq_k fun K hK => ?_); refine AW.rg ?_; simp [and_true, hb8]; try (refine hK _ rfl ?_; clear hK; clear K)
    exact AW.ret (ret_rat (b := b6) _ _ _ _ rfl rfl (by simp [and_true, hb8]; exact ⟨rfl, rfl, rfl, rfl⟩) rfl (by simp; exact ⟨view_same _ _ _ |>.2 trivial, View.nilsl 1, view_same _ _ _ |>.2 trivial, View.nilsl 1⟩) ⟨by rw [subQ_n1 c1]; rfl, rfl⟩)
  rw [fit_yes c1]; simp
  refine Fresh.intro fun b8 hb8 => ?_
  simp only [set_none2, emp_at, and_true] at hb8
  try simp [and_true]
  refine hK _ rfl ?_; clear hK; clear K; (repeat refine AW.seq_k fun K hK => ?_); refine AW.rg ?_; simp; try (refine hK _ rfl ?_; clear hK; clear K)
  refine AW.no ?_ rfl; refine AW.skip ?_; try simp
  refine hK _ rfl ?_; clear hK; clear K; (repeat refine AW.seq_k fun K hK => ?_); refine AW.rg ?_; simp [hb8]; try (refine hK _ rfl ?_; clear hK; clear K)
  refine CallK.val m2 ?_
  by_cases c2 : fits (b.num * (a.den : Int)) = true
  case neg =>
    rw [fit_no c2]; simp
    refine Fresh.intro fun b10 hb10 => ?_
    simp only [set_none2, emp_at, and_true] at hb10
    try simp [hb8]
    refine hK _ rfl ?_; clear hK; clear K; (repeat refine AW.seq_k fun K hK => ?_); refine AW.rg ?_; simp; try (refine hK _ rfl ?_; clear hK; clear K)
    refine AW.yes ?_ rfl; (repeat refine AW.seq_k fun K hK => ?_); refine AW.rg ?_; simp [hb8, hb10]; try (refine hK _ rfl ?_; clear hK; clear K)
    exact AW.ret (ret_rat (b := b6) _ _ _ _ rfl rfl (by simp [hb8, hb10]; exact ⟨rfl, rfl, rfl, rfl⟩) rfl (by simp; exact ⟨view_same _ _ _ |>.2 trivial, View.nilsl 1, view_same _ _ _ |>.2 trivial, View.nilsl 1⟩) ⟨by rw [subQ_n2 c1 c2]; rfl, rfl⟩)
  rw [fit_yes c2]; simp
  refine Fresh.intro fun b10 hb10 => ?_
  simp only [set_none2, emp_at, and_true] at hb10
  try simp [hb8]
  refine hK _ rfl ?_; clear hK; clear K; (repeat refine AW.seq_k fun K hK => ?_); refine AW.rg ?_; simp; try (refine hK _ rfl ?_; clear hK; clear K)
  refine AW.no ?_ rfl; refine AW.skip ?_; try simp
  refine hK _ rfl ?_; clear hK; clear K
  refine AW.seq_k fun K hK => ?_
  (repeat refine AW.seq_k fun K hK => ?_); refine AW.rg ?_; simp; try (refine hK _ rfl ?_; clear hK; clear K)
  refine AW.yes ?_ rfl; (repeat refine AW.seq_k fun K hK => ?_); refine AW.rg ?_; simp [hb8, hb10]; try (refine hK _ rfl ?_; clear hK; clear K)
  refine CallK.val (hng c2) ?_
  simp [hb8, hb10]; refine hK _ rfl ?_; clear hK; clear K; (repeat refine AW.seq_k fun K hK => ?_); refine AW.rg ?_; simp [hb8, hb10]; try (refine hK _ rfl ?_; clear hK; clear K)
  refine CallK.val (m3 c1 c2) ?_
  by_cases c3 : fits (a.num * (b.den : Int) - b.num * (a.den : Int)) = true
  case neg =>
    rw [fit_no c3]; simp
    refine Fresh.intro fun b12 hb12 => ?_
    simp only [set_none2, emp_at, and_true] at hb12
    try simp [hb8, hb10]
    refine hK _ rfl ?_; clear hK; clear K; (repeat refine AW.seq_k fun K hK => ?_); refine AW.rg ?_; simp; try (refine hK _ rfl ?_; clear hK; clear K)
    refine AW.yes ?_ rfl; (repeat refine AW.seq_k fun K hK => ?_); refine AW.rg ?_; simp [hb8, hb10, hb12]; try (refine hK _ rfl ?_; clear hK; clear K)
    exact AW.ret (ret_rat (b := b6) _ _ _ _ rfl rfl (by simp [hb8, hb10, hb12]; exact ⟨rfl, rfl, rfl, rfl⟩) rfl (by simp; exact ⟨view_same _ _ _ |>.2 trivial, View.nilsl 1, view_same _ _ _ |>.2 trivial, View.nilsl 1⟩) ⟨by rw [subQ_n3 c1 c2 c3]; rfl, rfl⟩)
  rw [fit_yes c3]; simp
  refine Fresh.intro fun b12 hb12 => ?_
  simp only [set_none2, emp_at, and_true] at hb12
  try simp [hb8, hb10]
  refine hK _ rfl ?_; clear hK; clear K; (repeat refine AW.seq_k fun K hK => ?_); refine AW.rg ?_; simp; try (refine hK _ rfl ?_; clear hK; clear K)
  refine AW.no ?_ rfl; refine AW.skip ?_; try simp
  refine hK _ rfl ?_; clear hK; clear K; (repeat refine AW.seq_k fun K hK => ?_); refine AW.rg ?_; simp [hb8, hb10, hb12]; try (refine hK _ rfl ?_; clear hK; clear K)
  refine CallK.val m4 ?_
  by_cases c4 : fits ((a.den : Int) * (b.den : Int)) = true
  case neg =>
    rw [fit_no c4]; simp
    refine Fresh.intro fun b14 hb14 => ?_
    simp only [set_none2, emp_at, and_true] at hb14
    try simp [hb8, hb10, hb12]
    refine hK _ rfl ?_; clear hK; clear K; (repeat refine AW.seq_k fun K hK => ?_); refine AW.rg ?_; simp; try (refine hK _ rfl ?_; clear hK; clear K)
    refine AW.yes ?_ rfl; (repeat refine AW.seq_k fun K hK => ?_); refine AW.rg ?_; simp [hb8, hb10, hb12, hb14]; try (refine hK _ rfl ?_; clear hK; clear K)
    exact AW.ret (ret_rat (b := b6) _ _ _ _ rfl rfl (by simp [hb8, hb10, hb12, hb14]; exact ⟨rfl, rfl, rfl, rfl⟩) rfl (by simp; exact ⟨view_same _ _ _ |>.2 trivial, View.nilsl 1, view_same _ _ _ |>.2 trivial, View.nilsl 1⟩) ⟨by rw [subQ_n4 c1 c2 c3 c4]; rfl, rfl⟩)
  rw [fit_yes c4]; simp [-Int.natCast_mul]
  refine Fresh.intro fun b14 hb14 => ?_
  simp only [set_none2, emp_at, and_true] at hb14
  try simp [-Int.natCast_mul, hb8, hb10, hb12]
  refine hK _ rfl ?_; clear hK; clear K; (repeat refine AW.seq_k fun K hK => ?_); refine AW.rg ?_; simp [-Int.natCast_mul]; try (refine hK _ rfl ?_; clear hK; clear K)
  refine AW.no ?_ rfl; refine AW.skip ?_
  try simp [-Int.natCast_mul]
  refine hK _ rfl ?_; clear hK; clear K; (repeat refine AW.seq_k fun K hK => ?_); refine AW.rg ?_; simp [-Int.natCast_mul, hb8, hb10, hb12, hb14]; try (refine hK _ rfl ?_; clear hK; clear K)
  refine CallK.val (hlo c3 c4) ?_
  simp [-Int.natCast_mul, hb8, hb10, hb12, hb14]; refine hK _ rfl ?_; clear hK; clear K
  exact AW.ret (ret_rat (b := b6) _ _ _ _ rfl rfl (by simp [-Int.natCast_mul, hb8, hb10, hb12, hb14]; exact ⟨rfl, rfl, rfl, rfl⟩) rfl (viewsL_same _ _ _) ⟨by rw [subQ_s c1 c2 c3 c4]; rfl, rfl⟩)
end Go.Av
end
section
namespace Go.Av
open Go.Proofs
theorem add2_call (a b : Rat) (ha : Good a) (hb : Good b) : ACall Tryz.prog 81 [qAV a, qAV b] Mem.emp fun v m => v = resQ (addQ a b) ∧ m = Mem.emp := by
  have hs := sum2_add_call a b ha hb
  generalize addQ a b = q at *
  unfold qAV at hs ⊢
  refine acall_S Tryz.func81 rfl rfl 11 rfl (Nat.le_of_ble_eq_true rfl) ?_
  (repeat refine AW.seq_k fun K hK => ?_)
  refine AW.rgR [2,3] ?_
  simp [argsL]; try (refine hK _ rfl ?_; clear hK; clear K)
  refine Fresh.intro fun b4 _ => ?_
  refine hK _ rfl ?_; clear hK; clear K; (repeat refine AW.seq_k fun K hK => ?_); refine AW.rg ?_; simp; try (refine hK _ rfl ?_; clear hK; clear K)
  refine CallK.val hs ?_
  cases q
  · simp [resQ, zeroRat]; refine hK _ rfl ?_; clear hK; clear K
    exact AW.ret (ret_rat (b := b4) _ _ _ _ rfl rfl (by simp <;> exact ⟨rfl, rfl, rfl, rfl⟩) rfl (viewsL_same _ _ _) ⟨rfl, rfl⟩)
  · simp [resQ, qAV]; refine hK _ rfl ?_; clear hK; clear K
    exact AW.ret (ret_rat (b := b4) _ _ _ _ rfl rfl (by simp <;> exact ⟨rfl, rfl, rfl, rfl⟩) rfl (viewsL_same _ _ _) ⟨rfl, rfl⟩)
theorem sub2_call (a b : Rat) (ha : Good a) (hb : Good b) : ACall Tryz.prog 40 [qAV a, qAV b] Mem.emp fun v m => v = resQ (subQ a b) ∧ m = Mem.emp := by
  have hs := sum2_sub_call a b ha hb
  generalize subQ a b = q at *
  unfold qAV at hs ⊢
  refine acall_S Tryz.func40 rfl rfl 11 rfl (Nat.le_of_ble_eq_true rfl) ?_
  (repeat refine AW.seq_k fun K hK => ?_)
  refine AW.rgR [2,3] ?_
  simp [argsL]; try (refine hK _ rfl ?_; clear hK; clear K)
  refine Fresh.intro fun b4 _ => ?_
  refine hK _ rfl ?_; clear hK; clear K; (repeat refine AW.seq_k fun K hK => ?_); refine AW.rg ?_; simp; try (refine hK _ rfl ?_; clear hK; clear K)
  refine CallK.val hs ?_
  cases q
  · simp [resQ, zeroRat]; refine hK _ rfl ?_; clear hK; clear K
    exact AW.ret (ret_rat (b := b4) _ _ _ _ rfl rfl (by simp <;> exact ⟨rfl, rfl, rfl, rfl⟩) rfl (viewsL_same _ _ _) ⟨rfl, rfl⟩)
  · simp [resQ, qAV]; refine hK _ rfl ?_; clear hK; clear K
    exact AW.ret (ret_rat (b := b4) _ _ _ _ rfl rfl (by simp <;> exact ⟨rfl, rfl, rfl, rfl⟩) rfl (viewsL_same _ _ _) ⟨rfl, rfl⟩)
@[simp] theorem ti82 : tinfo Tryz.prog 82 = some { size := 1, bytes := 8, cls := .func, zero := .any, fields := [] } := by kernel_rfl
@[simp] theorem Cls.agg_func : Cls.func.agg = false := (rfl)
/-- What is kept of a result behind an error. -/
def kz (e z : Int) : Int := if e = 0 then fz z else 0
def ke (e z : Int) : Int := if e = 0 then fe z else e
theorem kz_lt (e z : Int) : (kz e z).natAbs < B128 := by
  unfold kz
  split
  · exact fz_lt z
  · exact fz_lt 0 |> fun h => by simpa [fz, show (0 : Int).natAbs < B128 by decide] using h
section
variable {P : Program} {rs : List ResultVar} {R : AV → Mem → Prop} {s : St}
/-- The end of a function that leaves one block. -/
theorem ret_keep {vs : List AV} (vs' : List AV) (b : Nat) (x : Blk) (hs : resList P s rs = some vs) (hb : s.m b = some x) (h1 : ∀ v ∈ x.l, v.cells.all AV.one = true) (hv : viewsL s.m (Mem.emp.set b x) vs vs') (hR : R (oneOrTup vs') (Mem.emp.set b x)) : retQ P rs R .ret s :=
  ⟨vs, hs, _, _, Recast.one hb h1, View.oneOrTup hv, hR⟩
end
theorem keep_call (f : Nat) (b : Nat) : ACall Tryz.prog 147 [.fn f [], .ptr b 1 0 0] Mem.emp fun v m => v = .fn 148 [.ptr b 1 0 0, .rptr [.fn f []]] ∧ m = Mem.emp := by
  refine acall_S Tryz.func147 rfl rfl 5 rfl (Nat.le_of_ble_eq_true rfl) ?_
  (repeat refine AW.seq_k fun K hK => ?_)
  refine AW.rgR [2] ?_
  simp [argsL]; try (refine hK _ rfl ?_; clear hK; clear K)
  (repeat refine AW.seq_k fun K hK => ?_); refine AW.rg ?_; simp; try (refine hK _ rfl ?_; clear hK; clear K)
  exact AW.ret (ret_emp rfl _ (.same _) ⟨rfl, rfl⟩)
theorem kept_call (f : Nat) (b : Nat) (e z x y : Int) (hf : ACall Tryz.prog f [intAV x, intAV y] Mem.emp fun v m => v = fitAV z ∧ m = Mem.emp) :
    ACall Tryz.prog 148 [intAV x, intAV y, .ptr b 1 0 0, .rptr [.fn f []]] (Mem.emp.set b ⟨26, 1, [.int .i64 e]⟩) fun v m => v = intAV (kz e z) ∧ m = Mem.emp.set b ⟨26, 1, [.int .i64 (ke e z)]⟩ := by
  rw [fitAV_eq] at hf
  unfold intAV at *
  refine acall_S Tryz.func148 rfl rfl 21 rfl (Nat.le_of_ble_eq_true rfl) ?_
  (repeat refine AW.seq_k fun K hK => ?_)
  refine AW.rgR [4,5] ?_
  simp [argsL]; try (refine hK _ rfl ?_; clear hK; clear K)
  refine Fresh.intro fun b6 hb6 => ?_
  simp only [set_none2, emp_at, and_true] at hb6
  refine hK _ rfl ?_; clear hK; clear K; (repeat refine AW.seq_k fun K hK => ?_); refine AW.rg ?_; simp [hb6]; try (refine hK _ rfl ?_; clear hK; clear K)
  by_cases he : e = 0
  · subst he; refine AW.no ?_ rfl; refine AW.skip ?_; try simp
    refine hK _ rfl ?_; clear hK; clear K; (repeat refine AW.seq_k fun K hK => ?_); refine AW.rg ?_; simp [hb6]; try (refine hK _ rfl ?_; clear hK; clear K)
    refine ⟨f, [], ⟨rfl, rfl⟩, ?_⟩
    refine CallK.val hf ?_; simp
    refine Fresh.intro fun b7 hb7 => ?_
    simp only [set_none2, emp_at, and_true] at hb7
    try simp [hb6, hb7]
    refine hK _ rfl ?_; clear hK; clear K; (repeat refine AW.seq_k fun K hK => ?_); refine AW.rg ?_; simp [hb6, hb7]; try (refine hK _ rfl ?_; clear hK; clear K)
    (repeat refine AW.seq_k fun K hK => ?_); refine AW.rg ?_; simp [hb6, hb7]; try (refine hK _ rfl ?_; clear hK; clear K)
    exact AW.ret (ret_keep (vs := [.agg [.bool (decide (fz z < 0)), lim (dig (fz z).natAbs)]]) [.agg [.bool (decide (fz z < 0)), lim (dig (fz z).natAbs)]] b ⟨26, 1, [.int .i64 (fe z)]⟩ (by simp [hb6, hb7]) (by simp [hb6, hb7]) (by simp) (viewsL_same _ _ _) ⟨rfl, rfl⟩)
  · refine AW.yes ?_ (by simp [he])
    (repeat refine AW.seq_k fun K hK => ?_); refine AW.rg ?_; simp [hb6]; try (refine hK _ rfl ?_; clear hK; clear K)
    have k1 : kz e z = 0 := if_neg he
    have k2 : ke e z = e := if_neg he
    rw [k1, k2]
    exact AW.ret (ret_keep (vs := [.agg [.bool false, .nil]]) [.agg [.bool false, lim []]] b ⟨26, 1, [.int .i64 e]⟩ (by simp [hb6]) (by simp [hb6]) (by simp) (by simp) ⟨by simp [dig_zero], rfl⟩)
end Go.Av
end
section
namespace Go.Av
open Go.Proofs
/-- What an operation leaves: numerator, denominator, error. -/
def opR (q : Option Rat) (N D e : Int) : Prop :=
  match q with
  | some q => e = 0 ∧ N.natAbs < B128 ∧ D.natAbs < B128 ∧ D ≠ 0 ∧ Rat.divInt N D = q
  | none => e = 2
def qCells (q : Rat) : List AV := [.bool (decide (q.num < 0)), lim (dig q.num.natAbs), .bool false, lim (dig q.den)]
def errM (b : Nat) (e : Int) : Mem := Mem.emp.set b ⟨26, 1, [.int .i64 e]⟩
theorem kz_yes {z : Int} (h : fits z = true) : kz 0 z = z := by unfold kz; rw [if_pos rfl, fz_ok (fits_iff.1 h)]
theorem ke_yes {z : Int} (h : fits z = true) : ke 0 z = 0 := by unfold ke; rw [if_pos rfl, fe_ok (fits_iff.1 h)]
theorem ke_no {z : Int} (h : ¬ fits z = true) : ke 0 z = 2 := by unfold ke fe; rw [if_pos rfl, if_neg (fun h' => h (fits_iff.2 h'))]
section
variable {a b : Rat}
theorem dd_ne : (a.den : Int) * b.den ≠ 0 := Int.ne_of_gt (Int.mul_pos (by have := a.den_pos; omega) (by have := b.den_pos; omega))
theorem mul_end {e1 e2 : Int} (h1 : e1 = ke 0 (a.num * b.num)) (h2 : e2 = ke e1 ((a.den : Int) * b.den)) : opR (mulQ a b) (kz 0 (a.num * b.num)) (kz e1 ((a.den : Int) * b.den)) e2 := by
  subst h1 h2
  by_cases c1 : fits (a.num * b.num) = true
  · rw [ke_yes c1]
    by_cases c2 : fits ((a.den : Int) * b.den) = true
    · rw [mulQ_s c1 c2, kz_yes c1, kz_yes c2, ke_yes c2]
      exact ⟨rfl, fits_iff.1 c1, fits_iff.1 c2, dd_ne, (mul_eq a b).symm⟩
    · rw [mulQ_n2 c1 c2, ke_no c2]; rfl
  · rw [mulQ_n1 c1, ke_no c1]; rfl
theorem div_end {e1 e2 : Int} (h0 : b ≠ 0) (h1 : e1 = ke 0 (a.num * b.den)) (h2 : e2 = ke e1 ((a.den : Int) * b.num)) : opR (divQ a b) (kz 0 (a.num * b.den)) (kz e1 ((a.den : Int) * b.num)) e2 := by
  subst h1 h2
  by_cases c1 : fits (a.num * b.den) = true
  · rw [ke_yes c1]
    by_cases c2 : fits ((a.den : Int) * b.num) = true
    · rw [divQ_s c1 c2, kz_yes c1, kz_yes c2, ke_yes c2]
      exact ⟨rfl, fits_iff.1 c1, fits_iff.1 c2, Int.mul_ne_zero (by have := a.den_pos; omega) (fun e => h0 (Rat.num_eq_zero.1 e)), (div_eq a b).symm⟩
    · rw [divQ_n2 c1 c2, ke_no c2]; rfl
  · rw [divQ_n1 c1, ke_no c1]; rfl
theorem add_end {e1 e2 e3 e4 : Int} (h1 : e1 = ke 0 (a.num * b.den)) (h2 : e2 = ke e1 (b.num * a.den)) (h3 : e3 = ke e2 (kz 0 (a.num * b.den) + kz e1 (b.num * a.den))) (h4 : e4 = ke e3 ((a.den : Int) * b.den)) :
    opR (addQ a b) (kz e2 (kz 0 (a.num * b.den) + kz e1 (b.num * a.den))) (kz e3 ((a.den : Int) * b.den)) e4 := by
  subst h1 h2 h3 h4
  by_cases c1 : fits (a.num * b.den) = true
  · rw [ke_yes c1, kz_yes c1]
    by_cases c2 : fits (b.num * a.den) = true
    · rw [ke_yes c2, kz_yes c2]
      by_cases c3 : fits (a.num * b.den + b.num * a.den) = true
      · rw [ke_yes c3, kz_yes c3]
        by_cases c4 : fits ((a.den : Int) * b.den) = true
        · rw [addQ_s c1 c2 c3 c4, kz_yes c4, ke_yes c4]
          exact ⟨rfl, fits_iff.1 c3, fits_iff.1 c4, dd_ne, (add_eq a b).symm⟩
        · rw [addQ_n4 c1 c2 c3 c4, ke_no c4]; rfl
      · rw [addQ_n3 c1 c2 c3, ke_no c3]; rfl
    · rw [addQ_n2 c1 c2, ke_no c2]; rfl
  · rw [addQ_n1 c1, ke_no c1]; rfl
theorem sub_end {e1 e2 e3 e4 : Int} (h1 : e1 = ke 0 (a.num * b.den)) (h2 : e2 = ke e1 (b.num * a.den)) (h3 : e3 = ke e2 (kz 0 (a.num * b.den) + -kz e1 (b.num * a.den))) (h4 : e4 = ke e3 ((a.den : Int) * b.den)) :
    opR (subQ a b) (kz e2 (kz 0 (a.num * b.den) + -kz e1 (b.num * a.den))) (kz e3 ((a.den : Int) * b.den)) e4 := by
  subst h1 h2 h3 h4
  by_cases c1 : fits (a.num * b.den) = true
  · rw [ke_yes c1, kz_yes c1]
    by_cases c2 : fits (b.num * a.den) = true
    · rw [ke_yes c2, kz_yes c2]; rw [← Int.sub_eq_add_neg]
      by_cases c3 : fits (a.num * b.den - b.num * a.den) = true
      · rw [ke_yes c3, kz_yes c3]
        by_cases c4 : fits ((a.den : Int) * b.den) = true
        · rw [subQ_s c1 c2 c3 c4, kz_yes c4, ke_yes c4]
          exact ⟨rfl, fits_iff.1 c3, fits_iff.1 c4, dd_ne, (sub_eq a b).symm⟩
        · rw [subQ_n4 c1 c2 c3 c4, ke_no c4]; rfl
      · rw [subQ_n3 c1 c2 c3, ke_no c3]; rfl
    · rw [subQ_n2 c1 c2, ke_no c2]; rfl
  · rw [subQ_n1 c1, ke_no c1]; rfl
end
theorem mulf_call (a b : Rat) (ha : Good a) (hb : Good b) (bl : Nat) : ACall Tryz.prog 128 [.fn 148 [.ptr bl 1 0 0, .rptr [.fn 149 []]], .fn 148 [.ptr bl 1 0 0, .rptr [.fn 150 []]], .rptr (qCells a), .rptr (qCells b)] (errM bl 0) fun v m => ∃ N D e, v = .tup [intAV N, intAV D] ∧ m = errM bl e ∧ opR (mulQ a b) N D e := by
  obtain ⟨e1, he1⟩ : ∃ e, e = ke 0 (a.num * b.num) := ⟨_, rfl⟩
  obtain ⟨e2, he2⟩ : ∃ e, e = ke e1 ((a.den : Int) * (b.den : Int)) := ⟨_, rfl⟩
  have hend := mul_end he1 he2
  have m1 := kept_call 149 bl 0 _ _ _ (imul_call (a.num) (b.num) ha.1 hb.1)
  have m2 := kept_call 149 bl e1 _ _ _ (imul_call ((a.den : Int)) ((b.den : Int)) (den_lt ha) (den_lt hb))
  rw [← he1] at m1
  rw [← he2] at m2
  generalize kz 0 (a.num * b.num) = z1 at *
  generalize kz e1 ((a.den : Int) * (b.den : Int)) = z2 at *
  simp only [intAV_nat] at m1 m2
  unfold intAV at *
  unfold errM qCells
  refine acall_S Tryz.func128 rfl rfl 21 rfl (Nat.le_of_ble_eq_true rfl) ?_
  (repeat refine AW.seq_k fun K hK => ?_); refine AW.rg ?_; simp [argsL]; try (refine hK _ rfl ?_; clear hK; clear K)
  refine Fresh.intro fun b6 hb6 => ?_
  simp only [set_none2, emp_at, and_true] at hb6
  refine Fresh.intro fun b7 hb7 => ?_
  simp only [set_none2, emp_at, and_true] at hb7
  refine hK _ rfl ?_; clear hK; clear K; (repeat refine AW.seq_k fun K hK => ?_); refine AW.rg ?_; simp [hb6, hb7]; try (refine hK _ rfl ?_; clear hK; clear K)
  refine ⟨148, _, ⟨rfl, rfl⟩, ?_⟩
  refine CallK.grant (R := fun v x => v = .agg [.bool (decide (z1 < 0)), lim (dig (z1).natAbs)] ∧ x = ⟨26, 1, [.int .i64 (e1)]⟩) bl ⟨26, 1, [.int .i64 (0)]⟩ (by simp [hb6, hb7]) (by simp [hb6, hb7]) (m1.mono fun v m ⟨h1, h2⟩ => ⟨_, ⟨h1, rfl⟩, h2⟩) ?_
  rintro _ _ ⟨rfl, rfl⟩
  simp [hb6, hb7]; refine hK _ rfl ?_; clear hK; clear K; (repeat refine AW.seq_k fun K hK => ?_)
  refine AW.rdT [] [2, 3, 16, 18] [] [b6] [0, 1, 2, 3, 4, 5, 6, 7, 8] mix (by simp [hb6, hb7]) (by simp [hb6, hb7]) (by simp [hb6, hb7]) (by simp [hb6, hb7]) (by simp [hb6, hb7]) ?_
  simp [hb6, hb7]; try (refine hK _ rfl ?_; clear hK; clear K)
  refine ⟨148, _, ⟨rfl, rfl⟩, ?_⟩
  refine CallK.grant (R := fun v x => v = .agg [.bool (decide (z2 < 0)), lim (dig (z2).natAbs)] ∧ x = ⟨26, 1, [.int .i64 (e2)]⟩) bl ⟨26, 1, [.int .i64 (e1)]⟩ (by simp [hb6, hb7]) (by simp [hb6, hb7]) (m2.mono fun v m ⟨h1, h2⟩ => ⟨_, ⟨h1, rfl⟩, h2⟩) ?_
  rintro _ _ ⟨rfl, rfl⟩
  simp [hb6, hb7]; refine hK _ rfl ?_; clear hK; clear K
  exact AW.ret (ret_keep (vs := [.agg [.bool (decide (z1 < 0)), lim (dig (z1).natAbs)], .agg [.bool (decide (z2 < 0)), lim (dig (z2).natAbs)]]) [.agg [.bool (decide (z1 < 0)), lim (dig (z1).natAbs)], .agg [.bool (decide (z2 < 0)), lim (dig (z2).natAbs)]] bl ⟨26, 1, [.int .i64 e2]⟩ (by simp [hb6, hb7]) (by simp [hb6, hb7]) (by simp) (viewsL_same _ _ _) ⟨z1, z2, e2, rfl, rfl, hend⟩)
theorem divf_call (a b : Rat) (ha : Good a) (hb : Good b) (h0 : b ≠ 0) (bl : Nat) : ACall Tryz.prog 130 [.fn 148 [.ptr bl 1 0 0, .rptr [.fn 149 []]], .fn 148 [.ptr bl 1 0 0, .rptr [.fn 150 []]], .rptr (qCells a), .rptr (qCells b)] (errM bl 0) fun v m => ∃ N D e, v = .tup [intAV N, intAV D] ∧ m = errM bl e ∧ opR (divQ a b) N D e := by
  obtain ⟨e1, he1⟩ : ∃ e, e = ke 0 (a.num * (b.den : Int)) := ⟨_, rfl⟩
  obtain ⟨e2, he2⟩ : ∃ e, e = ke e1 ((a.den : Int) * b.num) := ⟨_, rfl⟩
  have hend := div_end h0 he1 he2
  have m1 := kept_call 149 bl 0 _ _ _ (imul_call (a.num) ((b.den : Int)) ha.1 (den_lt hb))
  have m2 := kept_call 149 bl e1 _ _ _ (imul_call ((a.den : Int)) (b.num) (den_lt ha) hb.1)
  rw [← he1] at m1
  rw [← he2] at m2
  generalize kz 0 (a.num * (b.den : Int)) = z1 at *
  generalize kz e1 ((a.den : Int) * b.num) = z2 at *
  simp only [intAV_nat] at m1 m2
  unfold intAV at *
  unfold errM qCells
  refine acall_S Tryz.func130 rfl rfl 21 rfl (Nat.le_of_ble_eq_true rfl) ?_
  (repeat refine AW.seq_k fun K hK => ?_); refine AW.rg ?_; simp [argsL]; try (refine hK _ rfl ?_; clear hK; clear K)
  refine Fresh.intro fun b6 hb6 => ?_
  simp only [set_none2, emp_at, and_true] at hb6
  refine Fresh.intro fun b7 hb7 => ?_
  simp only [set_none2, emp_at, and_true] at hb7
  refine hK _ rfl ?_; clear hK; clear K; (repeat refine AW.seq_k fun K hK => ?_); refine AW.rg ?_; simp [hb6, hb7]; try (refine hK _ rfl ?_; clear hK; clear K)
  refine ⟨148, _, ⟨rfl, rfl⟩, ?_⟩
  refine CallK.grant (R := fun v x => v = .agg [.bool (decide (z1 < 0)), lim (dig (z1).natAbs)] ∧ x = ⟨26, 1, [.int .i64 (e1)]⟩) bl ⟨26, 1, [.int .i64 (0)]⟩ (by simp [hb6, hb7]) (by simp [hb6, hb7]) (m1.mono fun v m ⟨h1, h2⟩ => ⟨_, ⟨h1, rfl⟩, h2⟩) ?_
  rintro _ _ ⟨rfl, rfl⟩
  simp [hb6, hb7]; refine hK _ rfl ?_; clear hK; clear K; (repeat refine AW.seq_k fun K hK => ?_)
  refine AW.rdT [] [2, 3, 16, 18] [] [b6] [0, 1, 2, 3, 4, 5, 6, 7, 8] mix (by simp [hb6, hb7]) (by simp [hb6, hb7]) (by simp [hb6, hb7]) (by simp [hb6, hb7]) (by simp [hb6, hb7]) ?_
  simp [hb6, hb7]; try (refine hK _ rfl ?_; clear hK; clear K)
  refine ⟨148, _, ⟨rfl, rfl⟩, ?_⟩
  refine CallK.grant (R := fun v x => v = .agg [.bool (decide (z2 < 0)), lim (dig (z2).natAbs)] ∧ x = ⟨26, 1, [.int .i64 (e2)]⟩) bl ⟨26, 1, [.int .i64 (e1)]⟩ (by simp [hb6, hb7]) (by simp [hb6, hb7]) (m2.mono fun v m ⟨h1, h2⟩ => ⟨_, ⟨h1, rfl⟩, h2⟩) ?_
  rintro _ _ ⟨rfl, rfl⟩
  simp [hb6, hb7]; refine hK _ rfl ?_; clear hK; clear K
  exact AW.ret (ret_keep (vs := [.agg [.bool (decide (z1 < 0)), lim (dig (z1).natAbs)], .agg [.bool (decide (z2 < 0)), lim (dig (z2).natAbs)]]) [.agg [.bool (decide (z1 < 0)), lim (dig (z1).natAbs)], .agg [.bool (decide (z2 < 0)), lim (dig (z2).natAbs)]] bl ⟨26, 1, [.int .i64 e2]⟩ (by simp [hb6, hb7]) (by simp [hb6, hb7]) (by simp) (viewsL_same _ _ _) ⟨z1, z2, e2, rfl, rfl, hend⟩)
theorem addf_call (a b : Rat) (ha : Good a) (hb : Good b) (bl : Nat) : ACall Tryz.prog 133 [.fn 148 [.ptr bl 1 0 0, .rptr [.fn 149 []]], .fn 148 [.ptr bl 1 0 0, .rptr [.fn 150 []]], .rptr (qCells a), .rptr (qCells b)] (errM bl 0) fun v m => ∃ N D e, v = .tup [intAV N, intAV D] ∧ m = errM bl e ∧ opR (addQ a b) N D e := by
  obtain ⟨e1, he1⟩ : ∃ e, e = ke 0 (a.num * b.den) := ⟨_, rfl⟩
  obtain ⟨e2, he2⟩ : ∃ e, e = ke e1 (b.num * a.den) := ⟨_, rfl⟩
  obtain ⟨e3, he3⟩ : ∃ e, e = ke e2 (kz 0 (a.num * b.den) + kz e1 (b.num * a.den)) := ⟨_, rfl⟩
  obtain ⟨e4, he4⟩ : ∃ e, e = ke e3 ((a.den : Int) * b.den) := ⟨_, rfl⟩
  have hend := add_end he1 he2 he3 he4
  have m1 := kept_call 149 bl 0 _ _ _ (imul_call a.num b.den ha.1 (den_lt hb))
  have m2 := kept_call 149 bl e1 _ _ _ (imul_call b.num a.den hb.1 (den_lt ha))
  have m4 := kept_call 149 bl e3 _ _ _ (imul_call a.den b.den (den_lt ha) (den_lt hb))
  have m3 := kept_call 150 bl e2 _ _ _ (iadd_call (kz 0 (a.num * b.den)) (kz e1 (b.num * a.den)) (kz_lt _ _) (kz_lt _ _))
  rw [← he1] at m1
  rw [← he2] at m2
  rw [← he3] at m3
  rw [← he4] at m4
  generalize kz e2 (kz 0 (a.num * b.den) + kz e1 (b.num * a.den)) = z3 at *
  generalize kz e3 ((a.den : Int) * b.den) = z4 at *
  clear he1 he2 he3 he4
  generalize kz e1 (b.num * a.den) = z2 at *
  generalize kz 0 (a.num * b.den) = z1 at *
  simp only [intAV_nat] at m1 m2 m4
  unfold intAV at *
  unfold errM qCells
  refine acall_S Tryz.func133 rfl rfl 33 rfl (Nat.le_of_ble_eq_true rfl) ?_
  (repeat refine AW.seq_k fun K hK => ?_); refine AW.rg ?_; simp [argsL]; try (refine hK _ rfl ?_; clear hK; clear K)
  refine Fresh.intro fun b6 hb6 => ?_
  simp only [set_none2, emp_at, and_true] at hb6
  refine Fresh.intro fun b7 hb7 => ?_
  simp only [set_none2, emp_at, and_true] at hb7
  refine hK _ rfl ?_; clear hK; clear K; (repeat refine AW.seq_k fun K hK => ?_)
  refine AW.rdT [] [2, 3, 11, 13, 17, 19] [] [] [0,1,2,3,4,6,7,8,9,10,5,11,12,13,14,15] mix (by simp [hb6, hb7]) (by simp [hb6, hb7]) (by simp [hb6, hb7]) (by simp [hb6, hb7]) (by simp [hb6, hb7]) ?_
  simp [hb6, hb7]; try (refine hK _ rfl ?_; clear hK; clear K)
  refine ⟨148, _, ⟨rfl, rfl⟩, ?_⟩
  refine CallK.grant (R := fun v x => v = .agg [.bool (decide (z1 < 0)), lim (dig (z1).natAbs)] ∧ x = ⟨26, 1, [.int .i64 (e1)]⟩) bl ⟨26, 1, [.int .i64 (0)]⟩ (by simp [hb6, hb7]) (by simp [hb6, hb7]) (m1.mono fun v m ⟨h1, h2⟩ => ⟨_, ⟨h1, rfl⟩, h2⟩) ?_
  rintro _ _ ⟨rfl, rfl⟩
  simp [hb6, hb7]
  refine ⟨148, _, ⟨rfl, rfl⟩, ?_⟩
  refine CallK.grant (R := fun v x => v = .agg [.bool (decide (z2 < 0)), lim (dig (z2).natAbs)] ∧ x = ⟨26, 1, [.int .i64 (e2)]⟩) bl ⟨26, 1, [.int .i64 (e1)]⟩ (by simp [hb6, hb7]) (by simp [hb6, hb7]) (m2.mono fun v m ⟨h1, h2⟩ => ⟨_, ⟨h1, rfl⟩, h2⟩) ?_
  rintro _ _ ⟨rfl, rfl⟩
  simp [hb6, hb7]
  refine Fresh.intro fun b8 hb8 => ?_
  simp only [set_none2, emp_at, and_true] at hb8
  refine Fresh.intro fun b9 hb9 => ?_
  simp only [set_none2, emp_at, and_true] at hb9
  try simp [hb6, hb7, hb8, hb9]
  refine hK _ rfl ?_; clear hK; clear K; (repeat refine AW.seq_k fun K hK => ?_); refine AW.rg ?_; simp [hb6, hb7, hb8, hb9]; try (refine hK _ rfl ?_; clear hK; clear K)
  refine ⟨148, _, ⟨rfl, rfl⟩, ?_⟩
  refine CallK.grant (R := fun v x => v = .agg [.bool (decide (z3 < 0)), lim (dig (z3).natAbs)] ∧ x = ⟨26, 1, [.int .i64 (e3)]⟩) bl ⟨26, 1, [.int .i64 (e2)]⟩ (by simp [hb6, hb7, hb8, hb9]) (by simp [hb6, hb7, hb8, hb9]) (m3.mono fun v m ⟨h1, h2⟩ => ⟨_, ⟨h1, rfl⟩, h2⟩) ?_
  rintro _ _ ⟨rfl, rfl⟩
  simp [hb6, hb7, hb8, hb9]; refine hK _ rfl ?_; clear hK; clear K; (repeat refine AW.seq_k fun K hK => ?_)
  refine AW.rdT [] [2, 3, 28, 30] [] [b6] [0, 1, 2, 3, 4, 5, 6, 7, 8] mix (by simp [hb6, hb7, hb8, hb9]) (by simp [hb6, hb7, hb8, hb9]) (by simp [hb6, hb7, hb8, hb9]) (by simp [hb6, hb7, hb8, hb9]) (by simp [hb6, hb7, hb8, hb9]) ?_
  simp [hb6, hb7, hb8, hb9]; try (refine hK _ rfl ?_; clear hK; clear K)
  refine ⟨148, _, ⟨rfl, rfl⟩, ?_⟩
  refine CallK.grant (R := fun v x => v = .agg [.bool (decide (z4 < 0)), lim (dig (z4).natAbs)] ∧ x = ⟨26, 1, [.int .i64 (e4)]⟩) bl ⟨26, 1, [.int .i64 (e3)]⟩ (by simp [hb6, hb7, hb8, hb9]) (by simp [hb6, hb7, hb8, hb9]) (m4.mono fun v m ⟨h1, h2⟩ => ⟨_, ⟨h1, rfl⟩, h2⟩) ?_
  rintro _ _ ⟨rfl, rfl⟩
  simp [hb6, hb7, hb8, hb9]; refine hK _ rfl ?_; clear hK; clear K
  exact AW.ret (ret_keep (vs := [.agg [.bool (decide (z3 < 0)), lim (dig (z3).natAbs)], .agg [.bool (decide (z4 < 0)), lim (dig (z4).natAbs)]]) [.agg [.bool (decide (z3 < 0)), lim (dig (z3).natAbs)], .agg [.bool (decide (z4 < 0)), lim (dig (z4).natAbs)]] bl ⟨26, 1, [.int .i64 e4]⟩ (by simp [hb6, hb7, hb8, hb9]) (by simp [hb6, hb7, hb8, hb9]) (by simp) (viewsL_same _ _ _) ⟨z3, z4, e4, rfl, rfl, hend⟩)
theorem subf_call (a b : Rat) (ha : Good a) (hb : Good b) (bl : Nat) : ACall Tryz.prog 126 [.fn 148 [.ptr bl 1 0 0, .rptr [.fn 149 []]], .fn 148 [.ptr bl 1 0 0, .rptr [.fn 150 []]], .rptr (qCells a), .rptr (qCells b)] (errM bl 0) fun v m => ∃ N D e, v = .tup [intAV N, intAV D] ∧ m = errM bl e ∧ opR (subQ a b) N D e := by
  obtain ⟨e1, he1⟩ : ∃ e, e = ke 0 (a.num * b.den) := ⟨_, rfl⟩
  obtain ⟨e2, he2⟩ : ∃ e, e = ke e1 (b.num * a.den) := ⟨_, rfl⟩
  obtain ⟨e3, he3⟩ : ∃ e, e = ke e2 (kz 0 (a.num * b.den) + -kz e1 (b.num * a.den)) := ⟨_, rfl⟩
  obtain ⟨e4, he4⟩ : ∃ e, e = ke e3 ((a.den : Int) * b.den) := ⟨_, rfl⟩
  have hend := sub_end he1 he2 he3 he4
  have m1 := kept_call 149 bl 0 _ _ _ (imul_call a.num b.den ha.1 (den_lt hb))
  have m2 := kept_call 149 bl e1 _ _ _ (imul_call b.num a.den hb.1 (den_lt ha))
  have m4 := kept_call 149 bl e3 _ _ _ (imul_call a.den b.den (den_lt ha) (den_lt hb))
  have m3 := kept_call 150 bl e2 _ _ _ (iadd_call (kz 0 (a.num * b.den)) (-kz e1 (b.num * a.den)) (kz_lt _ _) (by rw [Int.natAbs_neg]; exact kz_lt _ _))
  have hng := neg_call (kz e1 (b.num * a.den)) (kz_lt _ _)
  rw [← he1] at m1
  rw [← he2] at m2
  rw [← he3] at m3
  rw [← he4] at m4
  generalize kz e2 (kz 0 (a.num * b.den) + -kz e1 (b.num * a.den)) = z3 at *
  generalize kz e3 ((a.den : Int) * b.den) = z4 at *
  clear he1 he2 he3 he4
  generalize -kz e1 (b.num * a.den) = ny at *
  generalize kz e1 (b.num * a.den) = z2 at *
  generalize kz 0 (a.num * b.den) = z1 at *
  simp only [intAV_nat] at m1 m2 m4
  unfold intAV at *
  unfold errM qCells
  refine acall_S Tryz.func126 rfl rfl 34 rfl (Nat.le_of_ble_eq_true rfl) ?_
  (repeat refine AW.seq_k fun K hK => ?_); refine AW.rg ?_; simp [argsL]; try (refine hK _ rfl ?_; clear hK; clear K)
  refine Fresh.intro fun b6 hb6 => ?_
  simp only [set_none2, emp_at, and_true] at hb6
  refine Fresh.intro fun b7 hb7 => ?_
  simp only [set_none2, emp_at, and_true] at hb7
  refine hK _ rfl ?_; clear hK; clear K; (repeat refine AW.seq_k fun K hK => ?_)
  refine AW.rdT [] [2, 3, 11, 13, 17, 19] [] [] [0,1,2,3,4,6,7,8,9,10,5,11,12,13,14,15] mix (by simp [hb6, hb7]) (by simp [hb6, hb7]) (by simp [hb6, hb7]) (by simp [hb6, hb7]) (by simp [hb6, hb7]) ?_
  simp [hb6, hb7]; try (refine hK _ rfl ?_; clear hK; clear K)
  refine ⟨148, _, ⟨rfl, rfl⟩, ?_⟩
  refine CallK.grant (R := fun v x => v = .agg [.bool (decide (z1 < 0)), lim (dig (z1).natAbs)] ∧ x = ⟨26, 1, [.int .i64 (e1)]⟩) bl ⟨26, 1, [.int .i64 (0)]⟩ (by simp [hb6, hb7]) (by simp [hb6, hb7]) (m1.mono fun v m ⟨h1, h2⟩ => ⟨_, ⟨h1, rfl⟩, h2⟩) ?_
  rintro _ _ ⟨rfl, rfl⟩
  simp [hb6, hb7]
  refine ⟨148, _, ⟨rfl, rfl⟩, ?_⟩
  refine CallK.grant (R := fun v x => v = .agg [.bool (decide (z2 < 0)), lim (dig (z2).natAbs)] ∧ x = ⟨26, 1, [.int .i64 (e2)]⟩) bl ⟨26, 1, [.int .i64 (e1)]⟩ (by simp [hb6, hb7]) (by simp [hb6, hb7]) (m2.mono fun v m ⟨h1, h2⟩ => ⟨_, ⟨h1, rfl⟩, h2⟩) ?_
  rintro _ _ ⟨rfl, rfl⟩
  simp [hb6, hb7]
  refine Fresh.intro fun b8 hb8 => ?_
  simp only [set_none2, emp_at, and_true] at hb8
  refine Fresh.intro fun b9 hb9 => ?_
  simp only [set_none2, emp_at, and_true] at hb9
  try simp [hb6, hb7, hb8, hb9]
  refine hK _ rfl ?_; clear hK; clear K; (repeat refine AW.seq_k fun K hK => ?_)
  refine AW.rdT [] [] [] [b8, b9] [0, 1, 2, 3, 4, 5] mix (by simp [hb6, hb7, hb8, hb9]) (by simp [hb6, hb7, hb8, hb9]) (by simp [hb6, hb7, hb8, hb9]) (by simp [hb6, hb7, hb8, hb9]) (by simp [hb6, hb7, hb8, hb9]) ?_
  simp [hb6, hb7, hb8, hb9]; try (refine hK _ rfl ?_; clear hK; clear K)
  refine CallK.val hng ?_; simp [hb6, hb7, hb8, hb9]
  refine ⟨148, _, ⟨rfl, rfl⟩, ?_⟩
  refine CallK.grant (R := fun v x => v = .agg [.bool (decide (z3 < 0)), lim (dig (z3).natAbs)] ∧ x = ⟨26, 1, [.int .i64 (e3)]⟩) bl ⟨26, 1, [.int .i64 (e2)]⟩ (by simp [hb6, hb7, hb8, hb9]) (by simp [hb6, hb7, hb8, hb9]) (m3.mono fun v m ⟨h1, h2⟩ => ⟨_, ⟨h1, rfl⟩, h2⟩) ?_
  rintro _ _ ⟨rfl, rfl⟩
  simp [hb6, hb7, hb8, hb9]; refine hK _ rfl ?_; clear hK; clear K; (repeat refine AW.seq_k fun K hK => ?_)
  refine AW.rdT [] [2, 3, 29, 31] [] [b6] [0, 1, 2, 3, 4, 5, 6, 7, 8] mix (by simp [hb6, hb7, hb8, hb9]) (by simp [hb6, hb7, hb8, hb9]) (by simp [hb6, hb7, hb8, hb9]) (by simp [hb6, hb7, hb8, hb9]) (by simp [hb6, hb7, hb8, hb9]) ?_
  simp [hb6, hb7, hb8, hb9]; try (refine hK _ rfl ?_; clear hK; clear K)
  refine ⟨148, _, ⟨rfl, rfl⟩, ?_⟩
  refine CallK.grant (R := fun v x => v = .agg [.bool (decide (z4 < 0)), lim (dig (z4).natAbs)] ∧ x = ⟨26, 1, [.int .i64 (e4)]⟩) bl ⟨26, 1, [.int .i64 (e3)]⟩ (by simp [hb6, hb7, hb8, hb9]) (by simp [hb6, hb7, hb8, hb9]) (m4.mono fun v m ⟨h1, h2⟩ => ⟨_, ⟨h1, rfl⟩, h2⟩) ?_
  rintro _ _ ⟨rfl, rfl⟩
  simp [hb6, hb7, hb8, hb9]; refine hK _ rfl ?_; clear hK; clear K
  exact AW.ret (ret_keep (vs := [.agg [.bool (decide (z3 < 0)), lim (dig (z3).natAbs)], .agg [.bool (decide (z4 < 0)), lim (dig (z4).natAbs)]]) [.agg [.bool (decide (z3 < 0)), lim (dig (z3).natAbs)], .agg [.bool (decide (z4 < 0)), lim (dig (z4).natAbs)]] bl ⟨26, 1, [.int .i64 e4]⟩ (by simp [hb6, hb7, hb8, hb9]) (by simp [hb6, hb7, hb8, hb9]) (by simp) (viewsL_same _ _ _) ⟨z3, z4, e4, rfl, rfl, hend⟩)
end Go.Av
end
section
namespace Go.Av
open Go.Proofs
theorem operate_call (a b : Rat) (ha : Good a) (hb : Good b) (f : Nat) (q : Option Rat)
    (hf : ∀ bl, ACall Tryz.prog f [.fn 148 [.ptr bl 1 0 0, .rptr [.fn 149 []]], .fn 148 [.ptr bl 1 0 0, .rptr [.fn 150 []]], .rptr (qCells a), .rptr (qCells b)] (errM bl 0) fun v m => ∃ N D e, v = .tup [intAV N, intAV D] ∧ m = errM bl e ∧ opR q N D e) :
    ACall Tryz.prog 125 [qAV a, qAV b, .fn f [.rptr (qCells a), .rptr (qCells b)]] Mem.emp fun v m => v = resQ q ∧ m = Mem.emp := by
  have hall := all_call (ofQ a) (ofQ b) (ofQ_lb a) (ofQ_lb b)
  rw [ofQ_ok ha, ofQ_ok hb] at hall
  simp only [RR.av, ofQ] at hall
  unfold errM qCells at hf
  unfold qAV qCells
  refine acall_S Tryz.func125 rfl rfl 35 rfl (Nat.le_of_ble_eq_true rfl) ?_
  (repeat refine AW.seq_k fun K hK => ?_)
  refine AW.rgR [3,4] ?_
  simp [argsL]; try (refine hK _ rfl ?_; clear hK; clear K)
  refine Fresh.intro fun b6 _ => ?_
  refine hK _ rfl ?_; clear hK; clear K; (repeat refine AW.seq_k fun K hK => ?_)
  refine AW.rgR [14] ?_
  simp; try (refine hK _ rfl ?_; clear hK; clear K)
  refine CallK.val hall ?_; simp; refine hK _ rfl ?_; clear hK; clear K; refine AW.no ?_ rfl; refine AW.skip ?_; try simp
  refine hK _ rfl ?_; clear hK; clear K; (repeat refine AW.seq_k fun K hK => ?_); refine AW.rg ?_; simp; try (refine hK _ rfl ?_; clear hK; clear K)
  refine Fresh.intro fun b8 hb8 => ?_
  simp only [set_none2, emp_at, and_true] at hb8
  try simp [hb8]
  refine hK _ rfl ?_; clear hK; clear K; (repeat refine AW.seq_k fun K hK => ?_); refine AW.rg ?_; simp; try (refine hK _ rfl ?_; clear hK; clear K)
  (repeat refine AW.seq_k fun K hK => ?_); refine AW.rg ?_; simp [hb8]; try (refine hK _ rfl ?_; clear hK; clear K)
  refine ⟨_, _, ⟨rfl, rfl⟩, ?_⟩
  refine CallK.val (keep_call 149 b8) ?_
  simp
  refine ⟨_, _, ⟨rfl, rfl⟩, ?_⟩
  refine CallK.val (keep_call 150 b8) ?_
  simp
  refine ⟨_, _, ⟨rfl, rfl⟩, ?_⟩
  refine CallK.grant (R := fun v x => ∃ N D e, v = .tup [intAV N, intAV D] ∧ x = ⟨26, 1, [.int .i64 e]⟩ ∧ opR q N D e) b8 ⟨26, 1, [.int .i64 0]⟩ (by simp [hb8]) (by simp [hb8]) ((hf b8).mono fun v m ⟨N, D, e, h1, h2, h3⟩ => ⟨_, ⟨N, D, e, h1, rfl, h3⟩, h2⟩) ?_
  rintro _ _ ⟨N, D, e, rfl, rfl, hR⟩
  simp [intAV]
  refine Fresh.intro fun b10 hb10 => ?_
  simp only [set_none2, emp_at, and_true] at hb10
  refine Fresh.intro fun b11 hb11 => ?_
  simp only [set_none2, emp_at, and_true] at hb11
  try simp [hb8, hb10, hb11]
  refine hK _ rfl ?_; clear hK; clear K; (repeat refine AW.seq_k fun K hK => ?_); refine AW.rg ?_; simp [hb8, hb10, hb11]; try (refine hK _ rfl ?_; clear hK; clear K)
  cases q with
  | none =>
    have he : e = 2 := hR
    subst he; refine AW.yes ?_ rfl; (repeat refine AW.seq_k fun K hK => ?_)
    refine AW.rdT [(8, b8), (6, b6)] [] [] [b8] [0, 1, 2, 3] mix (by simp [hb8, hb10, hb11]) (by simp [hb8, hb10, hb11]) (by simp [hb8, hb10, hb11]) (by simp [hb8, hb10, hb11]) (by simp [hb8, hb10, hb11]) ?_
    simp [hb8, hb10, hb11]; try (refine hK _ rfl ?_; clear hK; clear K)
    exact AW.ret (ret_rat (b := b6) (.bool false) (lim []) (.bool false) (lim []) rfl rfl (by simp <;> exact ⟨rfl, rfl, rfl, rfl⟩) rfl (by simp) ⟨rfl, rfl⟩)
  | some q =>
    obtain ⟨he, g1, g2, g3, g4⟩ := hR
    subst he
    have hr := reduce_call N D g1 g2 g3
    rw [g4] at hr
    unfold intAV qAV at hr
    refine AW.no ?_ rfl; refine AW.skip ?_; try simp
    refine hK _ rfl ?_; clear hK; clear K; (repeat refine AW.seq_k fun K hK => ?_); refine AW.rg ?_; simp [hb8, hb10, hb11]; try (refine hK _ rfl ?_; clear hK; clear K)
    refine CallK.val hr ?_; simp [hb8, hb10, hb11]; refine hK _ rfl ?_; clear hK; clear K
    exact AW.ret (ret_rat (b := b6) _ _ _ _ rfl rfl (by simp <;> exact ⟨rfl, rfl, rfl, rfl⟩) rfl (viewsL_same _ _ _) ⟨rfl, rfl⟩)
theorem radd_call (a b : Rat) (ha : Good a) (hb : Good b) : ACall Tryz.prog 104 [qAV a, qAV b] Mem.emp fun v m => v = resQ (addQ a b) ∧ m = Mem.emp := by
  have hs := operate_call a b ha hb 133 (addQ a b) (addf_call a b ha hb)
  generalize addQ a b = q at *
  unfold qAV qCells at hs
  unfold qAV
  refine acall_S Tryz.func104 rfl rfl 12 rfl (Nat.le_of_ble_eq_true rfl) ?_
  (repeat refine AW.seq_k fun K hK => ?_)
  refine AW.rgR [2,3] ?_
  simp [argsL]; try (refine hK _ rfl ?_; clear hK; clear K)
  refine Fresh.intro fun b4 _ => ?_
  refine hK _ rfl ?_; clear hK; clear K; (repeat refine AW.seq_k fun K hK => ?_); refine AW.rg ?_; simp; try (refine hK _ rfl ?_; clear hK; clear K)
  refine CallK.val hs ?_
  cases q
  · simp [resQ, zeroRat]; refine hK _ rfl ?_; clear hK; clear K
    exact AW.ret (ret_rat (b := b4) _ _ _ _ rfl rfl (by simp <;> exact ⟨rfl, rfl, rfl, rfl⟩) rfl (viewsL_same _ _ _) ⟨rfl, rfl⟩)
  · simp [resQ, qAV]; refine hK _ rfl ?_; clear hK; clear K
    exact AW.ret (ret_rat (b := b4) _ _ _ _ rfl rfl (by simp <;> exact ⟨rfl, rfl, rfl, rfl⟩) rfl (viewsL_same _ _ _) ⟨rfl, rfl⟩)
theorem rsub_call (a b : Rat) (ha : Good a) (hb : Good b) : ACall Tryz.prog 93 [qAV a, qAV b] Mem.emp fun v m => v = resQ (subQ a b) ∧ m = Mem.emp := by
  have hs := operate_call a b ha hb 126 (subQ a b) (subf_call a b ha hb)
  generalize subQ a b = q at *
  unfold qAV qCells at hs
  unfold qAV
  refine acall_S Tryz.func93 rfl rfl 12 rfl (Nat.le_of_ble_eq_true rfl) ?_
  (repeat refine AW.seq_k fun K hK => ?_)
  refine AW.rgR [2,3] ?_
  simp [argsL]; try (refine hK _ rfl ?_; clear hK; clear K)
  refine Fresh.intro fun b4 _ => ?_
  refine hK _ rfl ?_; clear hK; clear K; (repeat refine AW.seq_k fun K hK => ?_); refine AW.rg ?_; simp; try (refine hK _ rfl ?_; clear hK; clear K)
  refine CallK.val hs ?_
  cases q
  · simp [resQ, zeroRat]; refine hK _ rfl ?_; clear hK; clear K
    exact AW.ret (ret_rat (b := b4) _ _ _ _ rfl rfl (by simp <;> exact ⟨rfl, rfl, rfl, rfl⟩) rfl (viewsL_same _ _ _) ⟨rfl, rfl⟩)
  · simp [resQ, qAV]; refine hK _ rfl ?_; clear hK; clear K
    exact AW.ret (ret_rat (b := b4) _ _ _ _ rfl rfl (by simp <;> exact ⟨rfl, rfl, rfl, rfl⟩) rfl (viewsL_same _ _ _) ⟨rfl, rfl⟩)
theorem rmul_call (a b : Rat) (ha : Good a) (hb : Good b) : ACall Tryz.prog 94 [qAV a, qAV b] Mem.emp fun v m => v = resQ (mulQ a b) ∧ m = Mem.emp := by
  have hs := operate_call a b ha hb 128 (mulQ a b) (mulf_call a b ha hb)
  generalize mulQ a b = q at *
  unfold qAV qCells at hs
  unfold qAV
  refine acall_S Tryz.func94 rfl rfl 12 rfl (Nat.le_of_ble_eq_true rfl) ?_
  (repeat refine AW.seq_k fun K hK => ?_)
  refine AW.rgR [2,3] ?_
  simp [argsL]; try (refine hK _ rfl ?_; clear hK; clear K)
  refine Fresh.intro fun b4 _ => ?_
  refine hK _ rfl ?_; clear hK; clear K; (repeat refine AW.seq_k fun K hK => ?_); refine AW.rg ?_; simp; try (refine hK _ rfl ?_; clear hK; clear K)
  refine CallK.val hs ?_
  cases q
  · simp [resQ, zeroRat]; refine hK _ rfl ?_; clear hK; clear K
    exact AW.ret (ret_rat (b := b4) _ _ _ _ rfl rfl (by simp <;> exact ⟨rfl, rfl, rfl, rfl⟩) rfl (viewsL_same _ _ _) ⟨rfl, rfl⟩)
  · simp [resQ, qAV]; refine hK _ rfl ?_; clear hK; clear K
    exact AW.ret (ret_rat (b := b4) _ _ _ _ rfl rfl (by simp <;> exact ⟨rfl, rfl, rfl, rfl⟩) rfl (viewsL_same _ _ _) ⟨rfl, rfl⟩)
theorem rdiv_call (a b : Rat) (ha : Good a) (hb : Good b) (h0 : b ≠ 0) : ACall Tryz.prog 95 [qAV a, qAV b] Mem.emp fun v m => v = resQ (divQ a b) ∧ m = Mem.emp := by
  have hs := operate_call a b ha hb 130 (divQ a b) (divf_call a b ha hb h0)
  generalize divQ a b = q at *
  have hall := all_call (ofQ a) (ofQ b) (ofQ_lb a) (ofQ_lb b)
  rw [ofQ_ok ha, ofQ_ok hb] at hall
  simp only [RR.av, ofQ] at hall
  have hz := zero_call (decide (b.num < 0)) (dig b.num.natAbs)
  have hb0 : b.num ≠ 0 := fun e => h0 (Rat.num_eq_zero.1 e)
  have hl : ¬ dig b.num.natAbs = [] := by rw [dig_nil]; omega
  unfold rawInt at hz
  unfold qAV qCells at hs
  unfold qAV
  refine acall_S Tryz.func95 rfl rfl 22 rfl (Nat.le_of_ble_eq_true rfl) ?_
  (repeat refine AW.seq_k fun K hK => ?_)
  refine AW.rgR [2,3] ?_
  simp [argsL]; try (refine hK _ rfl ?_; clear hK; clear K)
  refine Fresh.intro fun b4 _ => ?_
  refine hK _ rfl ?_; clear hK; clear K; (repeat refine AW.seq_k fun K hK => ?_)
  refine AW.rgR [8] ?_
  simp; try (refine hK _ rfl ?_; clear hK; clear K)
  refine CallK.val hall ?_; simp; refine CallK.val hz ?_; simp [hl]; refine hK _ rfl ?_; clear hK; clear K; refine AW.no ?_ rfl; refine AW.skip ?_; try simp
  refine hK _ rfl ?_; clear hK; clear K; (repeat refine AW.seq_k fun K hK => ?_); refine AW.rg ?_; simp; try (refine hK _ rfl ?_; clear hK; clear K)
  refine CallK.val hs ?_
  cases q
  · simp [resQ, zeroRat]; refine hK _ rfl ?_; clear hK; clear K
    exact AW.ret (ret_rat (b := b4) _ _ _ _ rfl rfl (by simp <;> exact ⟨rfl, rfl, rfl, rfl⟩) rfl (viewsL_same _ _ _) ⟨rfl, rfl⟩)
  · simp [resQ, qAV]; refine hK _ rfl ?_; clear hK; clear K
    exact AW.ret (ret_rat (b := b4) _ _ _ _ rfl rfl (by simp <;> exact ⟨rfl, rfl, rfl, rfl⟩) rfl (viewsL_same _ _ _) ⟨rfl, rfl⟩)
end Go.Av
end
section
namespace Go.Av
open Go.Proofs
instance : Inhabited RR := ⟨⟨false, [], false, []⟩⟩
/-- The element of a row; the row of a matrix. -/
def rr (r : List RR) (i : Nat) : RR := r.getD i default
def mrow {α : Type} (m : List (List α)) (i : Nat) : List α := m.getD i []
def rrs (r : List RR) : List AV := r.map RR.av
def rowAV (r : List RR) : AV := .sl 4 (rrs r)
def matAV (m : List (List RR)) : AV := .sl 1 (m.map rowAV)
theorem rr_eq {r : List RR} {i : Nat} (h : i < r.length) : rr r i = r[i] := by unfold rr; rw [List.getD_eq_getElem?_getD, List.getElem?_eq_getElem h]; rfl
theorem mrow_eq {α : Type} {m : List (List α)} {i : Nat} (h : i < m.length) : mrow m i = m[i] := by unfold mrow; rw [List.getD_eq_getElem?_getD, List.getElem?_eq_getElem h]; rfl
@[simp] theorem rrs_length (r : List RR) : (rrs r).length = r.length := by simp [rrs]
@[simp] theorem rrs_nil : rrs [] = [] := rfl
@[simp] theorem rrs_get? {r : List RR} {i : Nat} (h : i < r.length) : (rrs r)[i]? = some (rr r i).av := by simp [rrs, rr_eq h, h]
@[simp] theorem rrs_set (r : List RR) (i : Nat) (x : RR) : (rrs r).set i x.av = rrs (r.set i x) := by simp [rrs, List.map_set]
@[simp] theorem rav_cells (r : RR) : r.av.cells = [.bool r.n1, lim r.l1, .bool r.n2, lim r.l2] := (rfl)
@[simp] theorem rav_part (r : RR) : partAV true 4 [.bool r.n1, lim r.l1, .bool r.n2, lim r.l2] 0 = some r.av := (rfl)
@[simp] theorem rav_isAny (r : RR) : r.av.isAny = false := (rfl)
@[simp] theorem rav_any (r : RR) : (r.av = .any) = False := by simp [RR.av]
theorem rrs_ok (r : List RR) : ∀ v ∈ rrs r, v.cells.all AV.one = true := by
  intro v hv
  obtain ⟨x, _, rfl⟩ := List.mem_map.1 hv
  rfl
@[simp] theorem rrs_all (r : List RR) : (rrs r).all (fun v => v.cells.length == 4 && v.cells.all AV.one) = true := by
  rw [List.all_eq_true]
  intro v hv
  obtain ⟨x, _, rfl⟩ := List.mem_map.1 hv
  rfl
@[simp] theorem cells_row (r : List RR) : (rowAV r).cells = [rowAV r] := (rfl)
@[simp] theorem one_row (r : List RR) : (rowAV r).one = true := (rfl)
@[simp] theorem isAny_row (r : List RR) : (rowAV r).isAny = false := (rfl)
@[simp] theorem isAny_mat (m : List (List RR)) : (matAV m).isAny = false := (rfl)
@[simp] theorem one_mat (m : List (List RR)) : (matAV m).one = true := (rfl)
@[simp] theorem cells_mat (m : List (List RR)) : (matAV m).cells = [matAV m] := (rfl)
section
variable (size bytes : Nat) (e : TypeId) (zero : AV) (fs : List (Nat × Nat × Option Bool)) (k : IntKind) (n : Int)
@[simp] theorem lenAV_row (r : List RR) : lenAV ⟨size, bytes, .slice e, zero, fs⟩ (rowAV r) = some (.int .i64 r.length) := by simp [rowAV]
@[simp] theorem lenAV_mat (m : List (List RR)) : lenAV ⟨size, bytes, .slice e, zero, fs⟩ (matAV m) = some (.int .i64 m.length) := by simp [matAV]
@[simp] theorem elems_row (mm : Mem) (r : List RR) : elems mm 4 (rowAV r) = some (rrs r) := by simp [rowAV, elems]
@[simp] theorem indexAddr_row (P : Program) (r : List RR) : indexAddrAV P ⟨size, bytes, .slice e, zero, fs⟩ (rowAV r) (.int k n) = (tinfo P e).bind fun te => if 4 = te.size ∧ 0 ≤ n ∧ n < r.length then some (.rptr [.bool (rr r n.toNat).n1, lim (rr r n.toNat).l1, .bool (rr r n.toNat).n2, lim (rr r n.toNat).l2]) else none := by
  unfold rowAV
  rw [indexAddr_sl]
  congr 1
  funext te
  rw [rrs_length]
  by_cases h : 4 = te.size ∧ 0 ≤ n ∧ n < r.length
  · rw [if_pos h, if_pos h]
    have h1 : n.toNat < r.length := by omega
    rw [List.getD_eq_getElem?_getD, rrs_get? h1]
    rfl
  · rw [if_neg h, if_neg h]
@[simp] theorem indexAddr_mat (P : Program) (m : List (List RR)) : indexAddrAV P ⟨size, bytes, .slice e, zero, fs⟩ (matAV m) (.int k n) = (tinfo P e).bind fun te => if 1 = te.size ∧ 0 ≤ n ∧ n < m.length then some (.rptr [rowAV (mrow m n.toNat)]) else none := by
  unfold matAV
  rw [indexAddr_sl]
  congr 1
  funext te
  rw [List.length_map]
  by_cases h : 1 = te.size ∧ 0 ≤ n ∧ n < m.length
  · rw [if_pos h, if_pos h]
    have h1 : n.toNat < m.length := by omega
    rw [List.getD_eq_getElem?_getD, List.getElem?_map, List.getElem?_eq_getElem h1, mrow_eq h1]
    rfl
  · rw [if_neg h, if_neg h]
end
def LbM (m : List (List RR)) : Prop := ∀ r ∈ m, ∀ x ∈ r, x.Lb
theorem rr_lb {r : List RR} (h : ∀ x ∈ r, x.Lb) (i : Nat) : (rr r i).Lb := by
  unfold rr
  rw [List.getD_eq_getElem?_getD]
  cases hr : r[i]? with
  | none => exact ⟨fun x hx => (by cases hx), fun x hx => (by cases hx)⟩
  | some x => exact h x (List.mem_of_getElem? hr)
theorem LbM.row {m : List (List RR)} (h : LbM m) (i : Nat) : ∀ x ∈ mrow m i, x.Lb := by
  unfold mrow
  rw [List.getD_eq_getElem?_getD]
  cases hr : m[i]? with
  | none => intro x hx; cases hx
  | some r => exact h r (List.mem_of_getElem? hr)
/-- Has a matrix too many columns? Are all its rows of one length, with valid numbers? -/
def bigRow (m : List (List RR)) : Prop := ∃ k, k < m.length ∧ 64 < (mrow m k).length
def okRows (m : List (List RR)) : Prop := ∀ k, k < m.length → (mrow m k).length = (mrow m 0).length ∧ ∀ j, j < (mrow m k).length → (rr (mrow m k) j).ok = true
open Classical in
noncomputable def chk (m : List (List RR)) : Int := if 64 < m.length ∨ bigRow m then 2 else if okRows m then 0 else 1
theorem chk_big {m : List (List RR)} (h : 64 < m.length ∨ bigRow m) : chk m = 2 := if_pos h
theorem chk_ok {m : List (List RR)} (h : ¬ (64 < m.length ∨ bigRow m)) (h2 : okRows m) : chk m = 0 := by unfold chk; rw [if_neg h, if_pos h2]
theorem chk_bad {m : List (List RR)} (h : ¬ (64 < m.length ∨ bigRow m)) (h2 : ¬ okRows m) : chk m = 1 := by unfold chk; rw [if_neg h, if_neg h2]
theorem width_call (m : List (List RR)) : ACall Tryz.prog 53 [matAV m] Mem.emp fun v mm => v = .int .i64 ((mrow m 0).length : Nat) ∧ mm = Mem.emp := by
  refine acall_S Tryz.func53 rfl rfl 10 rfl (Nat.le_of_ble_eq_true rfl) ?_
  (repeat refine AW.seq_k fun K hK => ?_); refine AW.rg ?_; simp [argsL]; try (refine hK _ rfl ?_; clear hK; clear K)
  (repeat refine AW.seq_k fun K hK => ?_); refine AW.rg ?_; simp; try (refine hK _ rfl ?_; clear hK; clear K)
  (repeat refine AW.seq ?_)
  refine AW.cs (fun h => ?_) (fun h => ?_) rfl <;> (try simp at h)
  · subst h; (repeat refine AW.seq_k fun K hK => ?_); refine AW.rg ?_; simp; try (refine hK _ rfl ?_; clear hK; clear K)
    exact AW.ret (ret_emp rfl _ (.same _) ⟨by simp [mrow], rfl⟩)
  · refine AW.skip ?_; try simp
    refine hK _ rfl ?_; clear hK; clear K
    have h' : 0 < m.length := by
      rcases m with _ | _
      · simp at h
      · simp
    (repeat refine AW.seq_k fun K hK => ?_); refine AW.rg ?_; simp [h']; try (refine hK _ rfl ?_; clear hK; clear K)
    exact AW.ret (ret_emp rfl _ (.same _) ⟨by rfl, rfl⟩)
theorem columns_call (m : List (List RR)) : ACall Tryz.prog 48 [matAV m] Mem.emp fun v mm => v = .int .i64 ((mrow m 0).length : Nat) ∧ mm = Mem.emp := by
  refine acall_S Tryz.func48 rfl rfl 10 rfl (Nat.le_of_ble_eq_true rfl) ?_
  (repeat refine AW.seq_k fun K hK => ?_); refine AW.rg ?_; simp [argsL]; try (refine hK _ rfl ?_; clear hK; clear K)
  (repeat refine AW.seq_k fun K hK => ?_); refine AW.rg ?_; simp; try (refine hK _ rfl ?_; clear hK; clear K)
  (repeat refine AW.seq ?_)
  refine AW.cs (fun h => ?_) (fun h => ?_) rfl <;> (try simp at h)
  · subst h; (repeat refine AW.seq_k fun K hK => ?_); refine AW.rg ?_; simp; try (refine hK _ rfl ?_; clear hK; clear K)
    exact AW.ret (ret_emp rfl _ (.same _) ⟨by simp [mrow], rfl⟩)
  · refine AW.skip ?_; try simp
    refine hK _ rfl ?_; clear hK; clear K
    have h' : 0 < m.length := by
      rcases m with _ | _
      · simp at h
      · simp
    (repeat refine AW.seq_k fun K hK => ?_); refine AW.rg ?_; simp [h']; try (refine hK _ rfl ?_; clear hK; clear K)
    exact AW.ret (ret_emp rfl _ (.same _) ⟨by rfl, rfl⟩)
theorem check_call (m : List (List RR)) (hm : LbM m) : ACall Tryz.prog 19 [matAV m] Mem.emp fun v mm => v = .int .i64 (chk m) ∧ mm = Mem.emp := by
  refine acall_S Tryz.func19 rfl rfl 46 rfl (Nat.le_of_ble_eq_true rfl) ?_
  (repeat refine AW.seq_k fun K hK => ?_); refine AW.rg ?_; simp [argsL]; try (refine hK _ rfl ?_; clear hK; clear K)
  (repeat refine AW.seq_k fun K hK => ?_); refine AW.rg ?_; simp; try (refine hK _ rfl ?_; clear hK; clear K)
  (repeat refine AW.seq ?_)
  refine AW.cs (fun h64 => ?_) (fun h64 => ?_) rfl <;> (try simp at h64)
  · (repeat refine AW.seq_k fun K hK => ?_); refine AW.rg ?_; simp; try (refine hK _ rfl ?_; clear hK; clear K)
    exact AW.ret (ret_emp rfl _ (.same _) ⟨by rw [chk_big (.inl h64)]; rfl, rfl⟩)
  · refine AW.skip ?_; try simp
    refine hK _ rfl ?_; clear hK; clear K
    refine AW.seq_ex (ι := Unit) (fun _ => [(0, matAV m)]) (fun _ => Mem.emp) (fun _ => ¬ bigRow m) ?_ ?_
    · (repeat refine AW.seq_k fun K hK => ?_); refine AW.rg ?_; simp; try (refine hK _ rfl ?_; clear hK; clear K)
      refine AW.block (AW.loopS (ι := Nat) (fun i => [(0, matAV m), (12, matAV m), (13, .int .i64 (m.length : Nat)), (14, .int .i64 (i : Nat))]) (fun _ => Mem.emp)
        (fun i => i ≤ m.length ∧ ∀ k, k < i → ¬ 64 < (mrow m k).length) (fun i => m.length - i) 0 ⟨by simp, by simp⟩ rfl (by simp) ?_)
      rintro i ⟨h1, h2⟩
      (repeat refine AW.seq_k fun K hK => ?_); refine AW.rg ?_; simp; try (refine hK _ rfl ?_; clear hK; clear K)
      refine AW.seq_k fun K hK => ?_
      (repeat refine AW.seq ?_)
      refine AW.cs (fun hi => ?_) (fun hi => ?_) rfl <;> (try simp at hi)
      · refine AW.skip ?_; try simp
        refine hK _ rfl ?_; clear hK; clear K
        have w1 : IntKind.i64.wrap ((i + 1 : Nat) : Int) = ((i + 1 : Nat) : Int) := wi (by omega)
        refine AW.seq_ex (ι := Unit) (fun _ => [(0, matAV m), (12, matAV m), (13, .int .i64 (m.length : Nat)), (14, .int .i64 (i : Nat))]) (fun _ => Mem.emp) (fun _ => ¬ 64 < (mrow m i).length) ?_ ?_
        · (repeat refine AW.seq ?_); refine AW.block ?_; (repeat refine AW.seq_k fun K hK => ?_); refine AW.rg ?_; simp [hi]; try (refine hK _ rfl ?_; clear hK; clear K)
          (repeat refine AW.seq_k fun K hK => ?_); refine AW.rg ?_; simp; try (refine hK _ rfl ?_; clear hK; clear K)
          (repeat refine AW.seq ?_)
          refine AW.cs (fun h3 => ?_) (fun h3 => ?_) rfl <;> (try simp at h3)
          · (repeat refine AW.seq_k fun K hK => ?_); refine AW.rg ?_; simp; try (refine hK _ rfl ?_; clear hK; clear K)
            exact AW.ret (ret_emp rfl _ (.same _) ⟨by rw [chk_big (.inr ⟨i, hi, h3⟩)]; rfl, rfl⟩)
          · refine AW.skip ?_; try simp
            omega
        · rintro _ h3
          (repeat refine AW.seq_k fun K hK => ?_); refine AW.rg ?_; simp [-Int.natCast_add, w1]; try (refine hK _ rfl ?_; clear hK; clear K)
          refine ⟨⟨by omega, fun k hk => ?_⟩, by omega⟩
          rcases Nat.lt_succ_iff_lt_or_eq.1 hk with h | rfl
          · have := h2 k h; omega
          · omega
      · refine AW.exit ?_
        try simp
        rintro ⟨k, hk, h⟩
        exact h2 k (by omega) h
    rintro _ hbig
    have hnb : ¬ (64 < m.length ∨ bigRow m) := fun h => h.elim (by omega) hbig
    refine AW.seq_ex (ι := Unit) (fun _ => []) (fun _ => Mem.emp) (fun _ => okRows m) ?_ ?_
    · (repeat refine AW.seq_k fun K hK => ?_); refine AW.rg ?_; simp; try (refine hK _ rfl ?_; clear hK; clear K)
      refine AW.block (AW.loopS (ι := Nat) (fun i => [(0, matAV m), (22, matAV m), (23, .int .i64 (m.length : Nat)), (24, .int .i64 (i : Nat))]) (fun _ => Mem.emp)
        (fun i => i ≤ m.length ∧ ∀ k, k < i → (mrow m k).length = (mrow m 0).length ∧ ∀ j, j < (mrow m k).length → (rr (mrow m k) j).ok = true) (fun i => m.length - i) 0 ⟨by simp, by simp⟩ rfl (by simp) ?_)
      rintro i ⟨h1, h2⟩
      (repeat refine AW.seq_k fun K hK => ?_); refine AW.rg ?_; simp; try (refine hK _ rfl ?_; clear hK; clear K)
      refine AW.seq_k fun K hK => ?_
      (repeat refine AW.seq ?_)
      refine AW.cs (fun hi => ?_) (fun hi => ?_) rfl <;> (try simp at hi)
      · refine AW.skip ?_; try simp
        refine hK _ rfl ?_; clear hK; clear K
        have w1 : IntKind.i64.wrap ((i + 1 : Nat) : Int) = ((i + 1 : Nat) : Int) := wi (by omega)
        have h0 : 0 < m.length := by omega
        have hrow : (mrow m i).length ≤ 64 := by
          rcases Nat.lt_or_ge 64 (mrow m i).length with h | h
          · exact absurd ⟨i, hi, h⟩ hbig
          · exact h
        refine AW.seq_ex (ι := Unit) (fun _ => [(0, matAV m), (22, matAV m), (23, .int .i64 (m.length : Nat)), (24, .int .i64 (i : Nat))]) (fun _ => Mem.emp) (fun _ => (mrow m i).length = (mrow m 0).length ∧ ∀ j, j < (mrow m i).length → (rr (mrow m i) j).ok = true) ?_ ?_
        · (repeat refine AW.seq ?_); refine AW.block ?_; (repeat refine AW.seq_k fun K hK => ?_); refine AW.rg ?_; simp [hi]; try (refine hK _ rfl ?_; clear hK; clear K)
          refine AW.seq_ex (ι := Unit) (fun _ => [(0, matAV m), (22, matAV m), (23, .int .i64 (m.length : Nat)), (24, .int .i64 (i : Nat)), (6, rowAV (mrow m i))]) (fun _ => Mem.emp) (fun _ => (mrow m i).length = (mrow m 0).length) ?_ ?_
          · (repeat refine AW.seq_k fun K hK => ?_); refine AW.rg ?_; simp [h0]; try (refine hK _ rfl ?_; clear hK; clear K)
            (repeat refine AW.seq ?_)
            refine AW.cs (fun h4 => ?_) (fun h4 => ?_) rfl <;> (try simp at h4)
            · (repeat refine AW.seq_k fun K hK => ?_); refine AW.rg ?_; simp; try (refine hK _ rfl ?_; clear hK; clear K)
              exact AW.ret (ret_emp rfl _ (.same _) ⟨by rw [chk_bad hnb (fun h => h4 (h i hi).1)]; rfl, rfl⟩)
            · refine AW.skip ?_; try simp
              exact h4
          rintro _ h4
          (repeat refine AW.seq_k fun K hK => ?_); refine AW.rg ?_; simp; try (refine hK _ rfl ?_; clear hK; clear K)
          refine AW.block (AW.loopS (ι := Nat) (fun j => [(0, matAV m), (22, matAV m), (23, .int .i64 (m.length : Nat)), (24, .int .i64 (i : Nat)), (6, rowAV (mrow m i)), (35, rowAV (mrow m i)), (36, .int .i64 ((mrow m i).length : Nat)), (37, .int .i64 (j : Nat))]) (fun _ => Mem.emp)
            (fun j => j ≤ (mrow m i).length ∧ ∀ k, k < j → (rr (mrow m i) k).ok = true) (fun j => (mrow m i).length - j) 0 ⟨by simp, by simp⟩ rfl (by simp) ?_)
          rintro j ⟨g1, g2⟩
          (repeat refine AW.seq_k fun K hK => ?_); refine AW.rg ?_; simp; try (refine hK _ rfl ?_; clear hK; clear K)
          refine AW.seq_k fun K hK => ?_
          (repeat refine AW.seq ?_)
          refine AW.cs (fun hj => ?_) (fun hj => ?_) rfl <;> (try simp at hj)
          · refine AW.skip ?_; try simp
            refine hK _ rfl ?_; clear hK; clear K
            have w2 : IntKind.i64.wrap ((j + 1 : Nat) : Int) = ((j + 1 : Nat) : Int) := wi (by omega)
            have hv := rvalid_call (rr (mrow m i) j) (rr_lb (hm.row i) j)
            refine AW.seq_ex (ι := Unit) (fun _ => [(0, matAV m), (22, matAV m), (23, .int .i64 (m.length : Nat)), (24, .int .i64 (i : Nat)), (6, rowAV (mrow m i)), (35, rowAV (mrow m i)), (36, .int .i64 ((mrow m i).length : Nat)), (37, .int .i64 (j : Nat))]) (fun _ => Mem.emp) (fun _ => (rr (mrow m i) j).ok = true) ?_ ?_
            · (repeat refine AW.seq ?_); refine AW.block ?_; (repeat refine AW.seq_k fun K hK => ?_); refine AW.rg ?_; simp [hj]; try (refine hK _ rfl ?_; clear hK; clear K)
              refine Fresh.intro fun b8 _ => ?_
              try simp
              refine hK _ rfl ?_; clear hK; clear K; (repeat refine AW.seq_k fun K hK => ?_); refine AW.rg ?_; simp; try (refine hK _ rfl ?_; clear hK; clear K)
              refine CallK.val hv ?_; simp; refine hK _ rfl ?_; clear hK; clear K
              refine AW.toEmp [(0, matAV m), (22, matAV m), (23, .int .i64 (m.length : Nat)), (24, .int .i64 (i : Nat)), (6, rowAV (mrow m i)), (35, rowAV (mrow m i)), (36, .int .i64 ((mrow m i).length : Nat)), (37, .int .i64 (j : Nat)), (43, .bool (!(rr (mrow m i) j).ok))] (by simp) ?_
              by_cases h5 : (rr (mrow m i) j).ok = true
              · refine AW.no ?_ (by simp [h5])
                exact AW.skip ⟨(), h5, rfl, rfl, by simp⟩
              · refine AW.yes ?_ (by simp [h5])
                (repeat refine AW.seq_k fun K hK => ?_); refine AW.rg ?_; simp; try (refine hK _ rfl ?_; clear hK; clear K)
                exact AW.ret (ret_emp rfl _ (.same _) ⟨by rw [chk_bad hnb (fun h => h5 ((h i hi).2 j hj))]; rfl, rfl⟩)
            · rintro _ h5
              (repeat refine AW.seq_k fun K hK => ?_); refine AW.rg ?_; simp [-Int.natCast_add, w2]; try (refine hK _ rfl ?_; clear hK; clear K)
              refine ⟨⟨by omega, fun k hk => ?_⟩, by omega⟩
              rcases Nat.lt_succ_iff_lt_or_eq.1 hk with h | rfl
              · exact g2 k h
              · exact h5
          · refine AW.exit ?_
            try simp
            exact ⟨h4, fun k hk => g2 k (by omega)⟩
        · rintro _ h3
          (repeat refine AW.seq_k fun K hK => ?_); refine AW.rg ?_; simp [-Int.natCast_add, w1]; try (refine hK _ rfl ?_; clear hK; clear K)
          refine ⟨⟨by omega, fun k hk => ?_⟩, by omega⟩
          rcases Nat.lt_succ_iff_lt_or_eq.1 hk with h | rfl
          · exact h2 k h
          · exact h3
      · refine AW.exit ?_
        try simp
        exact fun k hk => h2 k (by omega)
    rintro _ hok
    (repeat refine AW.seq_k fun K hK => ?_); refine AW.rg ?_; simp; try (refine hK _ rfl ?_; clear hK; clear K)
    exact AW.ret (ret_emp rfl _ (.same _) ⟨by rw [chk_ok hnb hok]; rfl, rfl⟩)
end Go.Av
end
section
namespace Go.Av
open Go.Proofs
theorem check2_call (m : List (List RR)) (hm : LbM m) : ACall Tryz.prog 20 [matAV m] Mem.emp fun v mm => v = .int .i64 (chk m) ∧ mm = Mem.emp := by
  refine acall_S Tryz.func20 rfl rfl 55 rfl (Nat.le_of_ble_eq_true rfl) ?_
  (repeat refine AW.seq_k fun K hK => ?_); refine AW.rg ?_; simp [argsL]; try (refine hK _ rfl ?_; clear hK; clear K)
  (repeat refine AW.seq_k fun K hK => ?_); refine AW.rg ?_; simp; try (refine hK _ rfl ?_; clear hK; clear K)
  (repeat refine AW.seq ?_)
  refine AW.cs (fun h64 => ?_) (fun h64 => ?_) rfl <;> (try simp at h64)
  · (repeat refine AW.seq_k fun K hK => ?_); refine AW.rg ?_; simp; try (refine hK _ rfl ?_; clear hK; clear K)
    exact AW.ret (ret_emp rfl _ (.same _) ⟨by rw [chk_big (.inl h64)]; rfl, rfl⟩)
  · refine AW.skip ?_; try simp
    refine hK _ rfl ?_; clear hK; clear K
    refine AW.seq_ex (ι := Unit) (fun _ => [(0, matAV m)]) (fun _ => Mem.emp) (fun _ => ¬ bigRow m) ?_ ?_
    · (repeat refine AW.seq_k fun K hK => ?_); refine AW.rg ?_; simp; try (refine hK _ rfl ?_; clear hK; clear K)
      refine AW.block (AW.loopS (ι := Nat) (fun i => [(0, matAV m), (3, .int .i64 (i : Nat))]) (fun _ => Mem.emp)
        (fun i => i ≤ m.length ∧ ∀ k, k < i → ¬ 64 < (mrow m k).length) (fun i => m.length - i) 0 ⟨by simp, by simp⟩ rfl (by simp) ?_)
      rintro i ⟨h1, h2⟩
      refine AW.seq_ex (ι := Unit) (fun _ => [(0, matAV m), (3, .int .i64 (i : Nat))]) (fun _ => Mem.emp) (fun _ => i < m.length) ?_ ?_
      · (repeat refine AW.seq_k fun K hK => ?_); refine AW.rg ?_; simp; try (refine hK _ rfl ?_; clear hK; clear K)
        (repeat refine AW.seq ?_)
        refine AW.cs (fun hi => ?_) (fun hi => ?_) rfl <;> (try simp at hi)
        · refine AW.skip ?_; try simp
          exact hi
        · refine AW.exit ?_
          try simp
          rintro ⟨k, hk, h⟩
          exact h2 k (by omega) h
      rintro _ hi
      have w1 : IntKind.i64.wrap ((i + 1 : Nat) : Int) = ((i + 1 : Nat) : Int) := wi (by omega)
      refine AW.seq_ex (ι := Unit) (fun _ => [(0, matAV m), (3, .int .i64 (i : Nat))]) (fun _ => Mem.emp) (fun _ => ¬ 64 < (mrow m i).length) ?_ ?_
      · (repeat refine AW.seq ?_); refine AW.block ?_; (repeat refine AW.seq_k fun K hK => ?_); refine AW.rg ?_; simp [hi]; try (refine hK _ rfl ?_; clear hK; clear K)
        (repeat refine AW.seq ?_)
        refine AW.cs (fun h3 => ?_) (fun h3 => ?_) rfl <;> (try simp at h3)
        · (repeat refine AW.seq_k fun K hK => ?_); refine AW.rg ?_; simp; try (refine hK _ rfl ?_; clear hK; clear K)
          exact AW.ret (ret_emp rfl _ (.same _) ⟨by rw [chk_big (.inr ⟨i, hi, h3⟩)]; rfl, rfl⟩)
        · refine AW.skip ?_; try simp
          omega
      · rintro _ h3
        (repeat refine AW.seq_k fun K hK => ?_); refine AW.rg ?_; simp [-Int.natCast_add, w1]; try (refine hK _ rfl ?_; clear hK; clear K)
        refine ⟨⟨by omega, fun k hk => ?_⟩, by omega⟩
        rcases Nat.lt_succ_iff_lt_or_eq.1 hk with h | rfl
        · have := h2 k h; omega
        · omega
    rintro _ hbig
    have hnb : ¬ (64 < m.length ∨ bigRow m) := fun h => h.elim (by omega) hbig
    refine AW.seq_ex (ι := Unit) (fun _ => []) (fun _ => Mem.emp) (fun _ => okRows m) ?_ ?_
    · (repeat refine AW.seq_k fun K hK => ?_); refine AW.rg ?_; simp; try (refine hK _ rfl ?_; clear hK; clear K)
      refine AW.block (AW.loopS (ι := Nat) (fun i => [(0, matAV m), (4, .int .i64 (i : Nat))]) (fun _ => Mem.emp)
        (fun i => i ≤ m.length ∧ ∀ k, k < i → (mrow m k).length = (mrow m 0).length ∧ ∀ j, j < (mrow m k).length → (rr (mrow m k) j).ok = true) (fun i => m.length - i) 0 ⟨by simp, by simp⟩ rfl (by simp) ?_)
      rintro i ⟨h1, h2⟩
      refine AW.seq_ex (ι := Unit) (fun _ => [(0, matAV m), (4, .int .i64 (i : Nat))]) (fun _ => Mem.emp) (fun _ => i < m.length) ?_ ?_
      · (repeat refine AW.seq_k fun K hK => ?_); refine AW.rg ?_; simp; try (refine hK _ rfl ?_; clear hK; clear K)
        (repeat refine AW.seq ?_)
        refine AW.cs (fun hi => ?_) (fun hi => ?_) rfl <;> (try simp at hi)
        · refine AW.skip ?_; try simp
          exact hi
        · refine AW.exit ?_
          try simp
          exact fun k hk => h2 k (by omega)
      rintro _ hi
      have w1 : IntKind.i64.wrap ((i + 1 : Nat) : Int) = ((i + 1 : Nat) : Int) := wi (by omega)
      have h0 : 0 < m.length := by omega
      have hrow : (mrow m i).length ≤ 64 := by
        rcases Nat.lt_or_ge 64 (mrow m i).length with h | h
        · exact absurd ⟨i, hi, h⟩ hbig
        · exact h
      refine AW.seq_ex (ι := Unit) (fun _ => [(0, matAV m), (4, .int .i64 (i : Nat))]) (fun _ => Mem.emp) (fun _ => (mrow m i).length = (mrow m 0).length ∧ ∀ j, j < (mrow m i).length → (rr (mrow m i) j).ok = true) ?_ ?_
      · (repeat refine AW.seq ?_); refine AW.block ?_
        refine AW.seq_ex (ι := Unit) (fun _ => [(0, matAV m), (4, .int .i64 (i : Nat))]) (fun _ => Mem.emp) (fun _ => (mrow m i).length = (mrow m 0).length) ?_ ?_
        · (repeat refine AW.seq_k fun K hK => ?_)
          refine AW.rd [0, 1, 2, 3, 4, 5, 6, 7, 8, 9] mix ?_
          simp [h0, hi]; try (refine hK _ rfl ?_; clear hK; clear K)
          (repeat refine AW.seq ?_)
          refine AW.cs (fun h4 => ?_) (fun h4 => ?_) rfl <;> (try simp at h4)
          · (repeat refine AW.seq_k fun K hK => ?_); refine AW.rg ?_; simp; try (refine hK _ rfl ?_; clear hK; clear K)
            exact AW.ret (ret_emp rfl _ (.same _) ⟨by rw [chk_bad hnb (fun h => h4 (h i hi).1)]; rfl, rfl⟩)
          · refine AW.skip ?_; try simp
            exact h4
        rintro _ h4
        (repeat refine AW.seq_k fun K hK => ?_); refine AW.rg ?_; simp; try (refine hK _ rfl ?_; clear hK; clear K)
        refine AW.block (AW.loopS (ι := Nat) (fun j => [(0, matAV m), (4, .int .i64 (i : Nat)), (5, .int .i64 (j : Nat))]) (fun _ => Mem.emp)
          (fun j => j ≤ (mrow m i).length ∧ ∀ k, k < j → (rr (mrow m i) k).ok = true) (fun j => (mrow m i).length - j) 0 ⟨by simp, by simp⟩ rfl (by simp) ?_)
        rintro j ⟨g1, g2⟩
        refine AW.seq_ex (ι := Unit) (fun _ => [(0, matAV m), (4, .int .i64 (i : Nat)), (5, .int .i64 (j : Nat))]) (fun _ => Mem.emp) (fun _ => j < (mrow m i).length) ?_ ?_
        · (repeat refine AW.seq_k fun K hK => ?_); refine AW.rg ?_; simp [hi]; try (refine hK _ rfl ?_; clear hK; clear K)
          (repeat refine AW.seq ?_)
          refine AW.cs (fun hj => ?_) (fun hj => ?_) rfl <;> (try simp at hj)
          · refine AW.skip ?_; try simp
            exact hj
          · refine AW.exit ?_
            try simp
            exact ⟨h4, fun k hk => g2 k (by omega)⟩
        rintro _ hj
        have w2 : IntKind.i64.wrap ((j + 1 : Nat) : Int) = ((j + 1 : Nat) : Int) := wi (by omega)
        have hv : ACall Tryz.prog 52 [(rr (mrow m i) j).av] Mem.emp fun v mm => v = .bool (rr (mrow m i) j).ok ∧ mm = Mem.emp := valid2_call _ _ _ _ (rr_lb (hm.row i) j).1 (rr_lb (hm.row i) j).2
        refine AW.seq_ex (ι := Unit) (fun _ => [(0, matAV m), (4, .int .i64 (i : Nat)), (5, .int .i64 (j : Nat))]) (fun _ => Mem.emp) (fun _ => (rr (mrow m i) j).ok = true) ?_ ?_
        · (repeat refine AW.seq ?_); refine AW.block ?_; (repeat refine AW.seq_k fun K hK => ?_); refine AW.rg ?_; simp [hi, hj]; try (refine hK _ rfl ?_; clear hK; clear K)
          refine CallK.val hv ?_; simp; refine hK _ rfl ?_; clear hK; clear K
          by_cases h5 : (rr (mrow m i) j).ok = true
          · refine AW.no ?_ (by simp [h5])
            exact AW.skip ⟨(), h5, rfl, rfl, by simp⟩
          · refine AW.yes ?_ (by simp [h5])
            (repeat refine AW.seq_k fun K hK => ?_); refine AW.rg ?_; simp; try (refine hK _ rfl ?_; clear hK; clear K)
            exact AW.ret (ret_emp rfl _ (.same _) ⟨by rw [chk_bad hnb (fun h => h5 ((h i hi).2 j hj))]; rfl, rfl⟩)
        · rintro _ h5
          (repeat refine AW.seq_k fun K hK => ?_); refine AW.rg ?_; simp [-Int.natCast_add, w2]; try (refine hK _ rfl ?_; clear hK; clear K)
          refine ⟨⟨by omega, fun k hk => ?_⟩, by omega⟩
          rcases Nat.lt_succ_iff_lt_or_eq.1 hk with h | rfl
          · exact g2 k h
          · exact h5
      · rintro _ h3
        (repeat refine AW.seq_k fun K hK => ?_); refine AW.rg ?_; simp [-Int.natCast_add, w1]; try (refine hK _ rfl ?_; clear hK; clear K)
        refine ⟨⟨by omega, fun k hk => ?_⟩, by omega⟩
        rcases Nat.lt_succ_iff_lt_or_eq.1 hk with h | rfl
        · exact h2 k h
        · exact h3
    rintro _ hok
    (repeat refine AW.seq_k fun K hK => ?_); refine AW.rg ?_; simp; try (refine hK _ rfl ?_; clear hK; clear K)
    exact AW.ret (ret_emp rfl _ (.same _) ⟨by rw [chk_ok hnb hok]; rfl, rfl⟩)
open Classical in
noncomputable def isLarge (m : List (List RR)) : Bool := decide (chk m = 0 ∧ (10 < m.length ∨ 0 < m.length ∧ 10 < (mrow m 0).length))
theorem large_call (m : List (List RR)) (hm : LbM m) : ACall Tryz.prog 15 [matAV m] Mem.emp fun v mm => v = .bool (isLarge m) ∧ mm = Mem.emp := by
  have hc := check2_call m hm
  unfold isLarge
  generalize chk m = c at *
  refine acall_S Tryz.func15 rfl rfl 23 rfl (Nat.le_of_ble_eq_true rfl) ?_
  (repeat refine AW.seq_k fun K hK => ?_); refine AW.rg ?_; simp [argsL]; try (refine hK _ rfl ?_; clear hK; clear K)
  by_cases h1 : c = 0
  · subst h1
    by_cases h2 : 10 < m.length
    · (repeat refine AW.seq_k fun K hK => ?_); refine AW.rg ?_; simp; try (refine hK _ rfl ?_; clear hK; clear K)
      refine CallK.val hc ?_; simp [h2]; refine hK _ rfl ?_; clear hK; clear K
      exact AW.ret (ret_emp rfl _ (.same _) ⟨by simp [h2], rfl⟩)
    · by_cases h3 : 0 < m.length
      · (repeat refine AW.seq_k fun K hK => ?_); refine AW.rg ?_; simp; try (refine hK _ rfl ?_; clear hK; clear K)
        refine CallK.val hc ?_; simp [h2, h3]; refine hK _ rfl ?_; clear hK; clear K
        exact AW.ret (ret_emp rfl _ (.same _) ⟨by simp [h2, h3], rfl⟩)
      · (repeat refine AW.seq_k fun K hK => ?_); refine AW.rg ?_; simp; try (refine hK _ rfl ?_; clear hK; clear K)
        refine CallK.val hc ?_; simp [h2, h3]; refine hK _ rfl ?_; clear hK; clear K
        exact AW.ret (ret_emp rfl _ (.same _) ⟨by simp [h2, h3], rfl⟩)
  · (repeat refine AW.seq_k fun K hK => ?_); refine AW.rg ?_; simp; try (refine hK _ rfl ?_; clear hK; clear K)
    refine CallK.val hc ?_; simp [h1]; refine hK _ rfl ?_; clear hK; clear K
    exact AW.ret (ret_emp rfl _ (.same _) ⟨by simp [h1], rfl⟩)
end Go.Av
end
section
namespace Go.Av
open Go.Proofs
@[simp] theorem nilCheck_ptr (b z i j : Nat) : nilCheckAV (.ptr b z i j) = some (.ptr b z i j) := (rfl)
@[simp] theorem nilCheck_rptr (l : List AV) : nilCheckAV (.rptr l) = some (.rptr l) := (rfl)
/-- The number that stands there. -/
def RR.q (r : RR) : Rat := mkRat (if r.n1 = true then -(val r.l1 : Int) else val r.l1) (val r.l2)
theorem ofQ_q (q : Rat) : (ofQ q).q = q := by
  unfold RR.q ofQ
  simp only [val_dig, decide_eq_true_eq]
  have : (if q.num < 0 then -(q.num.natAbs : Int) else (q.num.natAbs : Int)) = q.num := by split <;> omega
  rw [this, Rat.mkRat_self]
theorem ok_good {r : RR} (hl : r.Lb) (h : r.ok = true) : Good r.q ∧ r = ofQ r.q := by
  obtain ⟨q, h1, h2⟩ := ok_ofQ hl h
  subst h2
  rw [ofQ_q]; exact ⟨h1, rfl⟩
theorem ok_av {r : RR} (hl : r.Lb) (h : r.ok = true) : r.av = qAV r.q := by
  have := (ok_good hl h).2
  calc r.av = (ofQ r.q).av := by rw [← this]
    _ = qAV r.q := rfl
def badR : RR := ⟨false, [], false, []⟩
theorem badR_av : badR.av = zeroRat := rfl
theorem badR_lb : badR.Lb := ⟨fun x hx => (by cases hx), fun x hx => (by cases hx)⟩
/-- What an operation leaves: the error and the number. -/
def nOut (e : Int) (a : RR) (q : Option Rat) : Int × RR := if e = 0 then (match q with | some q => (0, ofQ q) | none => (2, badR)) else (e, a)
theorem nOut_lb {e : Int} {a : RR} {q : Option Rat} (h : a.Lb) : (nOut e a q).2.Lb := by
  unfold nOut
  split
  · cases q with
    | none => exact badR_lb
    | some q => exact ofQ_lb q
  · exact h
def numB (c : Nat) (x : AV) : Mem := Mem.emp.set c ⟨61, 1, [x]⟩
def isE (x : AV) (e : Int) : Prop := x.cells = [.int .i64 e]
theorem nkeep_call (c : Nat) (x : AV) (e f : Int) (hx : isE x e) (r : RR) : ACall Tryz.prog 92 [.ptr c 1 0 0, r.av, .int .i64 f] (numB c x) fun v m => v = r.av ∧ ∃ x', isE x' (if e = 0 then f else e) ∧ m = numB c x' := by
  unfold isE at hx
  unfold RR.av numB
  refine acall_S Tryz.func92 rfl rfl 17 rfl (Nat.le_of_ble_eq_true rfl) ?_
  (repeat refine AW.seq_k fun K hK => ?_)
  refine AW.rgR [4] ?_
  simp [argsL]; try (refine hK _ rfl ?_; clear hK; clear K)
  refine Fresh.intro fun b6 hb6 => ?_
  simp only [set_none2, emp_at, and_true] at hb6
  refine hK _ rfl ?_; clear hK; clear K
  refine AW.seq_ex (ι := AV) (fun x' => [(0, .ptr c 1 0 0), (4, .rptr [.bool r.n1, lim r.l1, .bool r.n2, lim r.l2]), (6, .ptr b6 4 0 0)]) (fun x' => (Mem.emp.set c ⟨61, 1, [x']⟩).set b6 ⟨36, 4, [.agg [.bool false, .nil, .bool false, .nil]]⟩) (fun x' => isE x' (if e = 0 then f else e)) ?_ ?_
  · (repeat refine AW.seq_k fun K hK => ?_); refine AW.rg ?_; simp [hb6, hx]; try (refine hK _ rfl ?_; clear hK; clear K)
    (repeat refine AW.seq ?_)
    refine AW.cs (fun he => ?_) (fun he => ?_) rfl <;> (try simp at he)
    · (repeat refine AW.seq_k fun K hK => ?_); refine AW.rg ?_; simp [hb6, hx]; try (refine hK _ rfl ?_; clear hK; clear K)
      refine ⟨.int .i64 f, by simp [isE, he], ?_⟩
      rw [set2_fst _ hb6.2]
    · refine AW.skip ⟨x, ?_, rfl, rfl, by simp⟩
      simp [isE, he]; exact hx
  rintro x' hx'
  (repeat refine AW.seq_k fun K hK => ?_); refine AW.rg ?_; simp [hb6]; try (refine hK _ rfl ?_; clear hK; clear K)
  refine AW.ret (ret_keep (vs := [.agg [.bool r.n1, lim r.l1, .bool r.n2, lim r.l2]]) [.agg [.bool r.n1, lim r.l1, .bool r.n2, lim r.l2]] c ⟨61, 1, [x']⟩ (by simp [hb6]) (by simp [hb6]) ?_ (viewsL_same _ _ _) ⟨rfl, x', hx', rfl⟩)
  intro v hv
  simp at hv
  subst hv
  unfold isE at hx'
  rw [hx']; rfl
theorem nadd_call (c : Nat) (x : AV) (e : Int) (hx : isE x e) (a b : RR) (ha : a.Lb) (hb : b.Lb) (h : e = 0 → a.ok = true ∧ b.ok = true) : ACall Tryz.prog 75 [.ptr c 1 0 0, a.av, b.av] (numB c x) fun v m => v = (nOut e a (addQ a.q b.q)).2.av ∧ ∃ x', isE x' (nOut e a (addQ a.q b.q)).1 ∧ m = numB c x' := by
  have hone : ∀ x' e', isE x' e' → ∀ v ∈ (⟨61, 1, [x']⟩ : Blk).l, v.cells.all AV.one = true := by
    intro x' e' hx' v hv
    simp at hv
    subst hv
    unfold isE at hx'
    rw [hx']; rfl
  have hone := hone
  have hx0 := hx
  unfold isE at hx
  by_cases he : e = 0
  · obtain ⟨o1, o2⟩ := h he
    obtain ⟨g1, e1⟩ := ok_good ha o1
    obtain ⟨g2, e2⟩ := ok_good hb o2
    have hr := radd_call a.q b.q g1 g2
    rw [← ok_av ha o1, ← ok_av hb o2] at hr
    have hk := nkeep_call c x e
    subst he
    generalize addQ a.q b.q = q at *
    unfold numB at hk ⊢
    unfold RR.av at hr ⊢
    refine acall_S Tryz.func75 rfl rfl 20 rfl (Nat.le_of_ble_eq_true rfl) ?_
    (repeat refine AW.seq_k fun K hK => ?_)
    refine AW.rgR [4,5] ?_
    simp [argsL]; try (refine hK _ rfl ?_; clear hK; clear K)
    refine Fresh.intro fun b6 hb6 => ?_
    simp only [set_none2, emp_at, and_true] at hb6
    refine hK _ rfl ?_; clear hK; clear K; (repeat refine AW.seq_k fun K hK => ?_); refine AW.rg ?_; simp [hb6, hx]; try (refine hK _ rfl ?_; clear hK; clear K)
    refine AW.no ?_ rfl; refine AW.skip ?_; try simp
    refine hK _ rfl ?_; clear hK; clear K
    cases q with
    | none =>
      (repeat refine AW.seq_k fun K hK => ?_); refine AW.rg ?_; simp [hb6]; try (refine hK _ rfl ?_; clear hK; clear K)
      refine CallK.val hr ?_; simp [resQ, zeroRat]
      have hk2 := hk 2 hx0 badR
      refine CallK.grant (R := fun v y => v = badR.av ∧ ∃ x', isE x' 2 ∧ y = ⟨61, 1, [x']⟩) c ⟨61, 1, [x]⟩ (by simp [hb6]) (by simp) (hk2.mono fun v m ⟨h1, x', h2, h3⟩ => ⟨_, ⟨h1, x', h2, rfl⟩, h3⟩) ?_
      rintro _ _ ⟨rfl, x', hx', rfl⟩
      simp [hb6, badR_av, zeroRat]; refine hK _ rfl ?_; clear hK; clear K
      refine AW.ret (ret_keep (vs := [zeroRat]) [zeroRat] c ⟨61, 1, [x']⟩ (by simp [hb6, zeroRat]) (by simp [hb6]) (hone x' 2 hx') (viewsL_same _ _ _) ⟨rfl, x', hx', rfl⟩)
    | some q =>
      (repeat refine AW.seq_k fun K hK => ?_); refine AW.rg ?_; simp [hb6]; try (refine hK _ rfl ?_; clear hK; clear K)
      refine CallK.val hr ?_; simp [resQ]
      have hk2 := hk 0 hx0 (ofQ q)
      refine CallK.grant (R := fun v y => v = (ofQ q).av ∧ ∃ x', isE x' 0 ∧ y = ⟨61, 1, [x']⟩) c ⟨61, 1, [x]⟩ (by simp [hb6]) (by simp) (hk2.mono fun v m ⟨h1, x', h2, h3⟩ => ⟨_, ⟨h1, x', h2, rfl⟩, h3⟩) ?_
      rintro _ _ ⟨rfl, x', hx', rfl⟩
      simp [hb6]; refine hK _ rfl ?_; clear hK; clear K
      refine AW.ret (ret_keep (vs := [(ofQ q).av]) [(ofQ q).av] c ⟨61, 1, [x']⟩ (by simp [hb6, RR.av]) (by simp [hb6]) (hone x' 0 hx') (viewsL_same _ _ _) ⟨rfl, x', hx', rfl⟩)
  · have e3 : nOut e a (addQ a.q b.q) = (e, a) := if_neg he
    rw [e3]
    unfold numB
    unfold RR.av
    refine acall_S Tryz.func75 rfl rfl 20 rfl (Nat.le_of_ble_eq_true rfl) ?_
    (repeat refine AW.seq_k fun K hK => ?_)
    refine AW.rgR [4,5] ?_
    simp [argsL]; try (refine hK _ rfl ?_; clear hK; clear K)
    refine Fresh.intro fun b6 hb6 => ?_
    simp only [set_none2, emp_at, and_true] at hb6
    refine hK _ rfl ?_; clear hK; clear K; (repeat refine AW.seq_k fun K hK => ?_); refine AW.rg ?_; simp [hb6, hx]; try (refine hK _ rfl ?_; clear hK; clear K)
    refine AW.yes ?_ (by simp [he])
    (repeat refine AW.seq_k fun K hK => ?_); refine AW.rg ?_; simp [hb6]; try (refine hK _ rfl ?_; clear hK; clear K)
    refine AW.ret (ret_keep (vs := [.agg [.bool a.n1, lim a.l1, .bool a.n2, lim a.l2]]) [.agg [.bool a.n1, lim a.l1, .bool a.n2, lim a.l2]] c ⟨61, 1, [x]⟩ (by simp [hb6]) (by simp [hb6]) (hone x e hx0) (viewsL_same _ _ _) ⟨rfl, x, hx0, rfl⟩)
theorem nsub_call (c : Nat) (x : AV) (e : Int) (hx : isE x e) (a b : RR) (ha : a.Lb) (hb : b.Lb) (h : e = 0 → a.ok = true ∧ b.ok = true) : ACall Tryz.prog 56 [.ptr c 1 0 0, a.av, b.av] (numB c x) fun v m => v = (nOut e a (subQ a.q b.q)).2.av ∧ ∃ x', isE x' (nOut e a (subQ a.q b.q)).1 ∧ m = numB c x' := by
  have hone : ∀ x' e', isE x' e' → ∀ v ∈ (⟨61, 1, [x']⟩ : Blk).l, v.cells.all AV.one = true := by
    intro x' e' hx' v hv
    simp at hv
    subst hv
    unfold isE at hx'
    rw [hx']; rfl
  have hone := hone
  have hx0 := hx
  unfold isE at hx
  by_cases he : e = 0
  · obtain ⟨o1, o2⟩ := h he
    obtain ⟨g1, e1⟩ := ok_good ha o1
    obtain ⟨g2, e2⟩ := ok_good hb o2
    have hr := rsub_call a.q b.q g1 g2
    rw [← ok_av ha o1, ← ok_av hb o2] at hr
    have hk := nkeep_call c x e
    subst he
    generalize subQ a.q b.q = q at *
    unfold numB at hk ⊢
    unfold RR.av at hr ⊢
    refine acall_S Tryz.func56 rfl rfl 20 rfl (Nat.le_of_ble_eq_true rfl) ?_
    (repeat refine AW.seq_k fun K hK => ?_)
    refine AW.rgR [4,5] ?_
    simp [argsL]; try (refine hK _ rfl ?_; clear hK; clear K)
    refine Fresh.intro fun b6 hb6 => ?_
    simp only [set_none2, emp_at, and_true] at hb6
    refine hK _ rfl ?_; clear hK; clear K; (repeat refine AW.seq_k fun K hK => ?_); refine AW.rg ?_; simp [hb6, hx]; try (refine hK _ rfl ?_; clear hK; clear K)
    refine AW.no ?_ rfl; refine AW.skip ?_; try simp
    refine hK _ rfl ?_; clear hK; clear K
    cases q with
    | none =>
      (repeat refine AW.seq_k fun K hK => ?_); refine AW.rg ?_; simp [hb6]; try (refine hK _ rfl ?_; clear hK; clear K)
      refine CallK.val hr ?_; simp [resQ, zeroRat]
      have hk2 := hk 2 hx0 badR
      refine CallK.grant (R := fun v y => v = badR.av ∧ ∃ x', isE x' 2 ∧ y = ⟨61, 1, [x']⟩) c ⟨61, 1, [x]⟩ (by simp [hb6]) (by simp) (hk2.mono fun v m ⟨h1, x', h2, h3⟩ => ⟨_, ⟨h1, x', h2, rfl⟩, h3⟩) ?_
      rintro _ _ ⟨rfl, x', hx', rfl⟩
      simp [hb6, badR_av, zeroRat]; refine hK _ rfl ?_; clear hK; clear K
      refine AW.ret (ret_keep (vs := [zeroRat]) [zeroRat] c ⟨61, 1, [x']⟩ (by simp [hb6, zeroRat]) (by simp [hb6]) (hone x' 2 hx') (viewsL_same _ _ _) ⟨rfl, x', hx', rfl⟩)
    | some q =>
      (repeat refine AW.seq_k fun K hK => ?_); refine AW.rg ?_; simp [hb6]; try (refine hK _ rfl ?_; clear hK; clear K)
      refine CallK.val hr ?_; simp [resQ]
      have hk2 := hk 0 hx0 (ofQ q)
      refine CallK.grant (R := fun v y => v = (ofQ q).av ∧ ∃ x', isE x' 0 ∧ y = ⟨61, 1, [x']⟩) c ⟨61, 1, [x]⟩ (by simp [hb6]) (by simp) (hk2.mono fun v m ⟨h1, x', h2, h3⟩ => ⟨_, ⟨h1, x', h2, rfl⟩, h3⟩) ?_
      rintro _ _ ⟨rfl, x', hx', rfl⟩
      simp [hb6]; refine hK _ rfl ?_; clear hK; clear K
      refine AW.ret (ret_keep (vs := [(ofQ q).av]) [(ofQ q).av] c ⟨61, 1, [x']⟩ (by simp [hb6, RR.av]) (by simp [hb6]) (hone x' 0 hx') (viewsL_same _ _ _) ⟨rfl, x', hx', rfl⟩)
  · have e3 : nOut e a (subQ a.q b.q) = (e, a) := if_neg he
    rw [e3]
    unfold numB
    unfold RR.av
    refine acall_S Tryz.func56 rfl rfl 20 rfl (Nat.le_of_ble_eq_true rfl) ?_
    (repeat refine AW.seq_k fun K hK => ?_)
    refine AW.rgR [4,5] ?_
    simp [argsL]; try (refine hK _ rfl ?_; clear hK; clear K)
    refine Fresh.intro fun b6 hb6 => ?_
    simp only [set_none2, emp_at, and_true] at hb6
    refine hK _ rfl ?_; clear hK; clear K; (repeat refine AW.seq_k fun K hK => ?_); refine AW.rg ?_; simp [hb6, hx]; try (refine hK _ rfl ?_; clear hK; clear K)
    refine AW.yes ?_ (by simp [he])
    (repeat refine AW.seq_k fun K hK => ?_); refine AW.rg ?_; simp [hb6]; try (refine hK _ rfl ?_; clear hK; clear K)
    refine AW.ret (ret_keep (vs := [.agg [.bool a.n1, lim a.l1, .bool a.n2, lim a.l2]]) [.agg [.bool a.n1, lim a.l1, .bool a.n2, lim a.l2]] c ⟨61, 1, [x]⟩ (by simp [hb6]) (by simp [hb6]) (hone x e hx0) (viewsL_same _ _ _) ⟨rfl, x, hx0, rfl⟩)
theorem nmul_call (c : Nat) (x : AV) (e : Int) (hx : isE x e) (a b : RR) (ha : a.Lb) (hb : b.Lb) (h : e = 0 → a.ok = true ∧ b.ok = true) : ACall Tryz.prog 57 [.ptr c 1 0 0, a.av, b.av] (numB c x) fun v m => v = (nOut e a (mulQ a.q b.q)).2.av ∧ ∃ x', isE x' (nOut e a (mulQ a.q b.q)).1 ∧ m = numB c x' := by
  have hone : ∀ x' e', isE x' e' → ∀ v ∈ (⟨61, 1, [x']⟩ : Blk).l, v.cells.all AV.one = true := by
    intro x' e' hx' v hv
    simp at hv
    subst hv
    unfold isE at hx'
    rw [hx']; rfl
  have hone := hone
  have hx0 := hx
  unfold isE at hx
  by_cases he : e = 0
  · obtain ⟨o1, o2⟩ := h he
    obtain ⟨g1, e1⟩ := ok_good ha o1
    obtain ⟨g2, e2⟩ := ok_good hb o2
    have hr := rmul_call a.q b.q g1 g2
    rw [← ok_av ha o1, ← ok_av hb o2] at hr
    have hk := nkeep_call c x e
    subst he
    generalize mulQ a.q b.q = q at *
    unfold numB at hk ⊢
    unfold RR.av at hr ⊢
    refine acall_S Tryz.func57 rfl rfl 20 rfl (Nat.le_of_ble_eq_true rfl) ?_
    (repeat refine AW.seq_k fun K hK => ?_)
    refine AW.rgR [4,5] ?_
    simp [argsL]; try (refine hK _ rfl ?_; clear hK; clear K)
    refine Fresh.intro fun b6 hb6 => ?_
    simp only [set_none2, emp_at, and_true] at hb6
    refine hK _ rfl ?_; clear hK; clear K; (repeat refine AW.seq_k fun K hK => ?_); refine AW.rg ?_; simp [hb6, hx]; try (refine hK _ rfl ?_; clear hK; clear K)
    refine AW.no ?_ rfl; refine AW.skip ?_; try simp
    refine hK _ rfl ?_; clear hK; clear K
    cases q with
    | none =>
      (repeat refine AW.seq_k fun K hK => ?_); refine AW.rg ?_; simp [hb6]; try (refine hK _ rfl ?_; clear hK; clear K)
      refine CallK.val hr ?_; simp [resQ, zeroRat]
      have hk2 := hk 2 hx0 badR
      refine CallK.grant (R := fun v y => v = badR.av ∧ ∃ x', isE x' 2 ∧ y = ⟨61, 1, [x']⟩) c ⟨61, 1, [x]⟩ (by simp [hb6]) (by simp) (hk2.mono fun v m ⟨h1, x', h2, h3⟩ => ⟨_, ⟨h1, x', h2, rfl⟩, h3⟩) ?_
      rintro _ _ ⟨rfl, x', hx', rfl⟩
      simp [hb6, badR_av, zeroRat]; refine hK _ rfl ?_; clear hK; clear K
      refine AW.ret (ret_keep (vs := [zeroRat]) [zeroRat] c ⟨61, 1, [x']⟩ (by simp [hb6, zeroRat]) (by simp [hb6]) (hone x' 2 hx') (viewsL_same _ _ _) ⟨rfl, x', hx', rfl⟩)
    | some q =>
      (repeat refine AW.seq_k fun K hK => ?_); refine AW.rg ?_; simp [hb6]; try (refine hK _ rfl ?_; clear hK; clear K)
      refine CallK.val hr ?_; simp [resQ]
      have hk2 := hk 0 hx0 (ofQ q)
      refine CallK.grant (R := fun v y => v = (ofQ q).av ∧ ∃ x', isE x' 0 ∧ y = ⟨61, 1, [x']⟩) c ⟨61, 1, [x]⟩ (by simp [hb6]) (by simp) (hk2.mono fun v m ⟨h1, x', h2, h3⟩ => ⟨_, ⟨h1, x', h2, rfl⟩, h3⟩) ?_
      rintro _ _ ⟨rfl, x', hx', rfl⟩
      simp [hb6]; refine hK _ rfl ?_; clear hK; clear K
      refine AW.ret (ret_keep (vs := [(ofQ q).av]) [(ofQ q).av] c ⟨61, 1, [x']⟩ (by simp [hb6, RR.av]) (by simp [hb6]) (hone x' 0 hx') (viewsL_same _ _ _) ⟨rfl, x', hx', rfl⟩)
  · have e3 : nOut e a (mulQ a.q b.q) = (e, a) := if_neg he
    rw [e3]
    unfold numB
    unfold RR.av
    refine acall_S Tryz.func57 rfl rfl 20 rfl (Nat.le_of_ble_eq_true rfl) ?_
    (repeat refine AW.seq_k fun K hK => ?_)
    refine AW.rgR [4,5] ?_
    simp [argsL]; try (refine hK _ rfl ?_; clear hK; clear K)
    refine Fresh.intro fun b6 hb6 => ?_
    simp only [set_none2, emp_at, and_true] at hb6
    refine hK _ rfl ?_; clear hK; clear K; (repeat refine AW.seq_k fun K hK => ?_); refine AW.rg ?_; simp [hb6, hx]; try (refine hK _ rfl ?_; clear hK; clear K)
    refine AW.yes ?_ (by simp [he])
    (repeat refine AW.seq_k fun K hK => ?_); refine AW.rg ?_; simp [hb6]; try (refine hK _ rfl ?_; clear hK; clear K)
    refine AW.ret (ret_keep (vs := [.agg [.bool a.n1, lim a.l1, .bool a.n2, lim a.l2]]) [.agg [.bool a.n1, lim a.l1, .bool a.n2, lim a.l2]] c ⟨61, 1, [x]⟩ (by simp [hb6]) (by simp [hb6]) (hone x e hx0) (viewsL_same _ _ _) ⟨rfl, x, hx0, rfl⟩)
theorem ndiv_call (c : Nat) (x : AV) (e : Int) (hx : isE x e) (a b : RR) (ha : a.Lb) (hb : b.Lb) (h : e = 0 → a.ok = true ∧ b.ok = true ∧ b.q ≠ 0) : ACall Tryz.prog 59 [.ptr c 1 0 0, a.av, b.av] (numB c x) fun v m => v = (nOut e a (divQ a.q b.q)).2.av ∧ ∃ x', isE x' (nOut e a (divQ a.q b.q)).1 ∧ m = numB c x' := by
  have hone : ∀ x' e', isE x' e' → ∀ v ∈ (⟨61, 1, [x']⟩ : Blk).l, v.cells.all AV.one = true := by
    intro x' e' hx' v hv
    simp at hv
    subst hv
    unfold isE at hx'
    rw [hx']; rfl
  have hone := hone
  have hx0 := hx
  unfold isE at hx
  by_cases he : e = 0
  · obtain ⟨o1, o2, o3⟩ := h he
    obtain ⟨g1, e1⟩ := ok_good ha o1
    obtain ⟨g2, e2⟩ := ok_good hb o2
    have hr := rdiv_call a.q b.q g1 g2 o3
    rw [← ok_av ha o1, ← ok_av hb o2] at hr
    have hk := nkeep_call c x e
    subst he
    generalize divQ a.q b.q = q at *
    unfold numB at hk ⊢
    unfold RR.av at hr ⊢
    refine acall_S Tryz.func59 rfl rfl 20 rfl (Nat.le_of_ble_eq_true rfl) ?_
    (repeat refine AW.seq_k fun K hK => ?_)
    refine AW.rgR [4,5] ?_
    simp [argsL]; try (refine hK _ rfl ?_; clear hK; clear K)
    refine Fresh.intro fun b6 hb6 => ?_
    simp only [set_none2, emp_at, and_true] at hb6
    refine hK _ rfl ?_; clear hK; clear K; (repeat refine AW.seq_k fun K hK => ?_); refine AW.rg ?_; simp [hb6, hx]; try (refine hK _ rfl ?_; clear hK; clear K)
    refine AW.no ?_ rfl; refine AW.skip ?_; try simp
    refine hK _ rfl ?_; clear hK; clear K
    cases q with
    | none =>
      (repeat refine AW.seq_k fun K hK => ?_); refine AW.rg ?_; simp [hb6]; try (refine hK _ rfl ?_; clear hK; clear K)
      refine CallK.val hr ?_; simp [resQ, zeroRat]
      have hk2 := hk 2 hx0 badR
      refine CallK.grant (R := fun v y => v = badR.av ∧ ∃ x', isE x' 2 ∧ y = ⟨61, 1, [x']⟩) c ⟨61, 1, [x]⟩ (by simp [hb6]) (by simp) (hk2.mono fun v m ⟨h1, x', h2, h3⟩ => ⟨_, ⟨h1, x', h2, rfl⟩, h3⟩) ?_
      rintro _ _ ⟨rfl, x', hx', rfl⟩
      simp [hb6, badR_av, zeroRat]; refine hK _ rfl ?_; clear hK; clear K
      refine AW.ret (ret_keep (vs := [zeroRat]) [zeroRat] c ⟨61, 1, [x']⟩ (by simp [hb6, zeroRat]) (by simp [hb6]) (hone x' 2 hx') (viewsL_same _ _ _) ⟨rfl, x', hx', rfl⟩)
    | some q =>
      (repeat refine AW.seq_k fun K hK => ?_); refine AW.rg ?_; simp [hb6]; try (refine hK _ rfl ?_; clear hK; clear K)
      refine CallK.val hr ?_; simp [resQ]
      have hk2 := hk 0 hx0 (ofQ q)
      refine CallK.grant (R := fun v y => v = (ofQ q).av ∧ ∃ x', isE x' 0 ∧ y = ⟨61, 1, [x']⟩) c ⟨61, 1, [x]⟩ (by simp [hb6]) (by simp) (hk2.mono fun v m ⟨h1, x', h2, h3⟩ => ⟨_, ⟨h1, x', h2, rfl⟩, h3⟩) ?_
      rintro _ _ ⟨rfl, x', hx', rfl⟩
      simp [hb6]; refine hK _ rfl ?_; clear hK; clear K
      refine AW.ret (ret_keep (vs := [(ofQ q).av]) [(ofQ q).av] c ⟨61, 1, [x']⟩ (by simp [hb6, RR.av]) (by simp [hb6]) (hone x' 0 hx') (viewsL_same _ _ _) ⟨rfl, x', hx', rfl⟩)
  · have e3 : nOut e a (divQ a.q b.q) = (e, a) := if_neg he
    rw [e3]
    unfold numB
    unfold RR.av
    refine acall_S Tryz.func59 rfl rfl 20 rfl (Nat.le_of_ble_eq_true rfl) ?_
    (repeat refine AW.seq_k fun K hK => ?_)
    refine AW.rgR [4,5] ?_
    simp [argsL]; try (refine hK _ rfl ?_; clear hK; clear K)
    refine Fresh.intro fun b6 hb6 => ?_
    simp only [set_none2, emp_at, and_true] at hb6
    refine hK _ rfl ?_; clear hK; clear K; (repeat refine AW.seq_k fun K hK => ?_); refine AW.rg ?_; simp [hb6, hx]; try (refine hK _ rfl ?_; clear hK; clear K)
    refine AW.yes ?_ (by simp [he])
    (repeat refine AW.seq_k fun K hK => ?_); refine AW.rg ?_; simp [hb6]; try (refine hK _ rfl ?_; clear hK; clear K)
    refine AW.ret (ret_keep (vs := [.agg [.bool a.n1, lim a.l1, .bool a.n2, lim a.l2]]) [.agg [.bool a.n1, lim a.l1, .bool a.n2, lim a.l2]] c ⟨61, 1, [x]⟩ (by simp [hb6]) (by simp [hb6]) (hone x e hx0) (viewsL_same _ _ _) ⟨rfl, x, hx0, rfl⟩)
end Go.Av
end
section
namespace Go.Av
open Go.Proofs
/-- An integer as a rational number. -/
def intQ (n : Int) : Rat := Rat.divInt n 1
theorem intQ_zero : intQ 0 = 0 := Rat.zero_divInt 1
theorem intQ_one : intQ 1 = 1 := by decide
theorem intQ_good {n : Int} (h : n.natAbs < 18446744073709551616) : Good (intQ n) := good_divInt (two_lt h) (by decide) (by omega)
theorem whole_call (n : Int) (h1 : -9223372036854775808 ≤ n) (h2 : n < 9223372036854775808) : ACall Tryz.prog 54 [.int .i64 n] Mem.emp fun v m => v = (ofQ (intQ n)).av ∧ m = Mem.emp := by
  have ho := of_call n 1 h1 h2 (by omega) (by omega) (by omega)
  have e : Rat.divInt n 1 = intQ n := rfl
  rw [e, resQ] at ho
  generalize intQ n = q at *
  rw [ofQ_av]
  unfold qAV at *
  refine acall_S Tryz.func54 rfl rfl 11 rfl (Nat.le_of_ble_eq_true rfl) ?_
  (repeat refine AW.seq_k fun K hK => ?_); refine AW.rg ?_; simp [argsL]; try (refine hK _ rfl ?_; clear hK; clear K)
  refine Fresh.intro fun b2 _ => ?_
  refine hK _ rfl ?_; clear hK; clear K; (repeat refine AW.seq_k fun K hK => ?_); refine AW.rg ?_; simp; try (refine hK _ rfl ?_; clear hK; clear K)
  refine CallK.val ho ?_; simp
  refine Fresh.intro fun b3 hb3 => ?_
  simp only [set_none2, emp_at, and_true] at hb3
  try simp [hb3]
  refine hK _ rfl ?_; clear hK; clear K; (repeat refine AW.seq_k fun K hK => ?_); refine AW.rg ?_; simp [hb3]; try (refine hK _ rfl ?_; clear hK; clear K)
  exact AW.ret (ret_views (vs := [.agg [.bool (decide (q.num < 0)), lim (dig q.num.natAbs), .bool false, lim (dig q.den)]]) [.agg [.bool (decide (q.num < 0)), lim (dig q.num.natAbs), .bool false, lim (dig q.den)]] (by simp [hb3]) (by simp) ⟨rfl, rfl⟩)
section
variable {P : Program} {av : Nat → Prop} {f : FuncId} {args : List AV} {m : Mem} {k : AV → Mem → Prop}
/-- A call that makes a block. -/
theorem CallK.make {R : Nat → AV → Blk → Prop} (h : ACall P f args Mem.emp fun v m' => ∃ b x, R b v x ∧ m' = Mem.emp.set b x) (hk : ∀ b v x, R b v x → m b = none → ¬ av b → k v (m.set b x)) : CallK P av f args m k := by
  refine .inl ⟨Mem.emp, _, fun c y hy => (by cases hy), h, ?_⟩
  rintro v g' ⟨b, x, hr, rfl⟩ hf
  have hb := hf b (by simp)
  rcases hb with hb | ⟨h1, h2⟩
  · exact absurd rfl hb
  · have e : merge m Mem.emp (Mem.emp.set b x) = m.set b x := by
      funext c
      unfold merge
      simp only [set_at, emp_at]
      by_cases hc : c = b
      · simp [hc]
      · simp [hc]
    rw [e]
    exact hk b v x hr h1 h2
end
def znil : AV := .agg [.bool false, .nil, .bool false, .nil]
/-- A row that is filled up to a place. -/
def fillL (l : List RR) (i n : Nat) : List AV := rrs (l.take i) ++ List.replicate (n - i) znil
theorem fillL_zero (l : List RR) (n : Nat) : fillL l 0 n = List.replicate n znil := by simp [fillL]
theorem fillL_full (l : List RR) : fillL l l.length l.length = rrs l := by simp [fillL]
theorem fillL_step (l : List RR) (i : Nat) (h : i < l.length) : (fillL l i l.length).set i (rr l i).av = fillL l (i + 1) l.length := by
  unfold fillL
  have hl : (rrs (l.take i)).length = i := by simp; omega
  rw [List.set_append_right _ _ (by omega), hl, Nat.sub_self, show l.length - i = (l.length - (i + 1)) + 1 by omega, List.replicate_succ, List.set_cons_zero]
  have e : l.take (i + 1) = l.take i ++ [l[i]] := by rw [List.take_add_one, List.getElem?_eq_getElem h]; rfl
  rw [e]
  simp only [rrs, List.map_append, List.append_assoc, List.map_cons, List.map_nil, List.cons_append, List.nil_append, rr_eq h]
@[simp] theorem fillL_get? {l : List RR} {i : Nat} (h : i < l.length) : (fillL l i l.length)[i]? = some znil := by
  unfold fillL
  have hl : (rrs (l.take i)).length = i := by simp; omega
  rw [List.getElem?_append_right (by omega), hl, Nat.sub_self, show l.length - i = (l.length - (i + 1)) + 1 by omega, List.replicate_succ]
  rfl
theorem vector_call (n : Nat) (hn : n < 2^40) : ACall Tryz.prog 72 [.int .i64 n] Mem.emp fun v m => ∃ b x, (v = .osl b 4 0 n ∧ x = ⟨36, 4, rrs (List.replicate n (ofQ 0))⟩) ∧ m = Mem.emp.set b x := by
  have hw := whole_call 0 (by omega) (by omega)
  rw [intQ_zero] at hw
  generalize hl : List.replicate n (ofQ 0) = l at *
  have hlen : l.length = n := by rw [← hl]; simp
  have hget : ∀ i, i < n → rr l i = ofQ 0 := by
    intro i hi
    rw [rr_eq (by omega)]; subst hl; simp
  generalize ofQ 0 = z at *
  clear hl
  subst hlen
  refine acall_S Tryz.func72 rfl rfl 18 rfl (Nat.le_of_ble_eq_true rfl) ?_
  (repeat refine AW.seq_k fun K hK => ?_); refine AW.rg ?_; simp [argsL]; try (refine hK _ rfl ?_; clear hK; clear K)
  (repeat refine AW.seq_k fun K hK => ?_); refine AW.rg ?_; simp [-Int.natCast_mul]; try (refine hK _ rfl ?_; clear hK; clear K)
  refine ⟨by omega, Fresh.intro fun b _ => ?_⟩
  refine hK _ rfl ?_; clear hK; clear K
  refine AW.seq_has [(3, .osl b 4 0 l.length)] (Mem.emp.set b ⟨36, 4, rrs l⟩) ?_ ?_
  · (repeat refine AW.seq_k fun K hK => ?_); refine AW.rg ?_; simp; try (refine hK _ rfl ?_; clear hK; clear K)
    refine AW.block (AW.loopS (ι := Nat) (fun i => [(3, .osl b 4 0 l.length), (8, .int .i64 (l.length : Nat)), (9, .int .i64 (i : Nat))]) (fun i => Mem.emp.set b ⟨36, 4, fillL l i l.length⟩)
      (fun i => i ≤ l.length) (fun i => l.length - i) 0 (by simp) (by rw [fillL_zero]; rfl) (by simp) ?_)
    intro i h1
    (repeat refine AW.seq_k fun K hK => ?_); refine AW.rg ?_; simp; try (refine hK _ rfl ?_; clear hK; clear K)
    refine AW.seq_k fun K hK => ?_
    (repeat refine AW.seq ?_)
    refine AW.cs (fun hi => ?_) (fun hi => ?_) rfl <;> (try simp at hi)
    · refine AW.skip ?_; try simp
      refine hK _ rfl ?_; clear hK; clear K
      have w1 : IntKind.i64.wrap ((i + 1 : Nat) : Int) = ((i + 1 : Nat) : Int) := wi (by omega)
      (repeat refine AW.seq ?_); refine AW.block ?_; (repeat refine AW.seq_k fun K hK => ?_); refine AW.rg ?_; simp; try (refine hK _ rfl ?_; clear hK; clear K)
      (repeat refine AW.seq_k fun K hK => ?_); refine AW.rg ?_; simp [hi]; try (refine hK _ rfl ?_; clear hK; clear K)
      refine CallK.val hw ?_; simp [hi, znil]; rw [← hget i hi, fillL_step l i hi]; (repeat refine AW.seq_k fun K hK => ?_); refine AW.rg ?_; simp [-Int.natCast_add, w1]; try (refine hK _ rfl ?_; clear hK; clear K)
      exact ⟨i + 1, hi, by omega, rfl, rfl⟩
    · refine AW.exit ?_
      try simp
      have : i = l.length := by omega
      subst this; rw [fillL_full]
  (repeat refine AW.seq_k fun K hK => ?_); refine AW.rg ?_; simp; try (refine hK _ rfl ?_; clear hK; clear K)
  exact AW.ret (ret_mem rfl (ones_set (rrs_ok l)) ⟨b, _, ⟨rfl, rfl⟩, rfl⟩)
theorem ownAll_call (l : List RR) (hl : ∀ x ∈ l, x.l1.length < 2^40 ∧ x.l2.length < 2^40) (hn : l.length < 2^40) : ACall Tryz.prog 71 [rowAV l] Mem.emp fun v m => ∃ b x, (v = .osl b 4 0 l.length ∧ x = ⟨36, 4, rrs l⟩) ∧ m = Mem.emp.set b x := by
  refine acall_S Tryz.func71 rfl rfl 23 rfl (Nat.le_of_ble_eq_true rfl) ?_
  (repeat refine AW.seq_k fun K hK => ?_); refine AW.rg ?_; simp [argsL]; try (refine hK _ rfl ?_; clear hK; clear K)
  (repeat refine AW.seq_k fun K hK => ?_); refine AW.rg ?_; simp [-Int.natCast_mul]; try (refine hK _ rfl ?_; clear hK; clear K)
  refine ⟨by omega, Fresh.intro fun b _ => ?_⟩
  refine hK _ rfl ?_; clear hK; clear K
  refine AW.seq_has [(3, .osl b 4 0 l.length)] (Mem.emp.set b ⟨36, 4, rrs l⟩) ?_ ?_
  · (repeat refine AW.seq_k fun K hK => ?_); refine AW.rg ?_; simp; try (refine hK _ rfl ?_; clear hK; clear K)
    refine AW.block (AW.loopS (ι := Nat) (fun i => [(0, rowAV l), (3, .osl b 4 0 l.length), (9, .int .i64 (l.length : Nat)), (10, .int .i64 (i : Nat))]) (fun i => Mem.emp.set b ⟨36, 4, fillL l i l.length⟩)
      (fun i => i ≤ l.length) (fun i => l.length - i) 0 (by simp) (by rw [fillL_zero]; rfl) (by simp) ?_)
    intro i h1
    (repeat refine AW.seq_k fun K hK => ?_); refine AW.rg ?_; simp; try (refine hK _ rfl ?_; clear hK; clear K)
    refine AW.seq_k fun K hK => ?_
    (repeat refine AW.seq ?_)
    refine AW.cs (fun hi => ?_) (fun hi => ?_) rfl <;> (try simp at hi)
    · refine AW.skip ?_; try simp
      refine hK _ rfl ?_; clear hK; clear K
      have w1 : IntKind.i64.wrap ((i + 1 : Nat) : Int) = ((i + 1 : Nat) : Int) := wi (by omega)
      have hx := hl (rr l i) (by rw [rr_eq hi]; exact List.getElem_mem hi)
      have ho := own_call (rr l i) hx.1 hx.2
      (repeat refine AW.seq ?_); refine AW.block ?_; (repeat refine AW.seq_k fun K hK => ?_); refine AW.rg ?_; simp; try (refine hK _ rfl ?_; clear hK; clear K)
      (repeat refine AW.seq_k fun K hK => ?_); refine AW.rg ?_; simp [hi]; try (refine hK _ rfl ?_; clear hK; clear K)
      refine CallK.val ho ?_; simp [hi, znil]; rw [fillL_step l i hi]; (repeat refine AW.seq_k fun K hK => ?_); refine AW.rg ?_; simp [-Int.natCast_add, w1]; try (refine hK _ rfl ?_; clear hK; clear K)
      exact ⟨i + 1, hi, by omega, rfl, rfl⟩
    · refine AW.exit ?_
      try simp
      have : i = l.length := by omega
      subst this; rw [fillL_full]
  (repeat refine AW.seq_k fun K hK => ?_); refine AW.rg ?_; simp; try (refine hK _ rfl ?_; clear hK; clear K)
  exact AW.ret (ret_mem rfl (ones_set (rrs_ok l)) ⟨b, _, ⟨rfl, rfl⟩, rfl⟩)
end Go.Av
end
section
namespace Go.Av
open Go.Proofs
/-- The rows of a matrix by their blocks. -/
def hdrs (bs : List Nat) (rows : List (List RR)) : List AV := List.zipWith (fun b (r : List RR) => .osl b 4 0 r.length) bs rows
def nb (bs : List Nat) (i : Nat) : Nat := bs.getD i 0
theorem nb_eq {bs : List Nat} {i : Nat} (h : i < bs.length) : nb bs i = bs[i] := by unfold nb; rw [List.getD_eq_getElem?_getD, List.getElem?_eq_getElem h]; rfl
theorem nb_mem {bs : List Nat} {i : Nat} (h : i < bs.length) : nb bs i ∈ bs := by rw [nb_eq h]; exact List.getElem_mem h
theorem hdrs_length {bs : List Nat} {rows : List (List RR)} (h : bs.length = rows.length) : (hdrs bs rows).length = rows.length := by simp [hdrs, h]
theorem hdrs_get? {bs : List Nat} {rows : List (List RR)} (h : bs.length = rows.length) {i : Nat} (hi : i < rows.length) : (hdrs bs rows)[i]? = some (.osl (nb bs i) 4 0 (mrow rows i).length) := by
  unfold hdrs
  rw [List.getElem?_zipWith, List.getElem?_eq_getElem (by omega), List.getElem?_eq_getElem hi, nb_eq (by omega), mrow_eq hi]
structure MatM (M : Mem) (B : Nat) (bs : List Nat) (rows : List (List RR)) : Prop where
  top : M B = some ⟨42, 1, hdrs bs rows⟩
  len : bs.length = rows.length
  row : ∀ i, i < rows.length → M (nb bs i) = some ⟨36, 4, rrs (mrow rows i)⟩
  nd : bs.Nodup
  nB : B ∉ bs
theorem nb_inj {bs : List Nat} (hnd : bs.Nodup) {i j : Nat} (hi : i < bs.length) (hj : j < bs.length) (h : nb bs i = nb bs j) : i = j := by
  rw [nb_eq hi, nb_eq hj] at h
  exact (List.getElem_inj hnd).1 h
section
variable {M : Mem} {B : Nat} {bs : List Nat} {rows : List (List RR)}
theorem MatM.ne (h : MatM M B bs rows) {i : Nat} (hi : i < rows.length) : nb bs i ≠ B := fun e => h.nB (e ▸ nb_mem (by rw [h.len]; exact hi))
theorem MatM.get (h : MatM M B bs rows) {i : Nat} (hi : i < rows.length) : (hdrs bs rows)[i]? = some (.osl (nb bs i) 4 0 (mrow rows i).length) := hdrs_get? h.len hi
theorem hdrs_same {bs : List Nat} {rows : List (List RR)} (i : Nat) (r : List RR) (hr : r.length = (mrow rows i).length) : hdrs bs (rows.set i r) = hdrs bs rows := by
  unfold hdrs
  refine List.ext_getElem? fun k => ?_
  rw [List.getElem?_zipWith, List.getElem?_zipWith, List.getElem?_set]
  by_cases hk : i = k
  · subst hk; rw [if_pos rfl]
    by_cases hi : i < rows.length
    · rw [if_pos hi, List.getElem?_eq_getElem hi]
      cases bs[i]? with
      | none => rfl
      | some b => simp [hr, mrow_eq hi]
    · rw [if_neg hi, List.getElem?_eq_none (l := rows) (by omega)]
  · rw [if_neg hk]
theorem mrow_set {α : Type} {rows : List (List α)} {i : Nat} (hi : i < rows.length) (r : List α) (k : Nat) : mrow (rows.set i r) k = if k = i then r else mrow rows k := by
  unfold mrow
  rw [List.getD_eq_getElem?_getD, List.getElem?_set]
  by_cases h : i = k
  · subst h; simp [hi]
  · rw [if_neg h, if_neg (Ne.symm h), ← List.getD_eq_getElem?_getD]
theorem MatM.setRow (h : MatM M B bs rows) {i : Nat} (hi : i < rows.length) (r : List RR) (hr : r.length = (mrow rows i).length) : MatM (M.set (nb bs i) ⟨36, 4, rrs r⟩) B bs (rows.set i r) := by
  refine ⟨?_, by simpa using h.len, fun k hk => ?_, h.nd, h.nB⟩
  · rw [hdrs_same i r hr]
    simp only [set_at]
    rw [if_neg (Ne.symm (h.ne hi))]
    exact h.top
  · have hk' : k < rows.length := by simpa using hk
    simp only [set_at]
    rw [mrow_set hi]
    by_cases hki : k = i
    · subst hki; simp
    · have : nb bs k ≠ nb bs i := fun e => hki (nb_inj h.nd (by rw [h.len]; exact hk') (by rw [h.len]; exact hi) e)
      rw [if_neg this, if_neg hki]
      exact h.row k hk'
theorem MatM.other (h : MatM M B bs rows) {c : Nat} (h1 : c ≠ B) (h2 : c ∉ bs) (x : Blk) : MatM (M.set c x) B bs rows := by
  refine ⟨?_, h.len, fun k hk => ?_, h.nd, h.nB⟩
  · simp only [set_at]; rw [if_neg (Ne.symm h1)]; exact h.top
  · have : nb bs k ≠ c := fun e => h2 (e ▸ nb_mem (by rw [h.len]; exact hk))
    simp only [set_at]; rw [if_neg this]; exact h.row k hk
theorem hdrs_ones (bs : List Nat) (rows : List (List RR)) : ∀ v ∈ hdrs bs rows, v.cells.all AV.one = true := by
  intro v hv
  unfold hdrs at hv
  obtain ⟨k, hk⟩ := List.getElem?_of_mem hv
  rw [List.getElem?_zipWith] at hk
  cases h1 : bs[k]? <;> cases h2 : rows[k]? <;> simp [h1, h2] at hk
  subst hk
  rfl
theorem MatM.view (h : MatM M B bs rows) : View M Mem.emp (.osl B 1 0 rows.length) (matAV rows) := by
  refine .osl B 1 0 rows.length _ _ h.top rfl rfl (by simp) (by simp [hdrs_length h.len]) fun k v v' h1 h2 => ?_
  simp only [Nat.zero_add] at h1
  have hk : k < rows.length := by
    have := (List.getElem?_eq_some_iff.1 h2).1
    simpa using this
  rw [h.get hk] at h1
  rw [List.getElem?_map, List.getElem?_eq_getElem hk] at h2
  cases h1
  cases h2
  rw [← mrow_eq hk]
  refine .osl (nb bs k) 4 0 _ _ _ (h.row k hk) rfl rfl (by simp) (by simp) fun j u u' g1 g2 => ?_
  simp only [Nat.zero_add] at g1
  rw [g1] at g2
  cases g2
  exact .same _
end
/-- All there is. -/
def OnlyM (M : Mem) (l : List Nat) : Prop := ∀ b, M b ≠ none → b ∈ l
theorem OnlyM.none {M : Mem} {l : List Nat} (h : OnlyM M l) {b : Nat} (hb : b ∉ l) : M b = Option.none := by
  cases hx : M b with
  | none => rfl
  | some x => exact absurd (h b (by rw [hx]; simp)) hb
theorem MatM.ones {M : Mem} {B : Nat} {bs : List Nat} {rows : List (List RR)} (h : MatM M B bs rows) {l : List Nat} (ho : OnlyM M (l ++ B :: bs)) (hl : ∀ c ∈ l, ∀ x, M c = some x → ∀ v ∈ x.l, v.cells.all AV.one = true) : ∀ (b : Nat) (x : Blk), M b = some x → ∀ v ∈ x.l, v.cells.all AV.one = true := by
  intro b x hx
  have := ho b (by rw [hx]; simp)
  rcases List.mem_append.1 this with h1 | h1
  · exact hl b h1 x hx
  · rcases List.mem_cons.1 h1 with rfl | h1
    · rw [h.top] at hx; cases hx; exact hdrs_ones bs rows
    · obtain ⟨i, hi⟩ := List.getElem?_of_mem h1
      have hib : i < bs.length := (List.getElem?_eq_some_iff.1 hi).1
      have hir : i < rows.length := by rw [← h.len]; exact hib
      have e : nb bs i = b := by rw [nb_eq hib]; exact (List.getElem?_eq_some_iff.1 hi).2
      have := h.row i hir
      rw [e, hx] at this
      cases this
      exact rrs_ok _
/-- A matrix whose rows are made one after the other. -/
structure MatP (M : Mem) (B : Nat) (bs : List Nat) (rows : List (List RR)) (k : Nat) : Prop where
  top : M B = some ⟨42, 1, hdrs bs rows ++ List.replicate k AV.nil⟩
  len : bs.length = rows.length
  row : ∀ i, i < rows.length → M (nb bs i) = some ⟨36, 4, rrs (mrow rows i)⟩
  nd : bs.Nodup
  nB : B ∉ bs
  only : OnlyM M (B :: bs)
theorem hdrs_snoc {bs : List Nat} {rows : List (List RR)} (h : bs.length = rows.length) (b : Nat) (r : List RR) : hdrs (bs ++ [b]) (rows ++ [r]) = hdrs bs rows ++ [.osl b 4 0 r.length] := by
  unfold hdrs
  rw [List.zipWith_append h]
  rfl
theorem mrow_snoc {α : Type} (rows : List (List α)) (r : List α) (i : Nat) (hi : i < rows.length + 1) : mrow (rows ++ [r]) i = if i < rows.length then mrow rows i else r := by
  unfold mrow
  rw [List.getD_eq_getElem?_getD]
  by_cases h : i < rows.length
  · rw [if_pos h, List.getElem?_append_left h, ← List.getD_eq_getElem?_getD]
  · rw [if_neg h, List.getElem?_append_right (by omega), show i - rows.length = 0 by omega]; rfl
theorem nb_snoc (bs : List Nat) (b : Nat) (i : Nat) (hi : i < bs.length + 1) : nb (bs ++ [b]) i = if i < bs.length then nb bs i else b := by
  unfold nb
  rw [List.getD_eq_getElem?_getD]
  by_cases h : i < bs.length
  · rw [if_pos h, List.getElem?_append_left h, ← List.getD_eq_getElem?_getD]
  · rw [if_neg h, List.getElem?_append_right (by omega), show i - bs.length = 0 by omega]; rfl
theorem MatP.step {M : Mem} {B : Nat} {bs : List Nat} {rows : List (List RR)} {k : Nat} (h : MatP M B bs rows (k + 1)) {b : Nat} (hb : M b = none) (r : List RR) :
    MatP ((M.set b ⟨36, 4, rrs r⟩).set B ⟨42, 1, (hdrs bs rows ++ List.replicate (k + 1) AV.nil).set rows.length (.osl b 4 0 r.length)⟩) B (bs ++ [b]) (rows ++ [r]) k := by
  have hbB : b ≠ B := by rintro rfl; rw [h.top] at hb; cases hb
  have hbb : b ∉ bs := by
    intro hm
    obtain ⟨i, hi⟩ := List.getElem?_of_mem hm
    have hib : i < bs.length := (List.getElem?_eq_some_iff.1 hi).1
    have e : nb bs i = b := by rw [nb_eq hib]; exact (List.getElem?_eq_some_iff.1 hi).2
    have := h.row i (by rw [← h.len]; exact hib)
    rw [e, hb] at this
    cases this
  refine ⟨?_, by simp [h.len], fun i hi => ?_, ?_, ?_, fun c hc => ?_⟩
  · simp only [set_at, if_true]
    rw [hdrs_snoc h.len, List.set_append_right _ _ (by rw [hdrs_length h.len]; omega), hdrs_length h.len, Nat.sub_self, List.replicate_succ, List.set_cons_zero]
    simp
  · have hi' : i < rows.length + 1 := by simpa using hi
    rw [nb_snoc bs b i (by rw [h.len]; exact hi'), mrow_snoc rows r i hi', h.len]
    by_cases hlt : i < rows.length
    · rw [if_pos hlt, if_pos hlt]
      have n1 : nb bs i ≠ B := fun e => h.nB (e ▸ nb_mem (by rw [h.len]; exact hlt))
      have n2 : nb bs i ≠ b := fun e => hbb (e ▸ nb_mem (by rw [h.len]; exact hlt))
      simp only [set_at]
      rw [if_neg n1, if_neg n2]
      exact h.row i hlt
    · rw [if_neg hlt, if_neg hlt]; simp [hbB]
  · rw [List.nodup_append]
    exact ⟨h.nd, by simp, fun x hx y hy => by simp at hy; subst hy; exact fun e => hbb (e ▸ hx)⟩
  · simp only [List.mem_append, List.mem_singleton, not_or]
    exact ⟨h.nB, Ne.symm hbB⟩
  · simp only [set_at] at hc
    by_cases h1 : c = B
    · simp [h1]
    · rw [if_neg h1] at hc
      by_cases h2 : c = b
      · simp [h2]
      · rw [if_neg h2] at hc
        have := h.only c hc
        simp at this ⊢
        rcases this with h3 | h3
        · exact absurd h3 h1
        · exact .inr (.inl h3)
theorem MatP.full {M : Mem} {B : Nat} {bs : List Nat} {rows : List (List RR)} (h : MatP M B bs rows 0) : MatM M B bs rows ∧ OnlyM M (B :: bs) :=
  ⟨⟨by rw [h.top]; simp, h.len, h.row, h.nd, h.nB⟩, h.only⟩
def shortM (m : List (List RR)) : Prop := ∀ r ∈ m, ∀ x ∈ r, x.l1.length < 2^40 ∧ x.l2.length < 2^40
theorem clone_call (m : List (List RR)) (hs : shortM m) (h1 : m.length < 2^40) (h2 : ∀ r ∈ m, r.length < 2^40) : ACall Tryz.prog 45 [matAV m] Mem.emp fun v M => ∃ B bs, v = .osl B 1 0 m.length ∧ MatM M B bs m ∧ OnlyM M (B :: bs) := by
  refine acall_S Tryz.func45 rfl rfl 23 rfl (Nat.le_of_ble_eq_true rfl) ?_
  (repeat refine AW.seq_k fun K hK => ?_); refine AW.rg ?_; simp [argsL]; try (refine hK _ rfl ?_; clear hK; clear K)
  (repeat refine AW.seq_k fun K hK => ?_); refine AW.rg ?_; simp; try (refine hK _ rfl ?_; clear hK; clear K)
  refine ⟨by omega, Fresh.intro fun B _ => ?_⟩
  refine hK _ rfl ?_; clear hK; clear K
  refine AW.seq_ex (ι := Mem × List Nat) (fun z => [(3, .osl B 1 0 m.length)]) (fun z => z.1) (fun z => MatM z.1 B z.2 m ∧ OnlyM z.1 (B :: z.2)) ?_ ?_
  · (repeat refine AW.seq_k fun K hK => ?_); refine AW.rg ?_; simp; try (refine hK _ rfl ?_; clear hK; clear K)
    refine AW.block (AW.loopS (ι := Nat × Mem × List Nat) (fun z => [(0, matAV m), (3, .osl B 1 0 m.length), (9, .int .i64 (m.length : Nat)), (10, .int .i64 (z.1 : Nat))]) (fun z => z.2.1)
      (fun z => z.1 ≤ m.length ∧ MatP z.2.1 B z.2.2 (m.take z.1) (m.length - z.1)) (fun z => m.length - z.1) (0, Mem.emp.set B ⟨42, 1, List.replicate m.length .nil⟩, []) ⟨by simp, ⟨by simp [hdrs], rfl, fun i hi => (by simp at hi), by simp, by simp, fun b hb => by
        simp only [set_at, emp_at] at hb
        by_cases h : b = B
        · simp [h]
        · simp [h] at hb⟩⟩ rfl (by simp) ?_)
    rintro ⟨i, M, bs⟩ ⟨g1, g2⟩
    simp only at g1 g2; (repeat refine AW.seq_k fun K hK => ?_); refine AW.rg ?_; simp; try (refine hK _ rfl ?_; clear hK; clear K)
    refine AW.seq_k fun K hK => ?_
    (repeat refine AW.seq ?_)
    refine AW.cs (fun hi => ?_) (fun hi => ?_) rfl <;> (try simp at hi)
    · refine AW.skip ?_; try simp
      refine hK _ rfl ?_; clear hK; clear K
      have w1 : IntKind.i64.wrap ((i + 1 : Nat) : Int) = ((i + 1 : Nat) : Int) := wi (by omega)
      obtain ⟨k, hk⟩ : ∃ k, m.length - i = k + 1 := ⟨m.length - i - 1, by omega⟩
      rw [hk] at g2
      have hmem : mrow m i ∈ m := by rw [mrow_eq hi]; exact List.getElem_mem hi
      have ho := ownAll_call (mrow m i) (hs _ hmem) (h2 _ hmem)
      have htl : (m.take i).length = i := by simp; omega
      have hlen : (hdrs bs (m.take i) ++ List.replicate (k + 1) AV.nil)[i]? = some .nil := by
        rw [List.getElem?_append_right (by rw [hdrs_length g2.len]; omega), hdrs_length g2.len, htl, Nat.sub_self]; rfl
      (repeat refine AW.seq ?_); refine AW.block ?_; (repeat refine AW.seq_k fun K hK => ?_); refine AW.rg ?_; simp; try (refine hK _ rfl ?_; clear hK; clear K)
      (repeat refine AW.seq_k fun K hK => ?_); refine AW.rg ?_; simp [hi]; try (refine hK _ rfl ?_; clear hK; clear K)
      refine CallK.make ho ?_
      rintro b _ _ ⟨rfl, rfl⟩ hb _
      have hbB : B ≠ b := by rintro rfl; rw [g2.top] at hb; cases hb
      simp [hi, hbB, g2.top, hlen]
      have hst := g2.step hb (mrow m i)
      rw [htl] at hst
      (repeat refine AW.seq_k fun K hK => ?_); refine AW.rg ?_; simp [-Int.natCast_add, w1]; try (refine hK _ rfl ?_; clear hK; clear K)
      refine ⟨i + 1, _, ⟨hi, bs ++ [b], ?_⟩, by omega, rfl, rfl⟩
      have e : m.take (i + 1) = m.take i ++ [mrow m i] := by rw [List.take_add_one, List.getElem?_eq_getElem hi, mrow_eq hi]; rfl
      rw [e, show m.length - (i + 1) = k by omega]
      exact hst
    · refine AW.exit ?_
      try simp
      have : i = m.length := by omega
      subst this
      rw [Nat.sub_self, List.take_length] at g2
      exact ⟨bs, g2.full⟩
  rintro ⟨M, bs⟩ ⟨g1, g2⟩
  simp only at g1 g2; (repeat refine AW.seq_k fun K hK => ?_); refine AW.rg ?_; simp; try (refine hK _ rfl ?_; clear hK; clear K)
  refine AW.ret (ret_mem rfl ?_ ⟨B, bs, rfl, g1, g2⟩)
  exact g1.ones (l := []) g2 (by simp)
end Go.Av
end
section
namespace Go.Av
open Go.Proofs
/-- Steps that may fail. -/
def iterO {α : Type} (f : Nat → α → Option α) : Nat → α → Option α
  | 0, s => some s
  | n + 1, s => (iterO f n s).bind (f n)
theorem iterO_succ {α : Type} (f : Nat → α → Option α) (n : Nat) (s : α) : iterO f (n + 1) s = (iterO f n s).bind (f n) := rfl
theorem iterO_none {α : Type} {f : Nat → α → Option α} {n : Nat} {s : α} (h : iterO f n s = none) : ∀ k, iterO f (n + k) s = none
  | 0 => h
  | k + 1 => by rw [← Nat.add_assoc, iterO_succ, iterO_none h k]; rfl
theorem iterO_none' {α : Type} {f : Nat → α → Option α} {n m : Nat} {s : α} (h : iterO f n s = none) (hm : n ≤ m) : iterO f m s = none := by
  have := iterO_none h (m - n)
  rwa [Nat.add_sub_cancel' hm] at this
def qat (r : List Rat) (i : Nat) : Rat := r.getD i 0
def qel (M : List (List Rat)) (i j : Nat) : Rat := qat (mrow M i) j
def emb (M : List (List Rat)) : List (List RR) := M.map fun r => r.map ofQ
def GoodM (M : List (List Rat)) : Prop := ∀ r ∈ M, ∀ q ∈ r, Good q
def swapL {α : Type} (l : List (List α)) (i j : Nat) : List (List α) := (l.set i (mrow l j)).set j (mrow l i)
/-- A step in a row: a new number at a place. -/
def rowStep (op : Rat → Nat → Option Rat) (k : Nat) (row : List Rat) : Option (List Rat) := (op (qat row k) k).map (row.set k)
def divStep (d : Rat) : Nat → List Rat → Option (List Rat) := rowStep fun q _ => divQ q d
def lessQ (a f b : Rat) : Option Rat := (mulQ b f).bind (subQ a)
def subStep (by_ : List Rat) (f : Rat) : Nat → List Rat → Option (List Rat) := rowStep fun q k => lessQ q f (qat by_ k)
def elimStep (r j i : Nat) (M : List (List Rat)) : Option (List (List Rat)) :=
  if i = r ∨ qel M i j = 0 then some M else (iterO (subStep (mrow M r) (qel M i j)) (mrow M i).length (mrow M i)).map (M.set i)
def clearQ (M : List (List Rat)) (j r : Nat) : Option (List (List Rat)) :=
  (iterO (divStep (qel M r j)) (mrow M r).length (mrow M r)).bind fun row => iterO (elimStep r j) M.length (M.set r row)
def pivQ (M : List (List Rat)) (j r : Nat) : Option Nat := (List.range M.length).find? fun i => decide (r ≤ i) && !decide (qel M i j = 0)
def colStep (j : Nat) (z : List (List Rat) × List Nat) : Option (List (List Rat) × List Nat) :=
  match pivQ z.1 j z.2.length with
  | none => some z
  | some i => (clearQ (swapL z.1 i z.2.length) j z.2.length).map fun M => (M, z.2 ++ [j])
def reduceQ (M : List (List Rat)) : Option (List (List Rat) × List Nat) := iterO colStep (mrow M 0).length (M, [])
/-! ### The numbers in memory -/
theorem emb_length (M : List (List Rat)) : (emb M).length = M.length := by simp [emb]
theorem emb_row (M : List (List Rat)) (i : Nat) : mrow (emb M) i = (mrow M i).map ofQ := by
  unfold mrow emb
  rw [List.getD_eq_getElem?_getD, List.getD_eq_getElem?_getD, List.getElem?_map]
  cases M[i]? <;> rfl
theorem rr_map {r : List Rat} {i : Nat} (h : i < r.length) : rr (r.map ofQ) i = ofQ (qat r i) := by
  unfold rr qat
  rw [List.getD_eq_getElem?_getD, List.getD_eq_getElem?_getD, List.getElem?_map, List.getElem?_eq_getElem h]
  rfl
theorem emb_set (M : List (List Rat)) (i : Nat) (r : List Rat) : emb (M.set i r) = (emb M).set i (r.map ofQ) := by simp [emb, List.map_set]
theorem emb_swap (M : List (List Rat)) (i j : Nat) : emb (swapL M i j) = swapL (emb M) i j := by
  unfold swapL
  rw [emb_set, emb_set, emb_row, emb_row]
theorem GoodM.at {M : List (List Rat)} (h : GoodM M) {i j : Nat} (hj : j < (mrow M i).length) : Good (qel M i j) := by
  unfold qel qat
  have hi : i < M.length := by
    rcases Nat.lt_or_ge i M.length with h | h
    · exact h
    · unfold mrow at hj
      rw [List.getD_eq_getElem?_getD, List.getElem?_eq_none h] at hj
      simp at hj
  rw [List.getD_eq_getElem?_getD, List.getElem?_eq_getElem hj]
  refine h (mrow M i) ?_ _ (List.getElem_mem hj)
  rw [mrow_eq hi]; exact List.getElem_mem hi
theorem GoodM.set {M : List (List Rat)} (h : GoodM M) (i : Nat) {r : List Rat} (hr : ∀ q ∈ r, Good q) : GoodM (M.set i r) := by
  intro x hx q hq
  rcases List.mem_or_eq_of_mem_set hx with h1 | rfl
  · exact h x h1 q hq
  · exact hr q hq
theorem GoodM.row {M : List (List Rat)} (h : GoodM M) (i : Nat) : ∀ q ∈ mrow M i, Good q := by
  intro q hq
  unfold mrow at hq
  rw [List.getD_eq_getElem?_getD] at hq
  cases hm : M[i]? with
  | none => rw [hm] at hq; cases hq
  | some r => rw [hm] at hq; exact h r (List.mem_of_getElem? hm) q hq
theorem good_set {r : List Rat} (h : ∀ q ∈ r, Good q) (k : Nat) {x : Rat} (hx : Good x) : ∀ q ∈ r.set k x, Good q := by
  intro q hq
  rcases List.mem_or_eq_of_mem_set hq with h1 | rfl
  · exact h q h1
  · exact hx
theorem GoodM.swap {M : List (List Rat)} (h : GoodM M) (i j : Nat) : GoodM (swapL M i j) := (h.set i (h.row j)).set j (h.row i)
/-- All rows have so many elements. -/
def dimM {α : Type} (M : List (List α)) (w : Nat) : Prop := ∀ i, i < M.length → (mrow M i).length = w
theorem dimM.set {α : Type} {M : List (List α)} {w : Nat} (h : dimM M w) {i : Nat} {r : List α} (hr : r.length = w) : dimM (M.set i r) w := by
  intro k hk
  have hk' : k < M.length := by simpa using hk
  by_cases hi : i < M.length
  · rw [mrow_set hi]
    split
    · exact hr
    · exact h k hk'
  · rw [List.set_eq_of_length_le (by omega)]; exact h k hk'
theorem dimM.swap {α : Type} {M : List (List α)} {w : Nat} (h : dimM M w) {i j : Nat} (hi : i < M.length) (hj : j < M.length) : dimM (swapL M i j) w := (h.set (h j hj)).set (h i hi)
theorem swapL_length {α : Type} (M : List (List α)) (i j : Nat) : (swapL M i j).length = M.length := by simp [swapL]
theorem dim_emb {M : List (List Rat)} {w : Nat} (h : dimM M w) : dimM (emb M) w := by
  intro i hi
  rw [emb_row, List.length_map]
  exact h i (by simpa [emb] using hi)
theorem lb_emb (M : List (List Rat)) : LbM (emb M) := by
  intro r hr x hx
  obtain ⟨s, _, rfl⟩ := List.mem_map.1 hr
  obtain ⟨q, _, rfl⟩ := List.mem_map.1 hx
  exact ofQ_lb q
theorem LbM.set {M : List (List RR)} (h : LbM M) (i : Nat) {r : List RR} (hr : ∀ x ∈ r, x.Lb) : LbM (M.set i r) := by
  intro x hx q hq
  rcases List.mem_or_eq_of_mem_set hx with h1 | rfl
  · exact h x h1 q hq
  · exact hr q hq
theorem lb_set {r : List RR} (h : ∀ x ∈ r, x.Lb) (k : Nat) {y : RR} (hy : y.Lb) : ∀ x ∈ r.set k y, x.Lb := by
  intro x hx
  rcases List.mem_or_eq_of_mem_set hx with h1 | rfl
  · exact h x h1
  · exact hy
theorem LbM.swap {M : List (List RR)} (h : LbM M) (i j : Nat) : LbM (swapL M i j) := (h.set i (h.row j)).set j (h.row i)
/-- Either all is well and the matrix is that one, or there was an error. -/
def Mode (e : Int) (rows : List (List RR)) (X : Option (List (List Rat))) : Prop :=
  match X with
  | some M => e = 0 ∧ rows = emb M ∧ GoodM M
  | none => e = 2
/-- A new number in a row. -/
theorem mode_row {op : Rat → Nat → Option Rat} (hop : ∀ q k x, op q k = some x → Good x) {X : Option (List (List Rat))} {n w r k : Nat} {e e' : Int} {rows : List (List RR)} {y : RR} (hn : rows.length = n) (hr : r < n) (hd : dimM rows w) (hk : k < w)
    {Z : Option (List (List Rat) × List Rat)} (hZ : X = Z.map fun z => z.1.set r z.2) (hM : Mode e rows X) (h1 : e ≠ 0 → e' = e) (h2 : e = 0 → match op (rr (mrow rows r) k).q k with | some z => e' = 0 ∧ y = ofQ z | none => e' = 2) :
    Mode e' (rows.set r ((mrow rows r).set k y)) (Z.bind fun z => (rowStep op k z.2).map fun row => z.1.set r row) := by
  cases Z with
  | none =>
    subst hZ
    have : e = 2 := hM
    exact (h1 (by omega)).trans this
  | some z =>
    subst hZ
    obtain ⟨M, row⟩ := z
    obtain ⟨m1, m2, m3⟩ : e = 0 ∧ rows = emb (M.set r row) ∧ GoodM (M.set r row) := hM
    have hMl : M.length = n := by rw [m2] at hn; simpa [emb] using hn
    have hrow : mrow rows r = row.map ofQ := by rw [m2, emb_row, mrow_set (by omega), if_pos rfl]
    have hkr : k < row.length := by
      have := hd r (by omega)
      rw [hrow, List.length_map] at this
      omega
    have hq : (rr (mrow rows r) k).q = qat row k := by rw [hrow, rr_map hkr, ofQ_q]
    have h2 := h2 m1
    rw [hq] at h2
    show Mode e' _ ((rowStep op k row).map fun row => M.set r row)
    unfold rowStep
    cases ho : op (qat row k) k with
    | none => rw [ho] at h2; exact h2
    | some z =>
      rw [ho] at h2
      obtain ⟨e1, e2⟩ := h2
      refine ⟨e1, ?_, ?_⟩
      · rw [e2, hrow, m2, emb_set, emb_set, List.set_set, List.map_set]
      · have := m3.set r (r := row.set k z) (good_set (by have := m3.row r; rwa [mrow_set (by omega), if_pos rfl] at this) k (hop _ _ _ ho))
        rwa [List.set_set] at this
theorem signQ_zero {q : Rat} : signQ q = 0 ↔ q = 0 := by
  unfold signQ
  constructor
  · intro h
    split at h
    · cases h
    · split at h
      · rename_i h2; exact Rat.num_eq_zero.1 h2
      · cases h
  · rintro rfl; rfl
/-- The pivot row, of numbers valid or not. -/
def pivR (rows : List (List RR)) (j r : Nat) : Option Nat := (List.range rows.length).find? fun i => decide (r ≤ i) && !decide (signR (rr (mrow rows i) j) = 0)
theorem find_congr {α : Type} {p q : α → Bool} : ∀ {l : List α}, (∀ x ∈ l, p x = q x) → l.find? p = l.find? q
  | [], _ => rfl
  | a :: l, h => by
    rw [List.find?_cons, List.find?_cons, h a (by simp), find_congr fun x hx => h x (by simp [hx])]
theorem pivR_emb {M : List (List Rat)} (hg : GoodM M) {w j : Nat} (hd : dimM M w) (hj : j < w) (r : Nat) : pivR (emb M) j r = pivQ M j r := by
  unfold pivR pivQ
  rw [emb_length]
  refine find_congr ?_
  intro i hi
  have hi' : i < M.length := List.mem_range.1 hi
  have hl : j < (mrow M i).length := by rw [hd i hi']; exact hj
  rw [emb_row, rr_map hl, show qat (mrow M i) j = qel M i j from rfl, signR_ofQ (hg.at hl)]
  congr 2
  simp only [signQ_zero]
theorem find_range {n : Nat} {p : Nat → Bool} {i : Nat} (h : (List.range n).find? p = some i) : i < n ∧ p i = true ∧ ∀ k, k < i → p k = false := by
  rw [List.find?_range_eq_some] at h
  exact ⟨List.mem_range.1 h.2.1, h.1, fun k hk => by simpa using h.2.2 k hk⟩
end Go.Av
end
