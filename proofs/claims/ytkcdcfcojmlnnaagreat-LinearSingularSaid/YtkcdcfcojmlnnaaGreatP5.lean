/- A part of the proof. -/
import Derived.Test.YtkcdcfcojmlnnaaGreatP4
import Derived.ProofKit
import Derived.OpenShut
import Derived.Deep.Slices
set_option linter.all false
set_option exponentiation.threshold 5000
set_option maxRecDepth 10000
section
namespace Go.Av
open Go.Proofs
/-- A function that says whether two values are the same. -/
def saysEq (p : Prop) (v : AV) : Prop := ∃ t : Bool, v = .bool t ∧ (t = true ↔ p)
theorem list_ext_nth {a b : List Nat} (h : a.length = b.length) (he : ∀ k, k < a.length → nth a k = nth b k) : a = b := by
  refine List.ext_getElem h fun k h1 h2 => ?_
  have := he k h1
  unfold nth at this
  rwa [List.getD_eq_getElem?_getD, List.getD_eq_getElem?_getD, List.getElem?_eq_getElem h1, List.getElem?_eq_getElem h2] at this
theorem ints2_call (n1 n2 : Bool) (l1 l2 : List Nat) (h1 : l1.length < 2^40) : ACall Tryz.prog 62 [.agg [.bool n1, lim l1], .agg [.bool n2, lim l2]] Mem.emp fun v m => saysEq (n1 = n2 ∧ l1 = l2) v ∧ m = Mem.emp := by
  by_cases hn : n1 = n2
  · subst hn
    by_cases hl : l1.length = l2.length
    · refine acall_S Tryz.func62 rfl rfl 38 rfl (Nat.le_of_ble_eq_true rfl) ?_
      (repeat refine AW.seq_k fun K hK => ?_)
      refine AW.rgR [2,3] ?_
      simp [argsL]
      try (refine hK _ rfl ?_; clear hK; clear K)
      (repeat refine AW.seq_k fun K hK => ?_)
      refine AW.rg ?_
      simp [hl]
      try (refine hK _ rfl ?_; clear hK; clear K)
      refine AW.no ?_ (by simp)
      refine AW.skip ?_
      try simp
      refine hK _ rfl ?_
      clear hK
      clear K
      refine AW.seq_ex (ι := Unit) (fun _ => []) (fun _ => Mem.emp) (fun _ => l1 = l2) ?_ ?_
      · (repeat refine AW.seq_k fun K hK => ?_)
        refine AW.rg ?_
        simp
        try (refine hK _ rfl ?_; clear hK; clear K)
        refine AW.block (AW.loopS (ι := Nat) (fun i => [(2, .rptr [.bool n1, lim l1]), (3, .rptr [.bool n1, lim l2]), (5, .int .i64 (i : Nat))]) (fun _ => Mem.emp) (fun i => i ≤ l1.length ∧ ∀ k, k < i → nth l1 k = nth l2 k) (fun i => l1.length - i) 0 ⟨by simp, by simp⟩ rfl (by simp) ?_)
        rintro i ⟨g1, g2⟩
        (repeat refine AW.seq_k fun K hK => ?_)
        refine AW.rg ?_
        simp
        try (refine hK _ rfl ?_; clear hK; clear K)
        (repeat refine AW.seq ?_)
        refine AW.cs (fun hi => ?_) (fun hi => ?_) rfl <;> (try simp at hi)
        · refine AW.skip ?_
          try simp
          refine hK _ rfl ?_
          clear hK
          clear K
          have hi2 : i < l2.length := by omega
          have w1 : IntKind.i64.wrap ((i + 1 : Nat) : Int) = ((i + 1 : Nat) : Int) := wi (by omega)
          refine AW.seq_ex (ι := Unit) (fun _ => [(2, .rptr [.bool n1, lim l1]), (3, .rptr [.bool n1, lim l2]), (5, .int .i64 (i : Nat))]) (fun _ => Mem.emp) (fun _ => nth l1 i = nth l2 i) ?_ ?_
          · (repeat refine AW.seq ?_)
            refine AW.block ?_
            (repeat refine AW.seq_k fun K hK => ?_)
            refine AW.rd [0, 1, 2, 3, 4, 5, 6, 7, 8, 9, 10] mix ?_
            simp [hi, hi2]
            try (refine hK _ rfl ?_; clear hK; clear K)
            by_cases h0 : nth l1 i = nth l2 i
            · refine AW.no ?_ (by simp [h0])
              exact AW.skip ⟨(), h0, by simp⟩
            · refine AW.yes ?_ (by simp [h0])
              (repeat refine AW.seq_k fun K hK => ?_)
              refine AW.rg ?_
              simp
              try (refine hK _ rfl ?_; clear hK; clear K)
              exact AW.ret (ret_views (vs := [.bool false]) [.bool false] (by simp) (by simp) ⟨⟨false, rfl, by simp; intro h; exact h0 (by rw [h])⟩, rfl⟩)
          rintro _ h0
          (repeat refine AW.seq_k fun K hK => ?_)
          refine AW.rg ?_
          simp [-Int.natCast_add, w1]
          try (refine hK _ rfl ?_; clear hK; clear K)
          refine ⟨⟨hi, fun k hk => ?_⟩, by omega⟩
          rcases Nat.lt_succ_iff_lt_or_eq.1 hk with h | rfl
          · exact g2 k h
          · exact h0
        · refine AW.exit ?_
          try simp
          exact list_ext_nth hl fun k hk => g2 k (by omega)
      rintro _ rfl
      (repeat refine AW.seq_k fun K hK => ?_)
      refine AW.rg ?_
      simp
      try (refine hK _ rfl ?_; clear hK; clear K)
      exact AW.ret (ret_views (vs := [.bool true]) [.bool true] (by simp) (by simp) ⟨⟨true, rfl, by simp⟩, rfl⟩)
    · refine acall_S Tryz.func62 rfl rfl 38 rfl (Nat.le_of_ble_eq_true rfl) ?_
      (repeat refine AW.seq_k fun K hK => ?_)
      refine AW.rgR [2,3] ?_
      simp [argsL]
      try (refine hK _ rfl ?_; clear hK; clear K)
      (repeat refine AW.seq_k fun K hK => ?_)
      refine AW.rg ?_
      simp [hl]
      try (refine hK _ rfl ?_; clear hK; clear K)
      refine AW.yes ?_ (by simp)
      (repeat refine AW.seq_k fun K hK => ?_)
      refine AW.rg ?_
      simp
      try (refine hK _ rfl ?_; clear hK; clear K)
      exact AW.ret (ret_views (vs := [.bool false]) [.bool false] (by simp) (by simp) ⟨⟨false, rfl, by simp; intro h; exact hl (by rw [h])⟩, rfl⟩)
  · refine acall_S Tryz.func62 rfl rfl 38 rfl (Nat.le_of_ble_eq_true rfl) ?_
    (repeat refine AW.seq_k fun K hK => ?_)
    refine AW.rgR [2,3] ?_
    simp [argsL]
    try (refine hK _ rfl ?_; clear hK; clear K)
    (repeat refine AW.seq_k fun K hK => ?_)
    refine AW.rg ?_
    simp [hn]
    try (refine hK _ rfl ?_; clear hK; clear K)
    refine AW.yes ?_ (by simp)
    (repeat refine AW.seq_k fun K hK => ?_)
    refine AW.rg ?_
    simp
    try (refine hK _ rfl ?_; clear hK; clear K)
    exact AW.ret (ret_views (vs := [.bool false]) [.bool false] (by simp) (by simp) ⟨⟨false, rfl, by simp [hn]⟩, rfl⟩)
def shortR (a : RR) : Prop := a.l1.length < 2^40 ∧ a.l2.length < 2^40
theorem same_call (a b : RR) (h : shortR a) : ACall Tryz.prog 26 [a.av, b.av] Mem.emp fun v m => saysEq (a = b) v ∧ m = Mem.emp := by
  have i1 := ints2_call a.n1 b.n1 a.l1 b.l1 h.1
  have i2 := ints2_call a.n2 b.n2 a.l2 b.l2 h.2
  have hab : a = b ↔ (a.n1 = b.n1 ∧ a.l1 = b.l1) ∧ (a.n2 = b.n2 ∧ a.l2 = b.l2) := by
    obtain ⟨x1, x2, x3, x4⟩ := a
    obtain ⟨y1, y2, y3, y4⟩ := b
    simp only [RR.mk.injEq, and_assoc]
  unfold RR.av
  refine acall_S Tryz.func26 rfl rfl 17 rfl (Nat.le_of_ble_eq_true rfl) ?_
  (repeat refine AW.seq_k fun K hK => ?_)
  refine AW.rgR [2,3] ?_
  simp [argsL]
  try (refine hK _ rfl ?_; clear hK; clear K)
  (repeat refine AW.seq_k fun K hK => ?_)
  refine AW.rg ?_
  simp
  try (refine hK _ rfl ?_; clear hK; clear K)
  refine CallK.pure i1 ?_
  rintro _ ⟨t1, rfl, h1⟩
  simp
  cases t1
  · simp
    refine hK _ rfl ?_
    clear hK
    clear K
    exact AW.ret (ret_views (vs := [.bool false]) [.bool false] (by simp) (by simp) ⟨⟨false, rfl, by simp only [Bool.false_eq_true, false_iff]; intro h; have := h1.2 (hab.1 h).1; cases this⟩, rfl⟩)
  · simp
    refine CallK.pure i2 ?_
    rintro _ ⟨t2, rfl, h2⟩
    simp
    refine hK _ rfl ?_
    clear hK
    clear K
    exact AW.ret (ret_views (vs := [.bool t2]) [.bool t2] (by simp) (by simp) ⟨⟨t2, rfl, by rw [h2, hab]; exact ⟨fun h => ⟨h1.1 rfl, h⟩, fun h => h.2⟩⟩, rfl⟩)
theorem list_ext_rr {a b : List RR} (h : a.length = b.length) (he : ∀ k, k < a.length → rr a k = rr b k) : a = b := by
  refine List.ext_getElem h fun k h1 h2 => ?_
  have := he k h1
  rwa [rr_eq h1, rr_eq h2] at this
theorem list_ext_row {α : Type} {a b : List (List α)} (h : a.length = b.length) (he : ∀ k, k < a.length → mrow a k = mrow b k) : a = b := by
  refine List.ext_getElem h fun k h1 h2 => ?_
  have := he k h1
  rwa [mrow_eq h1, mrow_eq h2] at this
theorem row_call (a b : List RR) (h : ∀ x ∈ a, shortR x) (hl : a.length < 2^40) : ACall Tryz.prog 44 [rowAV a, rowAV b] Mem.emp fun v m => saysEq (a = b) v ∧ m = Mem.emp := by
  by_cases hab : a.length = b.length
  · refine acall_S Tryz.func44 rfl rfl 27 rfl (Nat.le_of_ble_eq_true rfl) ?_
    (repeat refine AW.seq_k fun K hK => ?_)
    refine AW.rg ?_
    simp [argsL]
    try (refine hK _ rfl ?_; clear hK; clear K)
    (repeat refine AW.seq_k fun K hK => ?_)
    refine AW.rg ?_
    simp
    try (refine hK _ rfl ?_; clear hK; clear K)
    refine AW.no ?_ (by simp [hab])
    refine AW.skip ?_
    try simp
    refine hK _ rfl ?_
    clear hK
    clear K
    refine AW.seq_ex (ι := Unit) (fun _ => []) (fun _ => Mem.emp) (fun _ => a = b) ?_ ?_
    · (repeat refine AW.seq_k fun K hK => ?_)
      refine AW.rg ?_
      simp
      try (refine hK _ rfl ?_; clear hK; clear K)
      refine AW.block (AW.loopS (ι := Nat) (fun i => [(0, rowAV a), (1, rowAV b), (5, .int .i64 (i : Nat))]) (fun _ => Mem.emp) (fun i => i ≤ a.length ∧ ∀ k, k < i → rr a k = rr b k) (fun i => a.length - i) 0 ⟨by simp, by simp⟩ rfl (by simp) ?_)
      rintro i ⟨g1, g2⟩
      (repeat refine AW.seq_k fun K hK => ?_)
      refine AW.rg ?_
      simp
      try (refine hK _ rfl ?_; clear hK; clear K)
      (repeat refine AW.seq ?_)
      refine AW.cs (fun hi => ?_) (fun hi => ?_) rfl <;> (try simp at hi)
      · refine AW.skip ?_
        try simp
        refine hK _ rfl ?_
        clear hK
        clear K
        have hi2 : i < b.length := by omega
        have w1 : IntKind.i64.wrap ((i + 1 : Nat) : Int) = ((i + 1 : Nat) : Int) := wi (by omega)
        have hs := same_call (rr a i) (rr b i) (h _ (by rw [rr_eq hi]; exact List.getElem_mem hi))
        refine AW.seq_ex (ι := Unit) (fun _ => [(0, rowAV a), (1, rowAV b), (5, .int .i64 (i : Nat))]) (fun _ => Mem.emp) (fun _ => rr a i = rr b i) ?_ ?_
        · (repeat refine AW.seq ?_)
          refine AW.block ?_
          (repeat refine AW.seq_k fun K hK => ?_)
          refine AW.rd [0, 1, 2, 3, 4, 5, 6, 7, 8, 9] mix ?_
          simp [hi, hi2]
          try (refine hK _ rfl ?_; clear hK; clear K)
          refine CallK.pure hs ?_
          rintro _ ⟨t, rfl, ht⟩
          simp
          refine hK _ rfl ?_
          clear hK
          clear K
          cases t
          · refine AW.yes ?_ rfl
            (repeat refine AW.seq_k fun K hK => ?_)
            refine AW.rg ?_
            simp
            try (refine hK _ rfl ?_; clear hK; clear K)
            exact AW.ret (ret_views (vs := [.bool false]) [.bool false] (by simp) (by simp) ⟨⟨false, rfl, by simp only [Bool.false_eq_true, false_iff]; intro h; have := ht.2 (by rw [h]); cases this⟩, rfl⟩)
          · refine AW.no ?_ rfl
            exact AW.skip ⟨(), ht.1 rfl, by simp⟩
        rintro _ h0
        (repeat refine AW.seq_k fun K hK => ?_)
        refine AW.rg ?_
        simp [-Int.natCast_add, w1]
        try (refine hK _ rfl ?_; clear hK; clear K)
        refine ⟨⟨hi, fun k hk => ?_⟩, by omega⟩
        rcases Nat.lt_succ_iff_lt_or_eq.1 hk with h | rfl
        · exact g2 k h
        · exact h0
      · refine AW.exit ?_
        try simp
        exact list_ext_rr hab fun k hk => g2 k (by omega)
    rintro _ rfl
    (repeat refine AW.seq_k fun K hK => ?_)
    refine AW.rg ?_
    simp
    try (refine hK _ rfl ?_; clear hK; clear K)
    exact AW.ret (ret_views (vs := [.bool true]) [.bool true] (by simp) (by simp) ⟨⟨true, rfl, by simp⟩, rfl⟩)
  · refine acall_S Tryz.func44 rfl rfl 27 rfl (Nat.le_of_ble_eq_true rfl) ?_
    (repeat refine AW.seq_k fun K hK => ?_)
    refine AW.rg ?_
    simp [argsL]
    try (refine hK _ rfl ?_; clear hK; clear K)
    (repeat refine AW.seq_k fun K hK => ?_)
    refine AW.rg ?_
    simp
    try (refine hK _ rfl ?_; clear hK; clear K)
    refine AW.yes ?_ (by simp [hab])
    (repeat refine AW.seq_k fun K hK => ?_)
    refine AW.rg ?_
    simp
    try (refine hK _ rfl ?_; clear hK; clear K)
    exact AW.ret (ret_views (vs := [.bool false]) [.bool false] (by simp) (by simp) ⟨⟨false, rfl, by simp; intro h; exact hab (by rw [h])⟩, rfl⟩)
theorem rows_call (a b : List (List RR)) (h : ∀ r ∈ a, ∀ x ∈ r, shortR x) (hl : a.length < 2^40) (hr : ∀ r ∈ a, r.length < 2^40) : ACall Tryz.prog 21 [matAV a, matAV b] Mem.emp fun v m => saysEq (a = b) v ∧ m = Mem.emp := by
  by_cases hab : a.length = b.length
  · refine acall_S Tryz.func21 rfl rfl 27 rfl (Nat.le_of_ble_eq_true rfl) ?_
    (repeat refine AW.seq_k fun K hK => ?_)
    refine AW.rg ?_
    simp [argsL]
    try (refine hK _ rfl ?_; clear hK; clear K)
    (repeat refine AW.seq_k fun K hK => ?_)
    refine AW.rg ?_
    simp
    try (refine hK _ rfl ?_; clear hK; clear K)
    refine AW.no ?_ (by simp [hab])
    refine AW.skip ?_
    try simp
    refine hK _ rfl ?_
    clear hK
    clear K
    refine AW.seq_ex (ι := Unit) (fun _ => []) (fun _ => Mem.emp) (fun _ => a = b) ?_ ?_
    · (repeat refine AW.seq_k fun K hK => ?_)
      refine AW.rg ?_
      simp
      try (refine hK _ rfl ?_; clear hK; clear K)
      refine AW.block (AW.loopS (ι := Nat) (fun i => [(0, matAV a), (1, matAV b), (5, .int .i64 (i : Nat))]) (fun _ => Mem.emp) (fun i => i ≤ a.length ∧ ∀ k, k < i → mrow a k = mrow b k) (fun i => a.length - i) 0 ⟨by simp, by simp⟩ rfl (by simp) ?_)
      rintro i ⟨g1, g2⟩
      (repeat refine AW.seq_k fun K hK => ?_)
      refine AW.rg ?_
      simp
      try (refine hK _ rfl ?_; clear hK; clear K)
      (repeat refine AW.seq ?_)
      refine AW.cs (fun hi => ?_) (fun hi => ?_) rfl <;> (try simp at hi)
      · refine AW.skip ?_
        try simp
        refine hK _ rfl ?_
        clear hK
        clear K
        have hi2 : i < b.length := by omega
        have w1 : IntKind.i64.wrap ((i + 1 : Nat) : Int) = ((i + 1 : Nat) : Int) := wi (by omega)
        have hm : mrow a i ∈ a := by rw [mrow_eq hi]; exact List.getElem_mem hi
        have hs := row_call (mrow a i) (mrow b i) (h _ hm) (hr _ hm)
        refine AW.seq_ex (ι := Unit) (fun _ => [(0, matAV a), (1, matAV b), (5, .int .i64 (i : Nat))]) (fun _ => Mem.emp) (fun _ => mrow a i = mrow b i) ?_ ?_
        · (repeat refine AW.seq ?_)
          refine AW.block ?_
          (repeat refine AW.seq_k fun K hK => ?_)
          refine AW.rd [0, 1, 2, 3, 4, 5, 6, 7, 8, 9] mix ?_
          simp [hi, hi2]
          try (refine hK _ rfl ?_; clear hK; clear K)
          refine CallK.pure hs ?_
          rintro _ ⟨t, rfl, ht⟩
          simp
          refine hK _ rfl ?_
          clear hK
          clear K
          cases t
          · refine AW.yes ?_ rfl
            (repeat refine AW.seq_k fun K hK => ?_)
            refine AW.rg ?_
            simp
            try (refine hK _ rfl ?_; clear hK; clear K)
            exact AW.ret (ret_views (vs := [.bool false]) [.bool false] (by simp) (by simp) ⟨⟨false, rfl, by simp only [Bool.false_eq_true, false_iff]; intro h; have := ht.2 (by rw [h]); cases this⟩, rfl⟩)
          · refine AW.no ?_ rfl
            exact AW.skip ⟨(), ht.1 rfl, by simp⟩
        rintro _ h0
        (repeat refine AW.seq_k fun K hK => ?_)
        refine AW.rg ?_
        simp [-Int.natCast_add, w1]
        try (refine hK _ rfl ?_; clear hK; clear K)
        refine ⟨⟨hi, fun k hk => ?_⟩, by omega⟩
        rcases Nat.lt_succ_iff_lt_or_eq.1 hk with h | rfl
        · exact g2 k h
        · exact h0
      · refine AW.exit ?_
        try simp
        exact list_ext_row hab fun k hk => g2 k (by omega)
    rintro _ rfl
    (repeat refine AW.seq_k fun K hK => ?_)
    refine AW.rg ?_
    simp
    try (refine hK _ rfl ?_; clear hK; clear K)
    exact AW.ret (ret_views (vs := [.bool true]) [.bool true] (by simp) (by simp) ⟨⟨true, rfl, by simp⟩, rfl⟩)
  · refine acall_S Tryz.func21 rfl rfl 27 rfl (Nat.le_of_ble_eq_true rfl) ?_
    (repeat refine AW.seq_k fun K hK => ?_)
    refine AW.rg ?_
    simp [argsL]
    try (refine hK _ rfl ?_; clear hK; clear K)
    (repeat refine AW.seq_k fun K hK => ?_)
    refine AW.rg ?_
    simp
    try (refine hK _ rfl ?_; clear hK; clear K)
    refine AW.yes ?_ (by simp [hab])
    (repeat refine AW.seq_k fun K hK => ?_)
    refine AW.rg ?_
    simp
    try (refine hK _ rfl ?_; clear hK; clear K)
    exact AW.ret (ret_views (vs := [.bool false]) [.bool false] (by simp) (by simp) ⟨⟨false, rfl, by simp; intro h; exact hab (by rw [h])⟩, rfl⟩)
end Go.Av
end
section
namespace Go.Av
open Go.Proofs
theorem wholeW_call (n : Int) (h1 : -9223372036854775808 ≤ n) (h2 : n < 9223372036854775808) : ACall Tryz.prog 37 [.int .i64 n] Mem.emp fun v m => v = (ofQ (intQ n)).av ∧ m = Mem.emp := by
  have ho := of2_call n 1 h1 h2 (by omega) (by omega) (by omega)
  have e : Rat.divInt n 1 = intQ n := rfl
  rw [e, resQ] at ho
  generalize intQ n = q at *
  unfold qAV at ho
  unfold RR.av ofQ
  simp only
  refine acall_S Tryz.func37 rfl rfl 11 rfl (Nat.le_of_ble_eq_true rfl) ?_
  (repeat refine AW.seq_k fun K hK => ?_)
  refine AW.rg ?_
  simp [argsL]
  try (refine hK _ rfl ?_; clear hK; clear K)
  refine Fresh.intro fun b2 hb2 => ?_
  refine hK _ rfl ?_
  clear hK
  clear K
  (repeat refine AW.seq_k fun K hK => ?_)
  refine AW.rg ?_
  simp
  try (refine hK _ rfl ?_; clear hK; clear K)
  refine CallK.val ho ?_
  simp
  refine Fresh.intro fun b3 hb3 => ?_
  simp only [set_none2, emp_at, and_true] at hb3
  try simp [hb3]
  refine hK _ rfl ?_
  clear hK
  clear K
  (repeat refine AW.seq_k fun K hK => ?_)
  refine AW.rg ?_
  simp [hb3]
  try (refine hK _ rfl ?_; clear hK; clear K)
  exact AW.ret (ret_views (vs := [.agg [.bool (decide (q.num < 0)), lim (dig q.num.natAbs), .bool false, lim (dig q.den)]]) [.agg [.bool (decide (q.num < 0)), lim (dig q.num.natAbs), .bool false, lim (dig q.den)]] (by simp [hb3]) (by simp) ⟨rfl, rfl⟩)
end Go.Av
end
section
namespace Go.Av
open Go.Proofs
theorem unq_emb (X : List (List Rat)) : unq (emb X) = X := by
  unfold unq emb
  rw [List.map_map]
  conv => rhs; rw [← List.map_id X]
  refine List.map_congr_left fun r _ => ?_
  show (r.map ofQ).map RR.q = r
  rw [List.map_map]
  conv => rhs; rw [← List.map_id r]
  exact List.map_congr_left fun q _ => ofQ_q q
theorem chk_good {n w : Nat} {X : List (List Rat)} (h : matGood n w X) (hw : (mrow X 0).length = w) (h1 : n ≤ 64) (h2 : w ≤ 64) : chk (emb X) = 0 := by
  refine chk_ok ?_ ?_
  · rintro (h' | ⟨k, hk, h'⟩)
    · rw [emb_length, h.2.2] at h'; omega
    · rw [emb_length, h.2.2] at hk
      rw [emb_row, List.length_map, (h.row hk).2] at h'; omega
  · intro k hk
    rw [emb_length, h.2.2] at hk
    rw [emb_row, emb_row, List.length_map, List.length_map, (h.row hk).2, hw]
    refine ⟨rfl, fun j hj => ?_⟩
    have hjl : j < (mrow X k).length := by rw [(h.row hk).2]; exact hj
    rw [rr_map hjl]
    exact ofQ_ok ((h.row hk).1.at hjl)
def exK : List (List Rat) := [[intQ 0, intQ 2, intQ 4], [intQ 1, intQ 1, intQ 1]]
def exD : List (List Rat) := [[intQ 1, intQ 2], [intQ 3, intQ 4]]
def exS : List (List Rat) := [[intQ 1, intQ 2], [intQ 2, intQ 1]]
theorem exK_good : matGood 2 3 exK := ⟨by unfold GoodM Good; decide +kernel, by unfold dimM; decide +kernel, rfl⟩
theorem exD_good : matGood 2 2 exD := ⟨by unfold GoodM Good; decide +kernel, by unfold dimM; decide +kernel, rfl⟩
theorem exS_good : matGood 2 2 exS := ⟨by unfold GoodM Good; decide +kernel, by unfold dimM; decide +kernel, rfl⟩
theorem exK_red : reduceQ exK = some ([[intQ 1, intQ 0, intQ (-1)], [intQ 0, intQ 1, intQ 2]], [0, 1]) := by decide +kernel
theorem exK_ker : kerP [[intQ 1, intQ 0, intQ (-1)], [intQ 0, intQ 1, intQ 2]] [0, 1] 3 3 = [[intQ 1, intQ (-2), intQ 1]] := by decide +kernel
theorem exK_R : kerR (emb exK) = (0, [[intQ 1, intQ (-2), intQ 1]]) := by
  have hc := chk_good exK_good rfl (by omega) (by omega)
  have hr : redR (emb exK) = (0, [[intQ 1, intQ 0, intQ (-1)], [intQ 0, intQ 1, intQ 2]], [0, 1]) := by
    unfold redR
    rw [if_neg (by simp [hc]), unq_emb, exK_red]
  unfold kerR
  rw [hr, if_neg (by simp)]
  exact congrArg _ exK_ker
theorem exD_det : detQ 2 exD = some (intQ (-2)) := by decide +kernel
theorem exD_R : detR (emb exD) = (0, ofQ (intQ (-2))) := by
  have hc := chk_good exD_good rfl (by omega) (by omega)
  unfold detR
  rw [if_neg (by simp [hc]), unq_emb, if_neg (by simp [emb, exD, mrow]), show (emb exD).length = 2 from rfl, exD_det]
theorem exS_sq : sqIter 2 exS 2 = .vec [intQ (-2), intQ 1] := by
  have : (match sqIter 2 exS 2 with | .vec v => decide (v = [intQ (-2), intQ 1]) | _ => false) = true := by decide +kernel
  revert this
  cases sqIter 2 exS 2 <;> simp
theorem exS_R : sqR (emb exS) = ⟨0, [], [], [intQ (-2), intQ 1]⟩ := by
  have hc := chk_good exS_good rfl (by omega) (by omega)
  unfold sqR
  rw [if_neg (by simp [hc]), unq_emb, show (emb exS).length = 2 from rfl, if_pos ⟨rfl, by unfold symm; decide +kernel⟩, exS_sq]
  rfl
set_option maxHeartbeats 1000000
theorem works_call : ACall Tryz.prog 16 [] Mem.emp fun v m => v = .bool true ∧ m = Mem.emp := by
  have hw := fun (n : Int) (h1 : -9223372036854775808 ≤ n) (h2 : n < 9223372036854775808) => wholeW_call n h1 h2
  have hk := kernelL_call (emb exK) (lb_emb _)
  rw [exK_R] at hk
  have hd := detL_call (emb exD) (lb_emb _)
  rw [exD_R] at hd
  have hs := squaresL_call (emb exS) (lb_emb _)
  rw [exS_R] at hs
  have sh : ∀ q, Good q → shortR (ofQ q) := fun q h => short_good h
  have g1 : Good (intQ 1) := intQ_good (by decide)
  have g2 : Good (intQ (-2)) := intQ_good (by decide)
  have hrows := rows_call (emb [[intQ 1, intQ (-2), intQ 1]]) (emb [[intQ 1, intQ (-2), intQ 1]]) (by
    intro r hr x hx
    simp [emb] at hr
    subst hr
    simp at hx
    rcases hx with rfl | rfl | rfl
    · exact sh _ g1
    · exact sh _ g2
    · exact sh _ g1) (by decide) (by
    intro r hr
    simp [emb] at hr
    subst hr
    decide)
  have hrow := row_call ([intQ (-2), intQ 1].map ofQ) ([intQ (-2), intQ 1].map ofQ) (by
    intro x hx
    simp at hx
    rcases hx with rfl | rfl
    · exact sh _ g2
    · exact sh _ g1) (by decide)
  have hsame := same_call (ofQ (intQ (-2))) (ofQ (intQ (-2))) (sh _ g2)
  refine acall_S Tryz.func16 rfl rfl 79 rfl (Nat.le_of_ble_eq_true rfl) ?_
  (repeat refine AW.seq_k fun K hK => ?_)
  refine AW.rg ?_
  simp [argsL]
  try (refine hK _ rfl ?_; clear hK; clear K)
  (repeat refine AW.seq_k fun K hK => ?_)
  refine AW.rgR [13,17,18] ?_
  simp
  try (refine hK _ rfl ?_; clear hK; clear K)
  refine CallK.val (hw 0 (by omega) (by omega)) ?_
  simp
  refine CallK.val (hw 2 (by omega) (by omega)) ?_
  simp
  refine CallK.val (hw 4 (by omega) (by omega)) ?_
  simp
  refine CallK.val (hw 1 (by omega) (by omega)) ?_
  simp
  refine CallK.val (hw 1 (by omega) (by omega)) ?_
  simp
  refine CallK.val (hw 1 (by omega) (by omega)) ?_
  simp
  refine hK _ rfl ?_
  clear hK
  clear K
  (repeat refine AW.seq_k fun K hK => ?_)
  refine AW.rg ?_
  simp
  try (refine hK _ rfl ?_; clear hK; clear K)
  refine CallK.val hk ?_
  simp
  refine hK _ rfl ?_
  clear hK
  clear K
  (repeat refine AW.seq_k fun K hK => ?_)
  refine AW.rgR [27,30,31] ?_
  simp
  try (refine hK _ rfl ?_; clear hK; clear K)
  refine CallK.val (hw 1 (by omega) (by omega)) ?_
  simp
  refine CallK.val (hw 2 (by omega) (by omega)) ?_
  simp
  refine CallK.val (hw 3 (by omega) (by omega)) ?_
  simp
  refine CallK.val (hw 4 (by omega) (by omega)) ?_
  simp
  refine CallK.val hd ?_
  simp
  refine Fresh.intro fun b4 _ => ?_
  refine hK _ rfl ?_
  clear hK
  clear K
  refine AW.toEmp [(2, matAV (emb [[intQ 1, intQ (-2), intQ 1]])), (3, .int .i64 0), (4, .rptr [.bool (ofQ (intQ (-2))).n1, lim (ofQ (intQ (-2))).l1, .bool (ofQ (intQ (-2))).n2, lim (ofQ (intQ (-2))).l2]), (5, .int .i64 0)] (by simp; exact view_temp rfl) ?_
  (repeat refine AW.seq_k fun K hK => ?_)
  refine AW.rgR [38,41,42] ?_
  simp
  try (refine hK _ rfl ?_; clear hK; clear K)
  refine CallK.val (hw 1 (by omega) (by omega)) ?_
  simp
  refine CallK.val (hw 2 (by omega) (by omega)) ?_
  simp
  refine CallK.val (hw 2 (by omega) (by omega)) ?_
  simp
  refine CallK.val (hw 1 (by omega) (by omega)) ?_
  simp
  refine CallK.val hs ?_
  simp [sqAV]
  refine hK _ rfl ?_
  clear hK
  clear K
  have yes : ∀ {p : Prop} {v : AV} {m : Mem}, p → saysEq p v ∧ m = Mem.emp → v = .bool true ∧ m = Mem.emp := by
    rintro p v m hp ⟨⟨t, rfl, h⟩, h2⟩
    exact ⟨by rw [h.2 hp], h2⟩
  replace hrows := hrows.mono fun v m h => yes rfl h
  replace hrow := hrow.mono fun v m h => yes rfl h
  replace hsame := hsame.mono fun v m h => yes rfl h
  refine AW.seq_k fun K hK => ?_
  refine AW.rdR [55, 56, 76] [0,1,2,3,4,5,6,7,8,9,10,11,12,13,14,15,16,17,18,19,20,21,22,23,24,25,26,27,28,29,30,31] mix ?_
  simp
  refine CallK.val (hw 1 (by omega) (by omega)) ?_
  simp
  refine CallK.val (hw (-2) (by omega) (by omega)) ?_
  simp
  refine CallK.val (hw 1 (by omega) (by omega)) ?_
  simp
  refine CallK.val hrows ?_
  simp
  refine CallK.val (hw (-2) (by omega) (by omega)) ?_
  simp
  refine CallK.val hsame ?_
  simp
  refine CallK.val (hw (-2) (by omega) (by omega)) ?_
  simp
  refine CallK.val (hw 1 (by omega) (by omega)) ?_
  simp
  refine CallK.val hrow ?_
  simp
  refine hK _ rfl ?_
  clear hK
  clear K
  exact AW.ret (ret_views (vs := [.bool true]) [.bool true] (by simp) (by simp) ⟨rfl, rfl⟩)
end Go.Av
end
section
namespace Go.Av
open Go.Proofs
def pivI (o : Option Nat) : Int := match o with
  | some i => i
  | none => -1
end Go.Av
end
section
namespace Go.Av
open Go.Proofs
def twoM (bi br : Nat) (a b : List Rat) : Mem := (Mem.emp.set bi ⟨36, 4, rrs (a.map ofQ)⟩).set br ⟨36, 4, rrs (b.map ofQ)⟩
def subOut (bi br : Nat) (by_ : List Rat) (X : Option (List Rat)) (v : AV) (M : Mem) : Prop :=
  match X with
  | some row => v = .int .i64 0 ∧ M = twoM bi br row by_
  | none => v = .int .i64 2 ∧ OnesM M ∧ ∀ b, M b ≠ none → b = bi ∨ b = br
end Go.Av
end
section
namespace Go.Av
open Go.Proofs
/-- A matrix of the reference in memory. -/
def RefM (M : Mem) (B : Nat) (bs : List Nat) (X : List (List Rat)) : Prop := MatM M B bs (emb X) ∧ OnlyM M (B :: bs)
theorem RefM.ones {M : Mem} {B : Nat} {bs : List Nat} {X : List (List Rat)} (h : RefM M B bs X) : OnesM M := h.1.ones (l := []) h.2 (by simp)
theorem RefM.setRow {M : Mem} {B : Nat} {bs : List Nat} {X : List (List Rat)} (h : RefM M B bs X) {i : Nat} (hi : i < X.length) {r : List Rat} (hr : r.length = (mrow X i).length) : RefM (M.set (nb bs i) ⟨36, 4, rrs (r.map ofQ)⟩) B bs (X.set i r) := by
  refine ⟨?_, h.2.set ?_ _⟩
  · rw [emb_set]
    exact h.1.setRow (by rw [emb_length]; exact hi) _ (by rw [emb_row, List.length_map, List.length_map, hr])
  · exact List.mem_cons_of_mem _ (nb_mem (by rw [h.1.len, emb_length]; exact hi))
def clearOut (B : Nat) (bs : List Nat) (Z : Option (List (List Rat))) (v : AV) (M : Mem) : Prop :=
  match Z with
  | some Y => v = .int .i64 0 ∧ RefM M B bs Y
  | none => v = .int .i64 2 ∧ OnesM M
set_option maxHeartbeats 1000000
end Go.Av
end
section
namespace Go.Av
open Go.Proofs
/-- A matrix whose rows are appended one after the other. -/
def CopM (M : Mem) (ov : AV) (bs : List Nat) (rows : List (List RR)) : Prop :=
  (rows = [] ∧ bs = [] ∧ ov = .nil ∧ M = Mem.emp) ∨ ∃ B, ov = .osl B 1 0 rows.length ∧ MatM M B bs rows ∧ OnlyM M (B :: bs)
theorem MatM.snoc {M' : Mem} {B : Nat} {bs : List Nat} {rows : List (List RR)} {b : Nat} {r : List RR} (hl : bs.length = rows.length) (htop : M' B = some ⟨42, 1, hdrs bs rows ++ [.osl b 4 0 r.length]⟩) (hrow : ∀ i, i < rows.length → M' (nb bs i) = some ⟨36, 4, rrs (mrow rows i)⟩) (hb : M' b = some ⟨36, 4, rrs r⟩) (hnd : bs.Nodup) (hbb : b ∉ bs) (hB : B ∉ bs) (hBb : B ≠ b) : MatM M' B (bs ++ [b]) (rows ++ [r]) := by
  refine ⟨by rw [hdrs_snoc hl]; exact htop, by simp [hl], fun i hi => ?_, ?_, ?_⟩
  · have hi' : i < rows.length + 1 := by simpa using hi
    rw [nb_snoc bs b i (by rw [hl]; exact hi'), mrow_snoc rows r i hi', hl]
    by_cases hlt : i < rows.length
    · rw [if_pos hlt, if_pos hlt]; exact hrow i hlt
    · rw [if_neg hlt, if_neg hlt]; exact hb
  · rw [List.nodup_append]
    exact ⟨hnd, by simp, fun x hx y hy => by simp at hy; subst hy; exact fun e => hbb (e ▸ hx)⟩
  · simp only [List.mem_append, List.mem_singleton, not_or]
    exact ⟨hB, hBb⟩
end Go.Av
end
section
namespace Go.Av
open Go.Proofs
structure RefP (M : Mem) (B : Nat) (bs : List Nat) (X : List (List Rat)) (pv : AV) (pb ps : List Nat) : Prop where
  mat : MatM M B bs (emb X)
  piv : PivV M pv pb ps
  npb : ∀ b ∈ pb, b ∉ B :: bs
  ones : OnesM M
section
variable {M : Mem} {B : Nat} {bs : List Nat} {X : List (List Rat)} {pv : AV} {pb ps : List Nat}
theorem RefP.back (h : RefP M B bs X pv pb ps) {g : Mem} {X' : List (List Rat)} (hg : RefM g B bs X') : RefP (M.back (B :: bs) g) B bs X' pv pb ps :=
  ⟨hg.1.back _, h.piv.keep fun b hb => back_out (hg.2.none (h.npb b hb)) (h.npb b hb), h.npb, back_ones h.ones hg.ones⟩
theorem RefP.swap (h : RefP M B bs X pv pb ps) {i r : Nat} (hi : i < X.length) (hr : r < X.length) :
    RefP (M.set B ⟨42, 1, ((hdrs bs (emb X)).set i (.osl (nb bs r) 4 0 (mrow (emb X) r).length)).set r (.osl (nb bs i) 4 0 (mrow (emb X) i).length)⟩) B (swapB bs i r) (swapL X i r) pv pb ps := by
  have hiE : i < (emb X).length := by rw [emb_length]; exact hi
  have hrE : r < (emb X).length := by rw [emb_length]; exact hr
  have hb : ∀ b, b ∈ swapB bs i r ↔ b ∈ bs := fun b => swapB_mem (by rw [h.mat.len]; exact hiE) (by rw [h.mat.len]; exact hrE) b
  refine ⟨by rw [emb_swap]; exact h.mat.swap hiE hrE, h.piv.keep fun b hb' => ?_, fun b hb' => ?_, OnesM.set h.ones B fun v hv => ?_⟩
  · simp only [set_at]; rw [if_neg (by rintro rfl; exact h.npb _ hb' (by simp))]
  · have := h.npb b hb'; simpa [hb] using this
  · rcases List.mem_or_eq_of_mem_set hv with hv | rfl
    · rcases List.mem_or_eq_of_mem_set hv with hv | rfl
      · exact hdrs_ones bs (emb X) v hv
      · rfl
    · rfl
theorem RefP.fresh (h : RefP M B bs X pv pb ps) {b : Nat} (hb : M b = none) : b ∉ B :: bs := by
  intro hm
  rcases List.mem_cons.1 hm with rfl | hm
  · rw [h.mat.top] at hb; cases hb
  · obtain ⟨k, hk, e⟩ := List.mem_iff_getElem.1 hm
    rw [← nb_eq hk] at e
    have := h.mat.row k (by rw [← h.mat.len]; exact hk)
    rw [e, hb] at this; cases this
theorem RefP.push0 (h : RefP M B bs X .nil [] []) {b : Nat} (hb : M b = none) (j : Nat) : RefP (M.set b ⟨3, 1, [.int .i64 (j : Nat)]⟩) B bs X (.osl b 1 0 1) [b] [j] := by
  have hn := h.fresh hb
  have h1 : b ≠ B := fun e => hn (by simp [e])
  have h2 : b ∉ bs := fun e => hn (by simp [e])
  exact ⟨h.mat.other h1 h2 _, .inr ⟨b, rfl, rfl, by simp [ints]⟩, fun a ha => by simp at ha; subst ha; exact hn, h.ones.set b fun v hv => by simp at hv; subst hv; rfl⟩
theorem RefP.push1 {b0 : Nat} (h : RefP M B bs X (.osl b0 1 0 ps.length) [b0] ps) {b : Nat} (hb : (M.del b0) b = none) (j : Nat) : RefP ((M.del b0).set b ⟨3, 1, ints ps ++ [.int .i64 (j : Nat)]⟩) B bs X (.osl b 1 0 (ps.length + 1)) [b] (ps ++ [j]) := by
  have h0 := h.npb b0 (by simp)
  have hh : RefP (M.del b0) B bs X .nil [] [] := by
    have hdel : ∀ a, a ≠ b0 → (M.del b0) a = M a := fun a ha => if_neg ha
    refine ⟨⟨by rw [hdel B (by rintro rfl; exact h0 (by simp))]; exact h.mat.top, h.mat.len, fun i hi => ?_, h.mat.nd, h.mat.nB⟩, .inl ⟨rfl, rfl, rfl⟩, by simp, h.ones.del b0⟩
    rw [hdel _ (fun e => h0 (e ▸ List.mem_cons_of_mem _ (nb_mem (by rw [h.mat.len]; exact hi))))]
    exact h.mat.row i hi
  have hn := hh.fresh hb
  have h1 : b ≠ B := fun e => hn (by simp [e])
  have h2 : b ∉ bs := fun e => hn (by simp [e])
  refine ⟨hh.mat.other h1 h2 _, .inr ⟨b, rfl, by simp, by simp [ints_snoc]⟩, fun a ha => by simp at ha; subst ha; exact hn, hh.ones.set b fun v hv => ?_⟩
  rcases List.mem_append.1 hv with hv | hv
  · exact ints_one ps v hv
  · simp at hv; subst hv; rfl
end
structure RefS where
  X : List (List Rat)
  ps : List Nat
  M : Mem
  bs : List Nat
  pv : AV
  pb : List Nat
def InvQ (X0 : List (List Rat)) (B w j : Nat) (s : RefS) : Prop :=
  iterO colStep j (X0, []) = some (s.X, s.ps) ∧ matGood X0.length w s.X ∧ s.ps.length ≤ X0.length ∧ RefP s.M B s.bs s.X s.pv s.pb s.ps
set_option maxHeartbeats 1000000
end Go.Av
end
section
namespace Go.Av
open Go.Proofs
theorem ty22 : Tryz.prog.underlying 22 = some (.slice 42) := by kernel_rfl
theorem ty42 : Tryz.prog.underlying 42 = some (.slice 36) := by kernel_rfl
theorem ty32 : Tryz.prog.underlying 32 = some (.slice 87) := by kernel_rfl
theorem ty87 : Tryz.prog.underlying 87 = some (.int .u32) := by kernel_rfl
theorem ty4 : Tryz.prog.underlying 4 = some .bool := by kernel_rfl
theorem cl87 : Tryz.prog.cellsOf 87 = 1 := by kernel_rfl
theorem cl42 : Tryz.prog.cellsOf 42 = 1 := by kernel_rfl
theorem cl36 : Tryz.prog.cellsOf 36 = 4 := by kernel_rfl
theorem cl34 : Tryz.prog.cellsOf 34 = 2 := by kernel_rfl
theorem cl32 : Tryz.prog.cellsOf 32 = 1 := by kernel_rfl
theorem cl4 : Tryz.prog.cellsOf 4 = 1 := by kernel_rfl
noncomputable def flds (t : TypeId) : Array Field := match Tryz.prog.underlying t with
  | some (.struct fs) => fs
  | _ => #[]
noncomputable def fldT (t : TypeId) (i : Nat) : Option (TypeId × Nat) := ((flds t)[i]?).map fun f => (f.type, f.offset)
theorem ty36 : Tryz.prog.underlying 36 = some (.struct (flds 36)) := by kernel_rfl
theorem ty34 : Tryz.prog.underlying 34 = some (.struct (flds 34)) := by kernel_rfl
theorem f36_0 : fldT 36 0 = some (34, 0) := by kernel_rfl
theorem f36_1 : fldT 36 1 = some (34, 2) := by kernel_rfl
theorem f34_0 : fldT 34 0 = some (4, 0) := by kernel_rfl
theorem f34_1 : fldT 34 1 = some (32, 1) := by kernel_rfl
theorem fld_get {t : TypeId} {i : Nat} {p : TypeId × Nat} (h : fldT t i = some p) : ∃ f : Field, (flds t)[i]? = some f ∧ f.type = p.1 ∧ f.offset = p.2 := by
  unfold fldT at h
  cases hf : (flds t)[i]? with
  | none => rw [hf] at h; cases h
  | some f => rw [hf] at h; cases h; exact ⟨f, rfl, rfl, rfl⟩
variable {H : Type} {enc : TypeId × Value → H} {W : World}
theorem cell_lt {a : Addr} {v : Value} (h : W.cell? a = some v) : a.block < W.heap.size := by
  unfold World.cell? at h
  rcases Nat.lt_or_ge a.block W.heap.size with hl | hl
  · exact hl
  · rw [Array.getElem?_eq_none hl] at h
    simp at h
theorem cellAt_u32s {l : List Nat} {i j : Nat} {u : AV} (h : cellAt (u32s l) i j = some u) : j = 0 ∧ i < l.length ∧ u = .int .u32 (nth l i : Nat) := by
  unfold cellAt u32s at h
  rw [List.getElem?_map] at h
  cases hi : l[i]? with
  | none => rw [hi] at h; cases h
  | some y =>
    rw [hi] at h
    have hl := (List.getElem?_eq_some_iff.1 hi).1
    cases j with
    | zero =>
      cases h
      refine ⟨rfl, hl, ?_⟩
      unfold nth
      rw [List.getD_eq_getElem?_getD, hi]; rfl
    | succ k => cases h
theorem read_mag {fuel : Nat} {c : Value} {x : DataW H × List MemPlace} (h : DataW.trod enc Tryz.prog W 0 (fun _ => true) true fuel 32 [c] = some x) : ∃ l, Lb l ∧ VR W (fun _ => False) (lim l) c := by
  rcases Go.ChangeShapes.open_ints ty32 ty87 cl87 h with ⟨hc, _⟩ | ⟨a, len, cap, zs, hc, _, hl, hm, hz, _, hcell, hwf⟩
  · simp only [List.cons.injEq, and_true] at hc
    subst hc
    exact ⟨[], fun y hy => (by cases hy), .sl0 1 none 0⟩
  · simp only [List.cons.injEq, and_true] at hc
    subst hc
    simp at hz
    rcases Nat.eq_zero_or_pos len with h0 | h0
    · subst h0
      exact ⟨[], fun y hy => (by cases hy), .sl0 1 (some a) cap⟩
    · have h00 := hcell 0 (by omega)
      have hsp := World.cell?_spot h00
      have hbl := cell_lt h00
      obtain ⟨b, o, sp⟩ := a
      simp [Addr.add] at hsp hbl
      subst hsp
      have hzl : ∀ i, i < len → 0 ≤ zs.getD i 0 ∧ zs.getD i 0 ≤ 4294967295 := fun i hi => by
        have : zs.getD i 0 = zs[i]'(by omega) := by rw [List.getD_eq_getElem?_getD, List.getElem?_eq_getElem (by omega)]; rfl
        rw [this]
        exact Go.bounds_u32 (hwf _ (List.getElem_mem _))
      refine ⟨(List.range len).map fun i => (zs.getD i 0).toNat, fun y hy => ?_, ?_⟩
      · obtain ⟨i, hi, rfl⟩ := List.mem_map.1 hy
        have := hzl i (List.mem_range.1 hi)
        omega
      · have e : ((List.range len).map fun i => (zs.getD i 0).toNat).length = len := by simp
        have := VR.sl (w := W) (F := fun _ => False) 1 (u32s ((List.range len).map fun i => (zs.getD i 0).toNat)) b o cap (fun i _ => .int .u32 (zs.getD i 0)) (by simp) hbl (by simp; exact hl) (by
          intro v hv
          obtain ⟨y, _, rfl⟩ := List.mem_map.1 hv
          rfl) ?_ ?_
        · rw [u32s_length, e] at this
          exact this
        · intro i j u hu
          obtain ⟨rfl, q1, rfl⟩ := cellAt_u32s hu
          rw [e] at q1
          have := hzl i q1
          have hn : nth ((List.range len).map fun i => (zs.getD i 0).toNat) i = (zs.getD i 0).toNat := by
            unfold nth
            rw [List.getD_eq_getElem?_getD, List.getElem?_map, List.getElem?_range q1]
            rfl
          rw [hn, Int.toNat_of_nonneg this.1]
          exact .int _ _
        · intro i j u hu
          obtain ⟨rfl, q1, rfl⟩ := cellAt_u32s hu
          rw [e] at q1
          have := hcell i (by omega)
          rcases Nat.eq_zero_or_pos i with h' | h'
          · subst h'; simpa [Addr.add] using this
          · have h'' : i ≠ 0 := by omega
            simpa [Addr.add, h''] using this
set_option maxRecDepth 100000
theorem read_int {fuel : Nat} {cs : List Value} {x : DataW H × List MemPlace} (h : DataW.trod enc Tryz.prog W 0 (fun _ => true) true fuel 34 cs = some x) : ∃ n l c, cs = [.bool n, c] ∧ Lb l ∧ VR W (fun _ => False) (lim l) c := by
  obtain ⟨xs, n, _, rfl, hl, hlen, hf⟩ := DataW.trod_struct ty34 h
  rw [cl34] at hl
  obtain ⟨c0, c1, rfl⟩ : ∃ c0 c1, cs = [c0, c1] := by
    match cs, hl with
    | [c0, c1], _ => exact ⟨c0, c1, rfl⟩
  obtain ⟨f0, g1, g2, g3⟩ := fld_get f34_0
  obtain ⟨f1, k1, k2, k3⟩ := fld_get f34_1
  have h0 := hf 0 f0 g1
  have h1 := hf 1 f1 k1
  simp only at g2 g3 k2 k3
  rw [g2, g3, cl4] at h0
  rw [k2, k3, cl32] at h1
  have hs : xs.length = 2 := by rw [hlen]; kernel_rfl
  obtain ⟨b, hb, _⟩ := DataW.trod_bool ty4 (h0.trans (List.getElem?_eq_getElem (by omega)))
  obtain ⟨l, hl1, hl2⟩ := read_mag (h1.trans (List.getElem?_eq_getElem (by omega)))
  simp at hb
  exact ⟨b, l, c1, by rw [hb], hl1, hl2⟩
theorem read_rat {fuel : Nat} {cs : List Value} {x : DataW H × List MemPlace} (h : DataW.trod enc Tryz.prog W 0 (fun _ => true) true fuel 36 cs = some x) : ∃ r : RR, r.Lb ∧ cs.length = 4 ∧ ∀ (j : Nat) (u : AV), r.av.cells[j]? = some u → ∃ c, cs[j]? = some c ∧ VR W (fun _ => False) u c := by
  obtain ⟨xs, n, _, rfl, hl, hlen, hf⟩ := DataW.trod_struct ty36 h
  rw [cl36] at hl
  obtain ⟨c0, c1, c2, c3, rfl⟩ : ∃ c0 c1 c2 c3, cs = [c0, c1, c2, c3] := by
    match cs, hl with
    | [c0, c1, c2, c3], _ => exact ⟨c0, c1, c2, c3, rfl⟩
  obtain ⟨f0, g1, g2, g3⟩ := fld_get f36_0
  obtain ⟨f1, k1, k2, k3⟩ := fld_get f36_1
  have h0 := hf 0 f0 g1
  have h1 := hf 1 f1 k1
  simp only at g2 g3 k2 k3
  rw [g2, g3, cl34] at h0
  rw [k2, k3, cl34] at h1
  have hs : xs.length = 2 := by rw [hlen]; kernel_rfl
  obtain ⟨n1, l1, d1, e1, b1, v1⟩ := read_int (h0.trans (List.getElem?_eq_getElem (by omega)))
  obtain ⟨n2, l2, d2, e2, b2, v2⟩ := read_int (h1.trans (List.getElem?_eq_getElem (by omega)))
  simp at e1 e2
  obtain ⟨rfl, rfl⟩ := e1
  obtain ⟨rfl, rfl⟩ := e2
  refine ⟨⟨n1, l1, n2, l2⟩, ⟨b1, b2⟩, rfl, fun j u hu => ?_⟩
  match j, hu with
  | 0, hu => cases hu; exact ⟨_, rfl, .bool _⟩
  | 1, hu => cases hu; exact ⟨_, rfl, v1⟩
  | 2, hu => cases hu; exact ⟨_, rfl, .bool _⟩
  | 3, hu => cases hu; exact ⟨_, rfl, v2⟩
  | k + 4, hu => cases hu
end Go.Av
end
section
namespace Go.Av
open Go.Proofs
variable {H : Type} {enc : TypeId × Value → H} {W : World}
theorem choose_fun {α : Type} [Inhabited α] {n : Nat} {p : Nat → α → Prop} (h : ∀ i, i < n → ∃ a, p i a) : ∃ f : Nat → α, ∀ i, i < n → p i (f i) := by
  classical
  exact ⟨fun i => if hi : i < n then Classical.choose (h i hi) else default, fun i hi => by
    simp only [dif_pos hi]
    exact Classical.choose_spec (h i hi)⟩
theorem addr_add2 (b o i j : Nat) : ((⟨b, o, none⟩ : Addr).add i).add j = ⟨b, o + (i + j), none⟩ := by
  by_cases hi : i = 0
  · subst hi
    by_cases hj : j = 0
    · subst hj; simp [Addr.add]
    · simp [Addr.add, hj]
  · by_cases hj : j = 0
    · subst hj; simp [Addr.add, hi]
    · simp [Addr.add, hi, hj, Nat.add_assoc]
theorem read_row {fuel : Nat} {c : Value} {x : DataW H × List MemPlace} (h : DataW.trod enc Tryz.prog W 0 (fun _ => true) true fuel 42 [c] = some x) : ∃ r : List RR, (∀ y ∈ r, y.Lb) ∧ VR W (fun _ => False) (rowAV r) c := by
  rcases Go.Deep.open_slice ty42 h with ⟨hc, _⟩ | ⟨a, len, cap, m, n, D, Pl, hc, _, hl, hm, hmm, _, hx⟩
  · simp only [List.cons.injEq, and_true] at hc
    subst hc
    exact ⟨[], fun y hy => (by cases hy), .sl0 4 none 0⟩
  · simp only [List.cons.injEq, and_true] at hc
    subst hc
    simp at hmm
    subst hmm
    rcases Nat.eq_zero_or_pos len with h0 | h0
    · subst h0
      exact ⟨[], fun y hy => (by cases hy), .sl0 4 (some a) m⟩
    · rw [cl36] at hx
      obtain ⟨C, hC⟩ := choose_fun (α := List Value) (p := fun i cs => W.cells? 0 (a.add (i * 4)) 4 = some cs ∧ DataW.trod enc Tryz.prog W 0 (fun _ => true) true n 36 cs = some (D i, Pl i)) (n := len) (fun i hi => hx i (by omega))
      obtain ⟨R, hR⟩ := choose_fun (α := RR) (n := len) (fun i hi => read_rat (hC i hi).2)
      have hcell : ∀ i, i < len → ∀ j, j < 4 → W.cell? ((a.add (i * 4)).add j) = (C i)[j]? := fun i hi => (World.cells?_some (hC i hi).1).2.2
      obtain ⟨c00, hc00, _⟩ := (hR 0 h0).2.2 0 (.bool (R 0).n1) rfl
      have h00 := (hcell 0 h0 0 (by omega)).trans hc00
      have hsp := World.cell?_spot h00
      have hbl := cell_lt h00
      obtain ⟨b, o, sp⟩ := a
      simp [Addr.add] at hsp hbl
      subst hsp
      have hcellAt : ∀ i j u, cellAt (rrs ((List.range len).map R)) i j = some u → i < len ∧ (R i).av.cells[j]? = some u := by
        intro i j u hu
        unfold cellAt rrs at hu
        rw [List.map_map, List.getElem?_map] at hu
        by_cases hi : i < len
        · rw [List.getElem?_range hi] at hu
          exact ⟨hi, hu⟩
        · rw [List.getElem?_eq_none (by simp; omega)] at hu
          cases hu
      refine ⟨(List.range len).map R, fun y hy => ?_, ?_⟩
      · obtain ⟨i, hi, rfl⟩ := List.mem_map.1 hy
        exact (hR i (List.mem_range.1 hi)).1
      · have := VR.sl (w := W) (F := fun _ => False) 4 (rrs ((List.range len).map R)) b o m (fun i j => ((C i)[j]?).getD (.bool false)) (by simp) hbl (by simp; exact hl) (by
          intro v hv
          obtain ⟨y, _, rfl⟩ := List.mem_map.1 hv
          rfl) (fun i j u hu => by
            obtain ⟨hi, hu⟩ := hcellAt i j u hu
            obtain ⟨c, q1, q2⟩ := (hR i hi).2.2 j u hu
            rw [q1]; exact q2) (fun i j u hu => by
            obtain ⟨hi, hu⟩ := hcellAt i j u hu
            obtain ⟨c, q1, q2⟩ := (hR i hi).2.2 j u hu
            have hj : j < 4 := by
              have := (List.getElem?_eq_some_iff.1 q1).1
              rw [(hR i hi).2.1] at this; exact this
            have := hcell i hi j hj
            rw [addr_add2, q1] at this
            rw [this, q1]; rfl)
        rw [rrs_length, List.length_map, List.length_range] at this
        exact this
theorem read_mat {fuel : Nat} {c : Value} {x : DataW H × List MemPlace} (h : DataW.trod enc Tryz.prog W 0 (fun _ => true) true fuel 22 [c] = some x) : ∃ m : List (List RR), LbM m ∧ VR W (fun _ => False) (matAV m) c := by
  rcases Go.Deep.open_slice1 ty22 cl42 h with ⟨hc, _⟩ | ⟨a, len, cap, m, n, V, D, Pl, hc, _, hl, hm, hmm, _, hx⟩
  · simp only [List.cons.injEq, and_true] at hc
    subst hc
    exact ⟨[], fun y hy => (by cases hy), .sl0 1 none 0⟩
  · simp only [List.cons.injEq, and_true] at hc
    subst hc
    simp at hmm
    subst hmm
    rcases Nat.eq_zero_or_pos len with h0 | h0
    · subst h0
      exact ⟨[], fun y hy => (by cases hy), .sl0 1 (some a) m⟩
    · obtain ⟨R, hR⟩ := choose_fun (α := List RR) (n := len) (fun i hi => read_row (hx i (by omega)).2)
      have h00 := (hx 0 (by omega)).1
      have hsp := World.cell?_spot h00
      have hbl := cell_lt h00
      obtain ⟨b, o, sp⟩ := a
      simp [Addr.add] at hsp hbl
      subst hsp
      have hcellAt : ∀ i j u, cellAt (((List.range len).map R).map rowAV) i j = some u → i < len ∧ j = 0 ∧ u = rowAV (R i) := by
        intro i j u hu
        unfold cellAt at hu
        rw [List.map_map, List.getElem?_map] at hu
        by_cases hi : i < len
        · rw [List.getElem?_range hi] at hu
          cases j with
          | zero => cases hu; exact ⟨hi, rfl, rfl⟩
          | succ k => cases hu
        · rw [List.getElem?_eq_none (by simp; omega)] at hu
          cases hu
      refine ⟨(List.range len).map R, fun y hy => ?_, ?_⟩
      · obtain ⟨i, hi, rfl⟩ := List.mem_map.1 hy
        exact (hR i (List.mem_range.1 hi)).1
      · have := VR.sl (w := W) (F := fun _ => False) 1 (((List.range len).map R).map rowAV) b o m (fun i _ => V i) (by simp) hbl (by simp; exact hl) (by
          intro v hv
          obtain ⟨y, _, rfl⟩ := List.mem_map.1 hv
          rfl) (fun i j u hu => by
            obtain ⟨hi, rfl, rfl⟩ := hcellAt i j u hu
            exact (hR i hi).2) (fun i j u hu => by
            obtain ⟨hi, rfl, rfl⟩ := hcellAt i j u hu
            have := (hx i (by omega)).1
            rcases Nat.eq_zero_or_pos i with h' | h'
            · subst h'; simpa [Addr.add] using this
            · have h'' : i ≠ 0 := by omega
              simpa [Addr.add, h''] using this)
        rw [List.length_map, List.length_map, List.length_range] at this
        exact this
end Go.Av
end
section
namespace Go.Av
open Go.Proofs
variable {H : Type} {enc : TypeId × Value → H} {W : World}
theorem call_two {f : FuncId} {x y : AV} (hf : ACall Tryz.prog f [x, y] Mem.emp fun v mm => v = .bool true ∧ mm = Mem.emp) {c c' : Value} (hx : VR W (fun _ => False) x c) (hy : VR W (fun _ => False) y c') :
    Calls Tryz.prog f #[c, c'] W fun e W' => e = .returned (.bool true) ∧ RowKit.Below W.heap.size W W' := by
  have hO : Own (fun _ => False) Mem.emp = fun _ => False := by funext b; simp [Own, Mem.emp]
  refine (hf.2 W (fun _ => False) #[c, c'] (fun b hb => hb.elim) (fun b x hx => by cases hx) ?_).mono ?_
  · rw [hO]
    refine ⟨rfl, fun j u v hu hv' => ?_⟩
    match j, hu with
    | 0, hu => cases hu; cases hv'; exact hx
    | 1, hu => cases hu; cases hv'; exact hy
    | k + 2, hu => cases hu
  · rintro e W' ⟨v, cv, g', rfl, ⟨rfl, _⟩, _, hvr, hg, _⟩
    cases hvr
    exact ⟨rfl, ⟨hg.os, hg.tape, hg.output, hg.size, fun k hk => hg.block k hk (by simp [Mem.emp])⟩⟩
end Go.Av
end
section
namespace Go.Av
open Go.Proofs
def sumN : Nat → (Nat → Rat) → Rat
  | 0, _ => 0
  | n + 1, f => sumN n f + f n
theorem sumN_succ (n : Nat) (f : Nat → Rat) : sumN (n + 1) f = sumN n f + f n := rfl
theorem sumN_congr {n : Nat} {f g : Nat → Rat} (h : ∀ i, i < n → f i = g i) : sumN n f = sumN n g := by
  induction n with
  | zero => rfl
  | succ n ih => rw [sumN_succ, sumN_succ, ih (fun i hi => h i (by omega)), h n (by omega)]
theorem sumN_zero {n : Nat} {f : Nat → Rat} (h : ∀ i, i < n → f i = 0) : sumN n f = 0 := by
  induction n with
  | zero => rfl
  | succ n ih => rw [sumN_succ, ih (fun i hi => h i (by omega)), h n (by omega)]; grind
theorem sumN_add (n : Nat) (f g : Nat → Rat) : sumN n (fun i => f i + g i) = sumN n f + sumN n g := by
  induction n with
  | zero => show (0 : Rat) = 0 + 0; grind
  | succ n ih => rw [sumN_succ, sumN_succ, sumN_succ, ih]; grind
theorem sumN_mul (n : Nat) (c : Rat) (f : Nat → Rat) : sumN n (fun i => c * f i) = c * sumN n f := by
  induction n with
  | zero => show (0 : Rat) = c * 0; grind
  | succ n ih => rw [sumN_succ, sumN_succ, ih]; grind
theorem sumN_single {n k : Nat} {f : Nat → Rat} (hk : k < n) (h : ∀ i, i < n → i ≠ k → f i = 0) : sumN n f = f k := by
  induction n with
  | zero => omega
  | succ n ih =>
    rw [sumN_succ]
    by_cases e : k = n
    · subst e
      rw [sumN_zero fun i hi => h i (by omega) (by omega)]; grind
    · rw [ih (by omega) fun i hi => h i (by omega), h n (by omega) (fun h => e h.symm)]; grind
/-- A row on a vector. -/
def dotV (w : Nat) (r v : Nat → Rat) : Rat := sumN w fun l => r l * v l
theorem dotV_congr {w : Nat} {r r' v v' : Nat → Rat} (h : ∀ l, l < w → r l = r' l) (h2 : ∀ l, l < w → v l = v' l) : dotV w r v = dotV w r' v' := sumN_congr fun l hl => by rw [h l hl, h2 l hl]
theorem dotV_sub (w : Nat) (r s v : Nat → Rat) (c : Rat) : dotV w (fun l => r l - s l * c) v = dotV w r v - c * dotV w s v := by
  unfold dotV
  rw [← sumN_mul]
  have : sumN w (fun l => (r l - s l * c) * v l) = sumN w (fun l => r l * v l + (-1) * (c * (s l * v l))) := sumN_congr fun l _ => by grind
  rw [this, sumN_add, sumN_mul]; grind
theorem dotV_div (w : Nat) (r v : Nat → Rat) (c : Rat) : dotV w (fun l => r l / c) v = dotV w r v / c := by
  unfold dotV
  have : sumN w (fun l => r l / c * v l) = sumN w (fun l => c⁻¹ * (r l * v l)) := sumN_congr fun l _ => by grind
  rw [this, sumN_mul]; grind
/-! ### Exact results -/
theorem subQ_eq {a b c : Rat} (h : subQ a b = some c) : c = a - b := by unfold subQ at h; split at h <;> cases h; rfl
theorem mulQ_eq {a b c : Rat} (h : mulQ a b = some c) : c = a * b := by unfold mulQ at h; split at h <;> cases h; rfl
theorem divQ_eq {a b c : Rat} (h : divQ a b = some c) : c = a / b := by unfold divQ at h; split at h <;> cases h; rfl
theorem lessQ_eq {a f b c : Rat} (h : lessQ a f b = some c) : c = a - b * f := by
  unfold lessQ at h
  cases hm : mulQ b f with
  | none => rw [hm] at h; cases h
  | some p => rw [hm] at h; rw [subQ_eq h, mulQ_eq hm]
theorem qat_set {r : List Rat} {k : Nat} (hk : k < r.length) (x : Rat) (i : Nat) : qat (r.set k x) i = if i = k then x else qat r i := by
  unfold qat
  rw [List.getD_eq_getElem?_getD, List.getElem?_set]
  by_cases e : k = i
  · subst e; rw [if_pos rfl, if_pos hk, if_pos rfl]; rfl
  · rw [if_neg e, if_neg (Ne.symm e), ← List.getD_eq_getElem?_getD]
/-- A row that is changed place by place, from a place on. -/
theorem rowIter {op : Rat → Nat → Option Rat} {f : Nat → List Rat → Option (List Rat)} {o : Nat} (hf : ∀ t r, f t r = rowStep op (o + t) r) : ∀ {n : Nat} {row row' : List Rat}, o + n ≤ row.length → iterO f n row = some row' →
    row'.length = row.length ∧ (∀ k, k < n → op (qat row (o + k)) (o + k) = some (qat row' (o + k))) ∧ ∀ k, k < o ∨ o + n ≤ k → qat row' k = qat row k
  | 0, row, row', _, h => by cases h; exact ⟨rfl, fun k hk => by omega, fun _ _ => rfl⟩
  | n + 1, row, row', hl, h => by
    rw [iterO_succ] at h
    cases hs : iterO f n row with
    | none => rw [hs] at h; cases h
    | some u =>
      rw [hs] at h
      obtain ⟨h1, h2, h3⟩ := rowIter hf (by omega) hs
      replace h : f n u = some row' := h
      rw [hf] at h
      unfold rowStep at h
      cases ho : op (qat u (o + n)) (o + n) with
      | none => rw [ho] at h; cases h
      | some x =>
        rw [ho] at h
        cases h
        have hk : o + n < u.length := by omega
        refine ⟨by rw [List.length_set, h1], fun k hk' => ?_, fun k hk' => ?_⟩
        · rw [qat_set hk]
          by_cases e : k = n
          · subst e; rw [if_pos rfl, ← h3 (o + k) (by omega)]; exact ho
          · rw [if_neg (by omega)]; exact h2 k (by omega)
        · rw [qat_set hk, if_neg (by omega)]; exact h3 k (by omega)
theorem qel_set {M : List (List Rat)} {i : Nat} (hi : i < M.length) (r : List Rat) (a b : Nat) : qel (M.set i r) a b = if a = i then qat r b else qel M a b := by
  unfold qel
  rw [mrow_set hi]
  split <;> rfl
theorem qel_swap {M : List (List Rat)} {i r : Nat} (hi : i < M.length) (hr : r < M.length) (a b : Nat) : qel (swapL M i r) a b = if a = r then qel M i b else if a = i then qel M r b else qel M a b := by
  unfold qel
  rw [mrow_swap hi hr]
  split
  · rfl
  · split <;> rfl
theorem elim_spec {n w r j i : Nat} {M M' : List (List Rat)} (h : matGood n w M) (hi : i < n) (he : elimStep r j i M = some M') : M'.length = n ∧ ∀ a b, b < w → qel M' a b = if a = i ∧ i ≠ r then qel M a b - qel M r b * qel M a j else qel M a b := by
  unfold elimStep at he
  by_cases hc : i = r ∨ qel M i j = 0
  · rw [if_pos hc] at he
    cases he
    refine ⟨h.2.2, fun a b hb => ?_⟩
    split
    · rename_i hh
      rw [hh.1, hc.resolve_left hh.2]; grind
    · rfl
  · rw [if_neg hc] at he
    have hl : (mrow M i).length = w := (h.row hi).2
    rw [hl] at he
    cases hm : iterO (subStep (mrow M r) (qel M i j)) w (mrow M i) with
    | none => rw [hm] at he; cases he
    | some row =>
      rw [hm] at he
      cases he
      obtain ⟨k1, k2, k3⟩ := rowIter (o := 0) (op := fun q k => lessQ q (qel M i j) (qat (mrow M r) k)) (fun t r => by rw [Nat.zero_add]; rfl) (by omega) hm
      refine ⟨by rw [List.length_set]; exact h.2.2, fun a b hb => ?_⟩
      rw [qel_set (by rw [h.2.2]; exact hi)]
      by_cases e : a = i
      · subst e
        rw [if_pos rfl, if_pos ⟨rfl, fun h => hc (.inl h)⟩]
        have := k2 b hb
        rw [Nat.zero_add] at this
        exact lessQ_eq this
      · rw [if_neg e, if_neg (fun h => e h.1)]
theorem clear_spec {n w r j : Nat} {M Y : List (List Rat)} (h : matGood n w M) (hr : r < n) (hd : qel M r j ≠ 0) (hj : j < w) (he : clearQ M j r = some Y) : matGood n w Y ∧ ∀ a b, a < n → b < w → qel Y a b = if a = r then qel M r b / qel M r j else qel M a b - qel M r b / qel M r j * qel M a j := by
  refine ⟨clear_keep hr h hd he, ?_⟩
  unfold clearQ at he
  have hl : (mrow M r).length = w := (h.row hr).2
  rw [hl] at he
  cases hm : iterO (divStep (qel M r j)) w (mrow M r) with
  | none => rw [hm] at he; cases he
  | some row =>
    rw [hm] at he
    replace he : iterO (elimStep r j) M.length (M.set r row) = some Y := he
    rw [h.2.2] at he
    obtain ⟨k1, k2, k3⟩ := rowIter (o := 0) (op := fun q _ => divQ q (qel M r j)) (fun t r => by rw [Nat.zero_add]; rfl) (by omega) hm
    have hrow : ∀ b, b < w → qat row b = qel M r b / qel M r j := fun b hb => by
      have := k2 b hb
      rw [Nat.zero_add] at this
      exact divQ_eq this
    have hg1 : matGood n w (M.set r row) := h.set r (iter_keep (p := fun row => rowGood row ∧ row.length = w) (fun k s t hs hst => rowStep_keep (fun q k x hx => good_div hd hx) hs hst) (h.row hr) hm)
    have h1 : ∀ a b, qel (M.set r row) a b = if a = r then qat row b else qel M a b := fun a b => qel_set (by rw [h.2.2]; exact hr) row a b
    have key : ∀ (i : Nat) (Z : List (List Rat)), i ≤ n → iterO (elimStep r j) i (M.set r row) = some Z → matGood n w Z ∧ ∀ a b, b < w → qel Z a b = if a = r then qat row b else if a < i then qel M a b - qat row b * qel M a j else qel M a b := by
      intro i
      induction i with
      | zero =>
        intro Z _ hZ
        cases hZ
        refine ⟨hg1, fun a b _ => ?_⟩
        rw [h1, if_neg (show ¬ a < 0 by omega)]
      | succ i ih =>
        intro Z hi hZ
        rw [iterO_succ] at hZ
        cases hs : iterO (elimStep r j) i (M.set r row) with
        | none => rw [hs] at hZ; cases hZ
        | some U =>
          rw [hs] at hZ
          obtain ⟨g1, g2⟩ := ih U (by omega) hs
          have hZ' : elimStep r j i U = some Z := hZ
          refine ⟨elim_keep (by omega) g1 hZ', fun a b hb => ?_⟩
          rw [(elim_spec g1 (by omega) hZ').2 a b hb]
          by_cases e : a = i ∧ i ≠ r
          · obtain ⟨rfl, e2⟩ := e
            rw [if_pos ⟨rfl, e2⟩, if_neg e2, if_pos (by omega), g2 a b hb, g2 r b hb, g2 a j hj, if_neg e2, if_neg (by omega), if_pos rfl, if_neg e2, if_neg (by omega)]
          · rw [if_neg e, g2 a b hb]
            by_cases e1 : a = r
            · rw [if_pos e1, if_pos e1]
            · rw [if_neg e1, if_neg e1]
              by_cases e2 : a < i
              · rw [if_pos e2, if_pos (by omega)]
              · rw [if_neg e2, if_neg]
                intro h3
                exact e ⟨by omega, by omega⟩
    intro a b ha hb
    rw [(key n Y (Nat.le_refl _) he).2 a b hb]
    by_cases e : a = r
    · rw [if_pos e, if_pos e, hrow b hb]
    · rw [if_neg e, if_neg e, if_pos ha, hrow b hb]
end Go.Av
end
section
namespace Go.Av
open Go.Proofs
theorem sumN_two {n k l : Nat} {f : Nat → Rat} (hk : k < n) (hl : l < n) (hne : k ≠ l) (h : ∀ i, i < n → i ≠ k → i ≠ l → f i = 0) : sumN n f = f k + f l := by
  have e : sumN n f = sumN n (fun i => (if i = k then f k else 0) + if i = l then f l else 0) := sumN_congr fun i hi => by
    by_cases h1 : i = k
    · subst h1; rw [if_pos rfl, if_neg hne]; grind
    · by_cases h2 : i = l
      · subst h2; rw [if_neg h1, if_pos rfl]; grind
      · rw [if_neg h1, if_neg h2, h i hi h1 h2]; grind
  rw [e, sumN_add, sumN_single hk fun i _ h => if_neg h, sumN_single hl fun i _ h => if_neg h, if_pos rfl, if_pos rfl]
abbrev MF := Nat → Nat → Rat
def sgnN (i : Nat) : Rat := if i % 2 = 0 then 1 else -1
theorem sgnN_succ (i : Nat) : sgnN (i + 1) = -sgnN i := by
  unfold sgnN
  by_cases h : i % 2 = 0
  · rw [if_pos h, if_neg (by omega)]
  · rw [if_neg h, if_pos (by omega)]; grind
def skipN (i a : Nat) : Nat := if a < i then a else a + 1
def minorF (i : Nat) (M : MF) : MF := fun a b => M (skipN i a) (b + 1)
def detF : Nat → MF → Rat
  | 0, _ => 1
  | n + 1, M => sumN (n + 1) fun i => sgnN i * M i 0 * detF n (minorF i M)
theorem skip_lt {n i a : Nat} (h : a < n) : skipN i a < n + 1 := by unfold skipN; split <;> omega
theorem skip_ne (i a : Nat) : skipN i a ≠ i := by unfold skipN; split <;> omega
theorem detF_congr : ∀ {n : Nat} {M M' : MF}, (∀ a b, a < n → b < n → M a b = M' a b) → detF n M = detF n M'
  | 0, _, _, _ => rfl
  | n + 1, M, M', h => sumN_congr fun i hi => by
    rw [h i 0 hi (by omega), detF_congr (n := n) (M := minorF i M) (M' := minorF i M') fun a b ha hb => h _ _ (skip_lt ha) (by omega)]
/-- Functions of the rows: linear in each, zero if two are equal. -/
structure RowF (n : Nat) (F : MF → Rat) : Prop where
  congr : ∀ {M M' : MF}, (∀ a b, a < n → b < n → M a b = M' a b) → F M = F M'
  lin : ∀ {r : Nat} {c : Rat} {M U V : MF}, r < n → (∀ b, b < n → M r b = c * U r b + V r b) → (∀ a b, a < n → b < n → a ≠ r → U a b = M a b) → (∀ a b, a < n → b < n → a ≠ r → V a b = M a b) → F M = c * F U + F V
  alt : ∀ {r s : Nat} {M : MF}, r < n → s < n → r ≠ s → (∀ b, b < n → M r b = M s b) → F M = 0
theorem detF_lin : ∀ {n : Nat} {r : Nat} {c : Rat} {M U V : MF}, r < n → (∀ b, b < n → M r b = c * U r b + V r b) → (∀ a b, a < n → b < n → a ≠ r → U a b = M a b) → (∀ a b, a < n → b < n → a ≠ r → V a b = M a b) → detF n M = c * detF n U + detF n V
  | 0, r, c, M, U, V, hr, _, _, _ => by omega
  | n + 1, r, c, M, U, V, hr, h, hU, hV => by
    show sumN (n + 1) (fun i => sgnN i * M i 0 * detF n (minorF i M)) = c * sumN (n + 1) (fun i => sgnN i * U i 0 * detF n (minorF i U)) + sumN (n + 1) (fun i => sgnN i * V i 0 * detF n (minorF i V))
    rw [← sumN_mul, ← sumN_add]
    refine sumN_congr fun i hi => ?_
    by_cases e : i = r
    · subst e
      have e1 : detF n (minorF i U) = detF n (minorF i M) := detF_congr fun a b ha hb => hU _ _ (skip_lt ha) (by omega) (skip_ne i a)
      have e2 : detF n (minorF i V) = detF n (minorF i M) := detF_congr fun a b ha hb => hV _ _ (skip_lt ha) (by omega) (skip_ne i a)
      rw [e1, e2, h 0 (by omega)]; grind
    · have e1 : detF n (minorF i M) = c * detF n (minorF i U) + detF n (minorF i V) := by
        have hs : skipN i (if r < i then r else r - 1) = r := by
          by_cases q : r < i
          · rw [if_pos q]; exact if_pos q
          · rw [if_neg q]; unfold skipN; rw [if_neg (by omega)]; omega
        refine detF_lin (r := if r < i then r else r - 1) (by split <;> omega) (fun b hb => ?_) (fun a b ha hb hne => ?_) (fun a b ha hb hne => ?_)
        · show M (skipN i _) (b + 1) = c * U (skipN i _) (b + 1) + V (skipN i _) (b + 1)
          rw [hs]; exact h _ (by omega)
        · refine hU _ _ (skip_lt ha) (by omega) fun e3 => hne ?_
          unfold skipN at e3; split at e3 <;> split <;> omega
        · refine hV _ _ (skip_lt ha) (by omega) fun e3 => hne ?_
          unfold skipN at e3; split at e3 <;> split <;> omega
      rw [e1, hU i 0 hi (by omega) e, hV i 0 hi (by omega) e]; grind
theorem detF_adj : ∀ {n : Nat} {r : Nat} {M : MF}, r + 1 < n → (∀ b, b < n → M r b = M (r + 1) b) → detF n M = 0
  | 0, r, M, hr, _ => by omega
  | n + 1, r, M, hr, h => by
    show sumN (n + 1) (fun i => sgnN i * M i 0 * detF n (minorF i M)) = 0
    rw [sumN_two (k := r) (l := r + 1) (by omega) hr (by omega) fun i hi h1 h2 => by
      have : detF n (minorF i M) = 0 := by
        refine detF_adj (r := if i < r then r - 1 else r) (by split <;> omega) fun b hb => ?_
        show M (skipN i _) (b + 1) = M (skipN i _) (b + 1)
        by_cases e : i < r
        · rw [if_pos e]
          have e1 : skipN i (r - 1) = r := by unfold skipN; split <;> omega
          have e2 : skipN i (r - 1 + 1) = r + 1 := by unfold skipN; split <;> omega
          rw [e1, e2]; exact h _ (by omega)
        · rw [if_neg e]
          have e1 : skipN i r = r := by unfold skipN; split <;> omega
          have e2 : skipN i (r + 1) = r + 1 := by unfold skipN; split <;> omega
          rw [e1, e2]; exact h _ (by omega)
      rw [this]; grind]
    have e : detF n (minorF r M) = detF n (minorF (r + 1) M) := detF_congr fun a b ha hb => by
      show M (skipN r a) (b + 1) = M (skipN (r + 1) a) (b + 1)
      by_cases e : a = r
      · subst e
        have e1 : skipN a a = a + 1 := by unfold skipN; split <;> omega
        have e2 : skipN (a + 1) a = a := by unfold skipN; split <;> omega
        rw [e1, e2]; exact (h _ (by omega)).symm
      · have e1 : skipN r a = skipN (r + 1) a := by unfold skipN; split <;> split <;> omega
        rw [e1]
    rw [e, sgnN_succ, h 0 (by omega)]; grind
def swapF (M : MF) (r s : Nat) : MF := fun a b => if a = r then M s b else if a = s then M r b else M a b
theorem swap_of_alt {n r s : Nat} {F : MF → Rat} (hr : r < n) (hs : s < n) (hne : r ≠ s) (congr : ∀ {M M' : MF}, (∀ a b, a < n → b < n → M a b = M' a b) → F M = F M')
    (lin : ∀ {r : Nat} {c : Rat} {M U V : MF}, r < n → (∀ b, b < n → M r b = c * U r b + V r b) → (∀ a b, a < n → b < n → a ≠ r → U a b = M a b) → (∀ a b, a < n → b < n → a ≠ r → V a b = M a b) → F M = c * F U + F V)
    (alt : ∀ M : MF, (∀ b, b < n → M r b = M s b) → F M = 0) (M : MF) : F (swapF M r s) = -F M := by
  have W := fun (x y : Nat → Rat) (a b : Nat) => if a = r then x b else if a = s then y b else M a b
  let W : (Nat → Rat) → (Nat → Rat) → MF := fun x y a b => if a = r then x b else if a = s then y b else M a b
  let u := M r
  let v := M s
  let t : Nat → Rat := fun b => M r b + M s b
  have l1 : ∀ z, F (W t z) = F (W u z) + F (W v z) := fun z => by
    have := lin (r := r) (c := 1) (M := W t z) (U := W u z) (V := W v z) hr (fun b _ => by simp only [W, if_pos, u, v, t]; grind) (fun a b _ _ hn => by simp only [W, if_neg hn]) (fun a b _ _ hn => by simp only [W, if_neg hn])
    rw [this]; grind
  have l2 : ∀ z, F (W z t) = F (W z u) + F (W z v) := fun z => by
    have := lin (r := s) (c := 1) (M := W z t) (U := W z u) (V := W z v) hs (fun b _ => by simp only [W, if_neg (Ne.symm hne), if_pos, u, v, t]; grind) (fun a b _ _ hn => by simp only [W, if_neg hn]) (fun a b _ _ hn => by simp only [W, if_neg hn])
    rw [this]; grind
  have z : ∀ x, F (W x x) = 0 := fun x => alt _ fun b _ => by simp only [W, if_pos, if_neg (Ne.symm hne)]
  have e1 : F (W u v) = F M := congr fun a b _ _ => by
    simp only [W, u, v]
    by_cases h1 : a = r
    · rw [if_pos h1, h1]
    · rw [if_neg h1]
      by_cases h2 : a = s
      · rw [if_pos h2, h2]
      · rw [if_neg h2]
  have e2 : F (W v u) = F (swapF M r s) := congr fun a b _ _ => rfl
  have h1 := l1 t
  rw [z t, l2 u, l2 v, z u, z v, e1, e2] at h1
  grind
theorem detF_eq : ∀ {n : Nat} (k : Nat) {r : Nat} {M : MF}, r + k + 1 < n → (∀ b, b < n → M r b = M (r + k + 1) b) → detF n M = 0
  | n, 0, r, M, hr, h => detF_adj hr h
  | n, k + 1, r, M, hr, h => by
    have hs := swap_of_alt (F := detF n) (r := r + k + 1) (s := r + k + 2) (by omega) (by omega) (by omega) detF_congr detF_lin (fun M hM => detF_adj (r := r + k + 1) (by omega) hM) M
    have h0 : detF n (swapF M (r + k + 1) (r + k + 2)) = 0 := detF_eq k (r := r) (by omega) fun b hb => by
      unfold swapF
      rw [if_neg (by omega), if_neg (by omega), if_pos rfl]
      exact h b hb
    rw [h0] at hs
    grind
theorem detF_row (n : Nat) : RowF n (detF n) where
  congr := detF_congr
  lin := detF_lin
  alt := fun {r s M} hr hs hne h => by
    rcases Nat.lt_or_gt_of_ne hne with hl | hl
    · exact detF_eq (s - r - 1) (r := r) (by omega) fun b hb => by rw [show r + (s - r - 1) + 1 = s by omega]; exact h b hb
    · exact detF_eq (r - s - 1) (r := s) (by omega) fun b hb => by rw [show s + (r - s - 1) + 1 = r by omega]; exact (h b hb).symm
theorem RowF.swap {n : Nat} {F : MF → Rat} (h : RowF n F) {r s : Nat} (hr : r < n) (hs : s < n) (hne : r ≠ s) (M : MF) : F (swapF M r s) = -F M :=
  swap_of_alt hr hs hne h.congr h.lin (fun M hM => h.alt hr hs hne hM) M
def idF : MF := fun a b => if a = b then 1 else 0
theorem detF_id : ∀ n, detF n idF = 1
  | 0 => rfl
  | n + 1 => by
    show sumN (n + 1) (fun i => sgnN i * idF i 0 * detF n (minorF i idF)) = 1
    rw [sumN_single (k := 0) (by omega) fun i _ hi => by unfold idF; rw [if_neg hi]; grind]
    rw [detF_congr (M' := idF) fun a b ha hb => by
      show idF (skipN 0 a) (b + 1) = idF a b
      rw [show skipN 0 a = a + 1 from if_neg (by omega)]
      unfold idF
      by_cases e : a = b
      · rw [if_pos e, if_pos (by omega)]
      · rw [if_neg e, if_neg (by omega)], detF_id n]
    unfold sgnN idF
    simp
def setF (M : MF) (r : Nat) (u : Nat → Rat) : MF := fun a b => if a = r then u b else M a b
def eF (j : Nat) : Nat → Rat := fun b => if b = j then 1 else 0
theorem RowF.sum {n : Nat} {F : MF → Rat} (h : RowF n F) {k : Nat} (hk : k < n) (M : MF) : F M = sumN n fun j => M k j * F (setF M k (eF j)) := by
  have key : ∀ t, F (setF M k fun b => if b < t then M k b else 0) = sumN t fun j => M k j * F (setF M k (eF j)) := by
    intro t
    induction t with
    | zero =>
      have := h.lin (r := k) (c := 1) (M := setF M k fun b => if b < 0 then M k b else 0) (U := setF M k fun b => if b < 0 then M k b else 0) (V := setF M k fun b => if b < 0 then M k b else 0) hk (fun b _ => by unfold setF; rw [if_pos rfl]; dsimp only; rw [if_neg (by omega)]; grind) (fun _ _ _ _ _ => rfl) (fun _ _ _ _ _ => rfl)
      show _ = (0 : Rat)
      grind
    | succ t ih =>
      rw [sumN_succ, ← ih]
      have := h.lin (r := k) (c := M k t) (M := setF M k fun b => if b < t + 1 then M k b else 0) (U := setF M k (eF t)) (V := setF M k fun b => if b < t then M k b else 0) hk (fun b _ => by
        unfold setF eF
        rw [if_pos rfl, if_pos rfl, if_pos rfl]
        dsimp only
        by_cases e : b = t
        · subst e; rw [if_pos (by omega), if_pos rfl, if_neg (by omega)]; grind
        · rw [if_neg e]
          by_cases e2 : b < t
          · rw [if_pos (by omega), if_pos e2]; grind
          · rw [if_neg (by omega), if_neg e2]; grind) (fun a b _ _ hn => by unfold setF; rw [if_neg hn, if_neg hn]) (fun a b _ _ hn => by unfold setF; rw [if_neg hn, if_neg hn])
      rw [this]; grind
  rw [← key n]
  refine h.congr fun a b _ hb => ?_
  unfold setF
  by_cases e : a = k
  · rw [if_pos e]; dsimp only; rw [if_pos hb, e]
  · rw [if_neg e]
theorem pigeon : ∀ (m : Nat) (f : Nat → Nat), (∀ i, i ≤ m → f i < m) → ∃ i j, i < j ∧ j ≤ m ∧ f i = f j
  | 0, f, h => by have := h 0 (by omega); omega
  | m + 1, f, h => by
    by_cases e : ∃ i, i ≤ m ∧ f i = f (m + 1)
    · obtain ⟨i, hi, he⟩ := e
      exact ⟨i, m + 1, by omega, by omega, he⟩
    · have hne : ∀ i, i ≤ m → f i ≠ f (m + 1) := fun i hi he => e ⟨i, hi, he⟩
      obtain ⟨i, j, h1, h2, h3⟩ := pigeon m (fun i => if f (m + 1) < f i then f i - 1 else f i) fun i hi => by
        have := h i (by omega)
        have := h (m + 1) (by omega)
        have := hne i hi
        split <;> omega
      refine ⟨i, j, h1, by omega, ?_⟩
      have a1 := hne i (by omega)
      have a2 := hne j h2
      split at h3 <;> split at h3 <;> omega
def unitF (c : Nat → Nat) : MF := fun a b => if b = c a then 1 else 0
theorem RowF.unit {n : Nat} {F : MF → Rat} (h : RowF n F) : ∀ (j k : Nat), k + j = n → ∀ c : Nat → Nat, (∀ a, a < n → c a < n) → (∀ r, r < k → c r = r) → F (unitF c) = F idF * detF n (unitF c)
  | 0, k, hk, c, hc, hr => by
    have e : ∀ a b, a < n → b < n → unitF c a b = idF a b := fun a b ha _ => by
      unfold unitF idF
      rw [hr a (by omega)]
      by_cases e : b = a
      · rw [if_pos e, if_pos e.symm]
      · rw [if_neg e, if_neg (Ne.symm e)]
    rw [h.congr e, detF_congr e, detF_id]; grind
  | j + 1, k, hk, c, hc, hr => by
    by_cases hex : ∃ s, k ≤ s ∧ s < n ∧ c s = k
    · obtain ⟨s, hs1, hs2, hs3⟩ := hex
      by_cases e : s = k
      · subst e
        exact h.unit j (s + 1) (by omega) c hc fun r hr' => by
          by_cases e : r = s
          · rw [e]; exact hs3
          · exact hr r (by omega)
      · let c' : Nat → Nat := fun a => if a = k then c s else if a = s then c k else c a
        have hsw : ∀ a b, a < n → b < n → unitF c a b = swapF (unitF c') k s a b := fun a b _ _ => by
          unfold swapF unitF
          by_cases h1 : a = k
          · rw [if_pos h1]; simp only [c', if_neg e, if_pos, h1]
          · rw [if_neg h1]
            by_cases h2 : a = s
            · rw [if_pos h2]; simp only [c', if_pos, h2]
            · rw [if_neg h2]; simp only [c', if_neg h1, if_neg h2]
        rw [h.congr hsw, detF_congr hsw, h.swap (by omega) hs2 (Ne.symm e), (detF_row n).swap (by omega) hs2 (Ne.symm e), h.unit j (k + 1) (by omega) c' (fun a ha => by
          simp only [c']
          split
          · exact hc s hs2
          · split
            · exact hc k (by omega)
            · exact hc a ha) (fun r hr' => by
          simp only [c']
          by_cases h1 : r = k
          · rw [if_pos h1, hs3, h1]
          · rw [if_neg h1, if_neg (by omega)]; exact hr r (by omega))]
        grind
    · have hno : ∀ a, a < n → c a ≠ k := fun a ha he => by
        rcases Nat.lt_or_ge a k with h1 | h1
        · have := hr a h1; omega
        · exact hex ⟨a, h1, ha, he⟩
      obtain ⟨p, q, h1, h2, h3⟩ := pigeon (n - 1) (fun a => if k < c a then c a - 1 else c a) fun a ha => by
        have := hc a (by omega)
        have := hno a (by omega)
        split <;> omega
      have hpq : c p = c q := by
        have := hno p (by omega)
        have := hno q (by omega)
        split at h3 <;> split at h3 <;> omega
      rw [h.alt (r := p) (s := q) (by omega) (by omega) (by omega) fun b _ => by unfold unitF; rw [hpq], (detF_row n).alt (r := p) (s := q) (by omega) (by omega) (by omega) fun b _ => by unfold unitF; rw [hpq]]
      grind
theorem RowF.step {n : Nat} {F : MF → Rat} (h : RowF n F) : ∀ k, k ≤ n → ∀ M : MF, (∀ r, k ≤ r → r < n → ∃ c, c < n ∧ ∀ b, b < n → M r b = if b = c then 1 else 0) → F M = F idF * detF n M
  | 0, _, M, hM => by
    have hM' : ∀ r, ∃ c, r < n → c < n ∧ ∀ b, b < n → M r b = if b = c then 1 else 0 := fun r => by
      by_cases hr : r < n
      · obtain ⟨c, hc⟩ := hM r (by omega) hr
        exact ⟨c, fun _ => hc⟩
      · exact ⟨0, fun h => absurd h hr⟩
    have e : ∀ a b, a < n → b < n → M a b = unitF (fun r => (hM' r).choose) a b := fun a b ha hb => ((hM' a).choose_spec ha).2 b hb
    rw [h.congr e, detF_congr e]
    exact h.unit n 0 (by omega) _ (fun a ha => ((hM' a).choose_spec ha).1) fun r hr => by omega
  | k + 1, hk, M, hM => by
    rw [h.sum (k := k) (by omega) M, (detF_row n).sum (k := k) (by omega) M, ← sumN_mul]
    refine sumN_congr fun j hj => ?_
    rw [h.step k (by omega) (setF M k (eF j)) fun r hr hrn => by
      by_cases e : r = k
      · exact ⟨j, hj, fun b _ => by unfold setF eF; rw [if_pos e]⟩
      · obtain ⟨c, h1, h2⟩ := hM r (by omega) hrn
        exact ⟨c, h1, fun b hb => by unfold setF; rw [if_neg e]; exact h2 b hb⟩]
    grind
/-- There is but one. -/
theorem RowF.uniq {n : Nat} {F : MF → Rat} (h : RowF n F) (M : MF) : F M = F idF * detF n M := h.step n (Nat.le_refl _) M fun r h1 h2 => by omega
def mulF (n : Nat) (A B : MF) : MF := fun i j => sumN n fun k => A i k * B k j
def trF (M : MF) : MF := fun i j => M j i
/-- Multiples of a row are added to the others. -/
theorem detF_ops {n r : Nat} {M Y : MF} (hr : r < n) (c : Nat → Rat) (hrow : ∀ b, b < n → Y r b = M r b) (h : ∀ a b, a < n → b < n → a ≠ r → Y a b = M a b - c a * M r b) : detF n Y = detF n M := by
  have key : ∀ k, k ≤ n → detF n (fun a b => if a < k ∧ a ≠ r then M a b - c a * M r b else M a b) = detF n M := by
    intro k
    induction k with
    | zero => intro _; exact detF_congr fun a b _ _ => if_neg (by omega)
    | succ k ih =>
      intro hk
      rw [← ih (by omega)]
      by_cases e : k = r
      · exact detF_congr fun a b _ _ => by
          by_cases q : a < k ∧ a ≠ r
          · rw [if_pos q, if_pos ⟨by omega, q.2⟩]
          · rw [if_neg q, if_neg (by omega)]
      · rw [detF_lin (r := k) (c := -c k) (U := fun a b => if a = k then M r b else if a < k ∧ a ≠ r then M a b - c a * M r b else M a b) (V := fun a b => if a < k ∧ a ≠ r then M a b - c a * M r b else M a b) (by omega) (fun b _ => by
          simp only [if_pos]
          rw [if_pos ⟨by omega, e⟩, if_neg (by omega)]; grind) (fun a b _ _ hn => by
          simp only [if_neg hn]
          by_cases q : a < k ∧ a ≠ r
          · rw [if_pos q, if_pos ⟨by omega, q.2⟩]
          · rw [if_neg q, if_neg (by omega)]) (fun a b _ _ hn => by
          by_cases q : a < k ∧ a ≠ r
          · rw [if_pos q, if_pos ⟨by omega, q.2⟩]
          · rw [if_neg q, if_neg (by omega)])]
        rw [(detF_row n).alt (r := k) (s := r) (by omega) hr e fun b _ => by
          simp only [if_pos]
          rw [if_neg (Ne.symm e), if_neg (by omega)]]
        grind
  rw [← key n (Nat.le_refl _)]
  refine detF_congr fun a b ha hb => ?_
  by_cases e : a = r
  · rw [if_neg (by omega), e]; exact hrow b hb
  · rw [if_pos ⟨ha, e⟩]; exact h a b ha hb e
theorem detF_scale {n r : Nat} {M Y : MF} (hr : r < n) (c : Rat) (hrow : ∀ b, b < n → Y r b = c * M r b) (h : ∀ a b, a < n → b < n → a ≠ r → Y a b = M a b) : detF n Y = c * detF n M := by
  have h0 : detF n (fun a b => if a = r then 0 else M a b) = 0 := by
    have := detF_lin (n := n) (r := r) (c := 1) (M := fun a b => if a = r then 0 else M a b) (U := fun a b => if a = r then 0 else M a b) (V := fun a b => if a = r then 0 else M a b) hr (fun b _ => by simp only [if_pos]; grind) (fun _ _ _ _ _ => rfl) (fun _ _ _ _ _ => rfl)
    grind
  have := detF_lin (n := n) (r := r) (c := c) (M := Y) (U := M) (V := fun a b => if a = r then 0 else M a b) hr (fun b hb => by simp only [if_pos]; rw [hrow b hb]; grind) (fun a b ha hb hn => (h a b ha hb hn).symm) (fun a b ha hb hn => by simp only [if_neg hn]; exact (h a b ha hb hn).symm)
  rw [this, h0]; grind
def prodN : Nat → (Nat → Rat) → Rat
  | 0, _ => 1
  | n + 1, f => prodN n f * f n
/-- Zeros below the diagonal in the first columns. -/
theorem detF_tri {M : MF} : ∀ (j n : Nat), (∀ c a, c < j → c < a → a < j + n → M a c = 0) → detF (j + n) M = prodN j (fun c => M c c) * detF n fun a b => M (a + j) (b + j)
  | 0, n, _ => by
    rw [Nat.zero_add]
    show detF n M = 1 * detF n M
    grind
  | j + 1, n, h => by
    have e : j + 1 + n = j + (n + 1) := by omega
    rw [e, detF_tri j (n + 1) fun c a h1 h2 h3 => h c a (by omega) h2 (by omega)]
    show prodN j _ * detF (n + 1) _ = prodN j _ * M j j * _
    have e2 : detF (n + 1) (fun a b => M (a + j) (b + j)) = M j j * detF n fun a b => M (a + (j + 1)) (b + (j + 1)) := by
      show sumN (n + 1) (fun i => sgnN i * M (i + j) (0 + j) * detF n (minorF i fun a b => M (a + j) (b + j))) = _
      rw [sumN_single (k := 0) (by omega) fun i hi hn => by rw [Nat.zero_add, h j (i + j) (by omega) (by omega) (by omega)]; grind]
      rw [detF_congr (M' := fun a b => M (a + (j + 1)) (b + (j + 1))) fun a b _ _ => by
        show M (skipN 0 a + j) (b + 1 + j) = M (a + (j + 1)) (b + (j + 1))
        unfold skipN
        rw [if_neg (by omega), show a + 1 + j = a + (j + 1) by omega, show b + 1 + j = b + (j + 1) by omega]]
      rw [Nat.zero_add]
      unfold sgnN
      simp
    rw [e2]; grind
theorem detF_zcol {n : Nat} {M : MF} (h : ∀ a, a < n + 1 → M a 0 = 0) : detF (n + 1) M = 0 := sumN_zero fun i hi => by rw [h i hi]; grind
end Go.Av
end
section
namespace Go.Av
open Go.Proofs
def NullV (n w : Nat) (M : List (List Rat)) (v : Nat → Rat) : Prop := ∀ i, i < n → dotV w (qel M i) v = 0
theorem null_swap {n w : Nat} {M : List (List Rat)} {i r : Nat} (hM : M.length = n) (hi : i < n) (hr : r < n) (v : Nat → Rat) : NullV n w (swapL M i r) v ↔ NullV n w M v := by
  have e : ∀ a, dotV w (qel (swapL M i r) a) v = if a = r then dotV w (qel M i) v else if a = i then dotV w (qel M r) v else dotV w (qel M a) v := fun a => by
    have : qel (swapL M i r) a = fun b => if a = r then qel M i b else if a = i then qel M r b else qel M a b := funext fun b => qel_swap (by omega) (by omega) a b
    rw [this]
    split
    · rfl
    · split <;> rfl
  constructor
  · intro h a ha
    by_cases e1 : a = r
    · by_cases e2 : i = r
      · have := h r hr; rw [e, if_pos rfl, e2] at this; rw [e1]; exact this
      · have := h i hi; rw [e, if_neg e2, if_pos rfl] at this; rw [e1]; exact this
    · by_cases e2 : a = i
      · have := h r hr; rw [e, if_pos rfl] at this; rw [e2]; exact this
      · have := h a ha; rw [e, if_neg e1, if_neg e2] at this; exact this
  · intro h a ha
    rw [e]
    split
    · exact h i hi
    · split
      · exact h r hr
      · exact h a ha
theorem null_clear {n w r j : Nat} {M Y : List (List Rat)} (hr : r < n) (hd : qel M r j ≠ 0) (hs : ∀ a b, a < n → b < w → qel Y a b = if a = r then qel M r b / qel M r j else qel M a b - qel M r b / qel M r j * qel M a j) (v : Nat → Rat) : NullV n w Y v ↔ NullV n w M v := by
  have e1 : dotV w (qel Y r) v = dotV w (qel M r) v / qel M r j := by
    rw [← dotV_div]
    exact dotV_congr (fun l hl => by rw [hs r l hr hl, if_pos rfl]) fun _ _ => rfl
  have e2 : ∀ a, a < n → a ≠ r → dotV w (qel Y a) v = dotV w (qel M a) v - qel M a j * (dotV w (qel M r) v / qel M r j) := fun a ha hne => by
    rw [← dotV_div, ← dotV_sub]
    exact dotV_congr (fun l hl => by rw [hs a l ha hl, if_neg hne]) fun _ _ => rfl
  constructor
  · intro h a ha
    have h0 : dotV w (qel M r) v = 0 := by have := h r hr; rw [e1] at this; grind
    by_cases e : a = r
    · rw [e]; exact h0
    · have := h a ha
      rw [e2 a ha e, h0] at this; grind
  · intro h a ha
    by_cases e : a = r
    · subst e; rw [e1, h a ha]; grind
    · rw [e2 a ha e, h a ha, h r hr]; grind
theorem pivQ_none {M : List (List Rat)} {j r : Nat} (h : pivQ M j r = none) : ∀ i, r ≤ i → i < M.length → qel M i j = 0 := by
  unfold pivQ at h
  rw [List.find?_eq_none] at h
  intro i hr hi
  have := h i (List.mem_range.2 hi)
  simp [hr] at this
  exact this
theorem pivQ_here {M : List (List Rat)} {j r : Nat} (hr : r < M.length) (h : qel M r j ≠ 0) : pivQ M j r = some r := by
  unfold pivQ
  rw [List.find?_range_eq_some]
  refine ⟨by simp [h], List.mem_range.2 hr, fun i hi => ?_⟩
  simp; omega
theorem pivQ_no {M : List (List Rat)} {j r : Nat} (h : ∀ i, r ≤ i → i < M.length → qel M i j = 0) : pivQ M j r = none := by
  unfold pivQ
  rw [List.find?_eq_none]
  intro i hi
  by_cases hr : r ≤ i
  · simp [h i hr (List.mem_range.1 hi)]
  · simp [hr]
/-- The reduced form, as far as column j. -/
structure RRef (n w j : Nat) (M : List (List Rat)) (ps : List Nat) : Prop where
  good : matGood n w M
  len : ps.length ≤ n
  srt : ps.Pairwise (· < ·)
  lt : ∀ p ∈ ps, p < j
  one : ∀ k, k < ps.length → ∀ i, i < n → qel M i (ps.getD k 0) = if i = k then 1 else 0
  zer : ∀ i, i < n → ∀ c, c < j → (i < ps.length → c < ps.getD i 0) → qel M i c = 0
theorem getD_mem {ps : List Nat} {k : Nat} (h : k < ps.length) : ps.getD k 0 ∈ ps := by rw [List.getD_eq_getElem?_getD, List.getElem?_eq_getElem h]; exact List.getElem_mem h
theorem getD_snoc (ps : List Nat) (j k : Nat) : (ps ++ [j]).getD k 0 = if k < ps.length then ps.getD k 0 else if k = ps.length then j else 0 := by
  rw [List.getD_eq_getElem?_getD]
  by_cases h : k < ps.length
  · rw [if_pos h, List.getElem?_append_left h, ← List.getD_eq_getElem?_getD]
  · rw [if_neg h, List.getElem?_append_right (by omega)]
    by_cases e : k = ps.length
    · rw [if_pos e, e, Nat.sub_self]; rfl
    · rw [if_neg e, List.getElem?_eq_none (by simp; omega)]; rfl
theorem RRef.start {n w : Nat} {M : List (List Rat)} (h : matGood n w M) : RRef n w 0 M [] :=
  ⟨h, Nat.zero_le _, List.Pairwise.nil, fun p hp => (by cases hp), fun k hk => (by cases hk), fun i _ c hc => by omega⟩
theorem RRef.step {n w j : Nat} {M : List (List Rat)} {ps : List Nat} (h : RRef n w j M ps) (hj : j < w) {z : List (List Rat) × List Nat} (he : colStep j (M, ps) = some z) : RRef n w (j + 1) z.1 z.2 ∧ ∀ v, NullV n w z.1 v ↔ NullV n w M v := by
  have hl := h.good.2.2
  unfold colStep at he
  simp only at he
  cases hp : pivQ M j ps.length with
  | none =>
    rw [hp] at he
    simp only [Option.some.injEq] at he
    subst he
    have h0 := pivQ_none hp
    show RRef n w (j + 1) M ps ∧ _
    refine ⟨⟨h.good, h.len, h.srt, fun p hp => by have := h.lt p hp; omega, h.one, fun i hi c hc hcl => ?_⟩, fun _ => Iff.rfl⟩
    by_cases e : c = j
    · subst e
      by_cases hil : i < ps.length
      · have := hcl hil
        have := h.lt _ (getD_mem hil)
        omega
      · exact h0 i (by omega) (by omega)
    · exact h.zer i hi c (by omega) hcl
  | some i0 =>
    rw [hp] at he
    obtain ⟨p1, p2, p3⟩ := pivQ_some hp
    rw [hl] at p1
    have hr : ps.length < n := by omega
    simp only at he
    cases hc : clearQ (swapL M i0 ps.length) j ps.length with
    | none => rw [hc] at he; cases he
    | some Y =>
      rw [hc] at he
      cases he
      have hG := h.good.swap p1 hr
      have hsw : ∀ a b, qel (swapL M i0 ps.length) a b = if a = ps.length then qel M i0 b else if a = i0 then qel M ps.length b else qel M a b := fun a b => qel_swap (by omega) (by omega) a b
      have hd : qel (swapL M i0 ps.length) ps.length j ≠ 0 := by rw [hsw, if_pos rfl]; exact p3
      obtain ⟨hY, hs⟩ := clear_spec hG hr hd hj hc
      refine ⟨⟨hY, by simp; omega, ?_, fun p hp => ?_, fun k hk i hi => ?_, fun i hi c hc hcl => ?_⟩, fun v => ?_⟩
      · rw [List.pairwise_append]
        exact ⟨h.srt, by simp, fun a ha b hb => by simp at hb; subst hb; exact h.lt a ha⟩
      · simp at hp
        rcases hp with hp | rfl
        · have := h.lt p hp; omega
        · omega
      · rw [getD_snoc]
        by_cases hkl : k < ps.length
        · rw [if_pos hkl]
          have hpj := h.lt _ (getD_mem hkl)
          have o := h.one k hkl
          have z1 : qel (swapL M i0 ps.length) ps.length (ps.getD k 0) = 0 := by rw [hsw, if_pos rfl, o i0 p1, if_neg (by omega)]
          rw [hs i _ hi (by omega), z1]
          by_cases e1 : i = ps.length
          · rw [if_pos e1, if_neg (by omega)]; grind
          · rw [if_neg e1, hsw, if_neg e1]
            by_cases e2 : i = i0
            · rw [if_pos e2, o _ hr, if_neg (by omega), if_neg (by omega)]; grind
            · rw [if_neg e2, o i hi]; grind
        · have hk2 : k = ps.length := by simp at hk; omega
          rw [if_neg hkl, if_pos hk2, hs i j hi hj]
          by_cases e1 : i = ps.length
          · rw [if_pos e1, if_pos (by omega)]; grind
          · rw [if_neg e1, if_neg (by omega)]; grind
      · have hcj : c < j ∨ c = j := by omega
        have zr : c < j → qel (swapL M i0 ps.length) ps.length c = 0 := fun hc => by
          rw [hsw, if_pos rfl]; exact h.zer i0 p1 c hc (fun h => by omega)
        rw [hs i c hi (by omega)]
        by_cases e1 : i = ps.length
        · have : c < j := by
            have := hcl (by simp; omega)
            rw [getD_snoc, if_neg (by omega), if_pos e1] at this
            exact this
          rw [if_pos e1, zr this]; grind
        · rw [if_neg e1]
          rcases hcj with hcj | hcj
          · rw [zr hcj, hsw, if_neg e1]
            have hz : i ≠ i0 → qel M i c = 0 := fun hne => h.zer i hi c hcj fun hil => by
              have := hcl (by simp; omega)
              rwa [getD_snoc, if_pos hil] at this
            by_cases e2 : i = i0
            · rw [if_pos e2, h.zer _ hr c hcj (fun h => by omega)]; grind
            · rw [if_neg e2, hz e2]; grind
          · subst hcj
            have : ¬ i < ps.length := fun hil => by
              have h1 := hcl (by simp; omega)
              rw [getD_snoc, if_pos hil] at h1
              have := h.lt _ (getD_mem hil)
              omega
            grind
      · rw [null_clear hr hd hs v, null_swap hl p1 hr v]
theorem cols_rref {n w : Nat} {M0 : List (List Rat)} (h : matGood n w M0) : ∀ {j : Nat} {z : List (List Rat) × List Nat}, j ≤ w → iterO colStep j (M0, []) = some z → RRef n w j z.1 z.2 ∧ ∀ v, NullV n w z.1 v ↔ NullV n w M0 v
  | 0, z, _, he => by cases he; exact ⟨.start h, fun _ => Iff.rfl⟩
  | j + 1, z, hj, he => by
    rw [iterO_succ] at he
    cases hm : iterO colStep j (M0, []) with
    | none => rw [hm] at he; cases he
    | some u =>
      rw [hm] at he
      obtain ⟨h1, h2⟩ := cols_rref h (by omega) hm
      obtain ⟨h3, h4⟩ := h1.step (by omega) (show colStep j (u.1, u.2) = some z from he)
      exact ⟨h3, fun v => (h4 v).trans (h2 v)⟩
/-- The reduced form is reduced. -/
theorem divQ_one {q : Rat} (h : Good q) : divQ q 1 = some q := by
  unfold divQ
  have n1 : (1 : Rat).num = 1 := rfl
  have d1 : (1 : Rat).den = 1 := rfl
  rw [n1, d1, if_pos]
  · congr 1; grind
  · unfold fits
    have h1 := h.1
    have h2 := h.2
    generalize B128 = b at *
    simp only [Bool.and_eq_true, decide_eq_true_eq]
    constructor <;> omega
theorem div_row {row : List Rat} (h : rowGood row) : ∀ n, n ≤ row.length → iterO (divStep 1) n row = some row
  | 0, _ => rfl
  | n + 1, hn => by
    rw [iterO_succ, div_row h n (by omega)]
    show rowStep (fun q _ => divQ q 1) n row = some row
    show Option.map (row.set n) (divQ (qat row n) 1) = some row
    rw [divQ_one (h _ (by unfold qat; rw [List.getD_eq_getElem?_getD, List.getElem?_eq_getElem (by omega)]; exact List.getElem_mem _))]
    show some (row.set n (qat row n)) = some row
    congr 1
    unfold qat
    rw [List.getD_eq_getElem?_getD, List.getElem?_eq_getElem (by omega)]
    exact List.set_getElem_self _
theorem elim_none {r j : Nat} {M : List (List Rat)} (h : ∀ i, i ≠ r → qel M i j = 0) : ∀ n, iterO (elimStep r j) n M = some M
  | 0 => rfl
  | n + 1 => by
    rw [iterO_succ, elim_none h n]
    show elimStep r j n M = some M
    unfold elimStep
    by_cases e : n = r
    · rw [if_pos (.inl e)]
    · rw [if_pos (.inr (h n e))]
theorem cnt_range {ps : List Nat} (h : ps.Pairwise (· < ·)) (j : Nat) : ps.filter (· < j) = ps.take (ps.filter (· < j)).length := by
  induction ps with
  | nil => rfl
  | cons p l ih =>
    rw [List.pairwise_cons] at h
    by_cases e : p < j
    · rw [List.filter_cons_of_pos (by simp [e]), List.length_cons, List.take_succ_cons, ← ih h.2]
    · have : l.filter (· < j) = [] := by
        rw [List.filter_eq_nil_iff]
        intro a ha
        have := h.1 a ha
        simp; omega
      rw [List.filter_cons_of_neg (by simp [e]), this]; rfl
theorem RRef.again {n w : Nat} {Y : List (List Rat)} {ps : List Nat} (h : RRef n w w Y ps) : ∀ j, j ≤ w → iterO colStep j (Y, []) = some (Y, ps.filter (· < j))
  | 0, _ => by
    show some (Y, []) = _
    rw [show ps.filter (· < 0) = [] by rw [List.filter_eq_nil_iff]; intro a _; simp]
  | j + 1, hj => by
    rw [iterO_succ, h.again j (by omega)]
    show colStep j (Y, ps.filter (· < j)) = some (Y, ps.filter (· < j + 1))
    have hc := cnt_range h.srt j
    have hl := h.good.2.2
    generalize hr : (ps.filter (· < j)).length = r at *
    have hrl : r ≤ ps.length := by rw [← hr]; exact List.length_filter_le _ _
    have hlt : ∀ k, k < r → ps.getD k 0 < j := fun k hk => by
      have : ps.getD k 0 ∈ ps.filter (· < j) := by
        rw [hc, List.getD_eq_getElem?_getD, ← List.getElem?_take_of_lt hk, ← List.getD_eq_getElem?_getD]
        exact getD_mem (by rw [List.length_take]; omega)
      simpa using (List.mem_filter.1 this).2
    have hge : ∀ k, r ≤ k → k < ps.length → j ≤ ps.getD k 0 := fun k hk hk2 => by
      rcases Nat.lt_or_ge (ps.getD k 0) j with hh | hh
      · exfalso
        have hm : ps.getD k 0 ∈ ps.filter (· < j) := List.mem_filter.2 ⟨getD_mem hk2, by simpa using hh⟩
        rw [hc] at hm
        obtain ⟨i, hi, e⟩ := List.mem_iff_getElem.1 hm
        rw [List.length_take] at hi
        rw [List.getElem_take] at e
        have e2 : ps.getD i 0 = ps.getD k 0 := by rw [List.getD_eq_getElem?_getD, List.getElem?_eq_getElem (by omega)]; exact e
        have := getD_lt h.srt (i := i) (j := k) (by omega) hk2
        omega
      · exact hh
    unfold colStep
    simp only [hr]
    by_cases hjr : r < ps.length ∧ ps.getD r 0 = j
    · obtain ⟨h1, h2⟩ := hjr
      have ho := h.one r h1
      rw [h2] at ho
      have hrn : r < n := Nat.lt_of_lt_of_le h1 h.len
      rw [pivQ_here (by omega) (by rw [ho r hrn, if_pos rfl]; decide)]
      simp only
      have hsw : swapL Y r r = Y := by
        unfold swapL
        rw [mrow_eq (by omega), List.set_getElem_self, List.set_getElem_self]
      rw [hsw]
      have hcl : clearQ Y j r = some Y := by
        unfold clearQ
        rw [ho r hrn, if_pos rfl, div_row (h.good.row hrn).1 _ (Nat.le_refl _)]
        show iterO (elimStep r j) Y.length (Y.set r (mrow Y r)) = some Y
        rw [mrow_eq (by omega), List.set_getElem_self]
        refine elim_none (fun i hi => ?_) _
        by_cases hin : i < n
        · rw [ho i hin, if_neg hi]
        · unfold qel qat mrow
          rw [List.getD_eq_getElem?_getD (l := Y), List.getElem?_eq_none (by omega)]; rfl
      rw [hcl]
      show some (Y, ps.filter (· < j) ++ [j]) = _
      congr 2
      have h3 := cnt_range h.srt (j + 1)
      have h4 : (ps.filter (· < j + 1)).length = r + 1 := by
        have : ps.filter (· < j + 1) = ps.take (r + 1) := by
          conv => lhs; rw [← List.take_append_drop (r + 1) ps]
          rw [List.filter_append]
          have e1 : (ps.take (r + 1)).filter (· < j + 1) = ps.take (r + 1) := by
            rw [List.filter_eq_self]
            intro a ha
            obtain ⟨i, hi, e⟩ := List.mem_iff_getElem.1 ha
            rw [List.length_take] at hi
            rw [List.getElem_take] at e
            have e2 : ps.getD i 0 = a := by rw [List.getD_eq_getElem?_getD, List.getElem?_eq_getElem (by omega)]; exact e
            by_cases hir : i < r
            · have := hlt i hir; simp; omega
            · have : i = r := by omega
              subst this; simp; omega
          have e2 : (ps.drop (r + 1)).filter (· < j + 1) = [] := by
            rw [List.filter_eq_nil_iff]
            intro a ha
            obtain ⟨i, hi, e⟩ := List.mem_iff_getElem.1 ha
            rw [List.length_drop] at hi
            rw [List.getElem_drop] at e
            have e2 : ps.getD (r + 1 + i) 0 = a := by rw [List.getD_eq_getElem?_getD, List.getElem?_eq_getElem (by omega)]; exact e
            have := getD_lt h.srt (i := r) (j := r + 1 + i) (by omega) (by omega)
            simp; omega
          rw [e1, e2, List.append_nil]
        rw [this, List.length_take]; omega
      rw [h3, h4, hc, List.take_add_one, List.getElem?_eq_getElem h1]
      rw [List.getD_eq_getElem?_getD, List.getElem?_eq_getElem h1] at h2
      rw [show ps[r] = j from h2]; rfl
    · have hno : j ∉ ps := fun hm => by
        obtain ⟨k, hk, e⟩ := List.mem_iff_getElem.1 hm
        have e2 : ps.getD k 0 = j := by rw [List.getD_eq_getElem?_getD, List.getElem?_eq_getElem hk]; exact e
        by_cases hkr : k < r
        · have := hlt k hkr; omega
        · rcases Nat.lt_or_eq_of_le (show r ≤ k by omega) with h1 | h1
          · have := getD_lt h.srt h1 hk
            have := hge r (Nat.le_refl _) (by omega)
            omega
          · subst h1; exact hjr ⟨hk, e2⟩
      rw [pivQ_no (fun i hi hin => h.zer i (by omega) j (by omega) fun hil => by
        have := hge i hi hil
        rcases Nat.lt_or_eq_of_le this with h1 | h1
        · exact h1
        · exact absurd (h1 ▸ getD_mem hil) hno)]
      show some (Y, ps.filter (· < j)) = _
      congr 2
      apply List.filter_congr
      intro a ha
      have : a ≠ j := fun e => hno (e ▸ ha)
      simp; omega
end Go.Av
end
section
namespace Go.Av
open Go.Proofs
/-- A vector of zeros: nothing, or a block. -/
def ZerV (n : Nat) (v : AV) (M : Mem) : Prop := (n = 0 ∧ v = .nil ∧ M = Mem.emp) ∨ ∃ b, v = .osl b 4 0 n ∧ M = Mem.emp.set b ⟨36, 4, rrs (List.replicate n (ofQ 0))⟩
/-- A list that grows, alone in memory. -/
structure LstO (M : Mem) (ty : TypeId) (z : Nat) (ov : AV) (ob : List Nat) (l : List AV) : Prop where
  lst : LstV M ty z ov ob l
  only : OnlyM M ob
section
variable {M : Mem} {ov : AV} {ty : TypeId} {z : Nat} {ob : List Nat} {l : List AV}
theorem LstO.start (ty : TypeId) (z : Nat) : LstO Mem.emp ty z .nil [] [] := ⟨.inl ⟨rfl, rfl, rfl⟩, fun _ h => absurd rfl h⟩
theorem LstO.ones (h : LstO M ty z ov ob l) (hl : ∀ v ∈ l, v.cells.all AV.one = true) : OnesM M := by
  intro b y hy
  have hb := h.only b (by rw [hy]; simp)
  rcases h.lst with ⟨_, h1, _⟩ | ⟨b', h1, _, h3⟩
  · rw [h1] at hb; cases hb
  · rw [h1] at hb
    simp at hb
    subst hb
    rw [h3] at hy; cases hy
    exact hl
theorem LstO.push0 (h : LstO M ty z .nil [] []) (b : Nat) (v : AV) : LstO (M.set b ⟨ty, z, [v]⟩) ty z (.osl b z 0 1) [b] [v] :=
  ⟨.inr ⟨b, rfl, rfl, by simp⟩, (h.only.sub fun a ha => by cases ha).set (by simp) _⟩
theorem LstO.push1 {b0 : Nat} (h : LstO M ty z (.osl b0 z 0 l.length) [b0] l) (b : Nat) (v : AV) : LstO ((M.del b0).set b ⟨ty, z, l ++ [v]⟩) ty z (.osl b z 0 (l.length + 1)) [b] (l ++ [v]) := by
  refine ⟨.inr ⟨b, rfl, by simp, by simp⟩, OnlyM.set (l := [b]) (fun a ha => ?_) (by simp) _⟩
  by_cases h1 : a = b0
  · subst h1; exact absurd (if_pos rfl) ha
  · have e : (M.del b0) a = M a := if_neg h1
    rw [e] at ha
    have := h.only a ha
    simp at this
    exact absurd this h1
end
structure KerS7 where
  M : Mem
  ov : AV
  ob : List Nat
def InvK7 (Y : List (List Rat)) (ps : List Nat) (w j : Nat) (s : KerS7) : Prop := LstO s.M 42 1 s.ov s.ob ((emb (kerP Y ps w j)).map rowAV)
end Go.Av
end
section
namespace Go.Av
open Go.Proofs
def entStep (r : List Rat) (b : List (List Rat)) (j k : Nat) (s : Rat) : Option Rat := (mulQ (qat r k) (qel b k j)).bind (addQ s)
def entQ (r : List Rat) (b : List (List Rat)) (j : Nat) : Option Rat := iterO (entStep r b j) b.length 0
def tmCol (r : List Rat) (b : List (List Rat)) (j : Nat) (acc : List Rat) : Option (List Rat) := (entQ r b j).map fun x => acc ++ [x]
def tmStep (a b : List (List Rat)) (w i : Nat) (acc : List (List Rat)) : Option (List (List Rat)) := (iterO (tmCol (mrow a i) b) w []).map fun r => acc ++ [r]
def timesQ (a b : List (List Rat)) : Option (List (List Rat)) := iterO (tmStep a b (mrow b 0).length) a.length []
noncomputable def timR (a b : List (List RR)) : Int × List (List Rat) :=
  if chk a ≠ 0 then (chk a, []) else if chk b ≠ 0 then (chk b, []) else if (mrow a 0).length ≠ b.length then (1, []) else
  match timesQ (unq a) (unq b) with
  | none => (2, [])
  | some Y => (0, Y)
/-- The memory while a row is computed. -/
def TM (M : Mem) (c B bv : Nat) (x : AV) (v : List RR) (H : List AV) : Mem := ((M.set c ⟨61, 1, [x]⟩).set bv ⟨36, 4, rrs v⟩).set B ⟨42, 1, H⟩
section
variable {M : Mem} {c B bv : Nat} {x x' : AV} {v v' : List RR} {H : List AV}
end
structure TimS where
  M : Mem
  bs : List Nat
  Y : List (List Rat)
  x : AV
def InvT (c B : Nat) (a b : List (List Rat)) (w n i : Nat) (s : TimS) : Prop :=
  iterO (tmStep a b w) i [] = some s.Y ∧ MatP s.M B s.bs (emb s.Y) (n - i) ∧ s.M c = none ∧ isE s.x 0
set_option maxHeartbeats 1000000
end Go.Av
end
section
namespace Go.Av
open Go.Proofs
/-- A list of rows and a row that is being made. -/
structure TwoL (M : Mem) (ov : AV) (ob : List Nat) (l : List AV) (rv : AV) (rb : List Nat) (r : List AV) : Prop where
  lst : LstV M 42 1 ov ob l
  row : LstV M 36 4 rv rb r
  only : OnlyM M (ob ++ rb)
  dis : ∀ b ∈ ob, b ∉ rb
section
variable {M : Mem} {ov rv : AV} {ob rb : List Nat} {l r : List AV}
theorem lstV_mem {M : Mem} {ty : TypeId} {z : Nat} {ov : AV} {ob : List Nat} {l : List AV} (h : LstV M ty z ov ob l) {b : Nat} (hb : b ∈ ob) : M b = some ⟨ty, z, l⟩ := by
  rcases h with ⟨_, h1, _⟩ | ⟨b', h1, _, h3⟩
  · rw [h1] at hb; cases hb
  · rw [h1] at hb; simp at hb; subst hb; exact h3
theorem TwoL.start {M : Mem} {ov : AV} {ob : List Nat} {l : List AV} (h : LstO M 42 1 ov ob l) : TwoL M ov ob l .nil [] [] :=
  ⟨h.lst, .inl ⟨rfl, rfl, rfl⟩, by simpa using h.only, by simp⟩
theorem TwoL.fresh (h : TwoL M ov ob l rv rb r) {b : Nat} (hb : M b = none) : b ∉ ob ∧ b ∉ rb :=
  ⟨fun h' => (by rw [lstV_mem h.lst h'] at hb; cases hb), fun h' => (by rw [lstV_mem h.row h'] at hb; cases hb)⟩
theorem TwoL.push0 (h : TwoL M ov ob l .nil [] []) {b : Nat} (hb : M b = none) (v : AV) : TwoL (M.set b ⟨36, 4, [v]⟩) ov ob l (.osl b 4 0 1) [b] [v] := by
  obtain ⟨f1, _⟩ := h.fresh hb
  refine ⟨h.lst.keep fun a ha => by simp only [set_at]; rw [if_neg (by rintro rfl; exact f1 ha)], .inr ⟨b, rfl, rfl, by simp⟩, OnlyM.set (h.only.sub fun a ha => by simp at ha ⊢; exact .inl ha) (by simp) _, fun a ha => by simp; rintro rfl; exact f1 ha⟩
theorem TwoL.push1 {b0 : Nat} (h : TwoL M ov ob l (.osl b0 4 0 r.length) [b0] r) {b : Nat} (hb : (M.del b0) b = none) (v : AV) : TwoL ((M.del b0).set b ⟨36, 4, r ++ [v]⟩) ov ob l (.osl b 4 0 (r.length + 1)) [b] (r ++ [v]) := by
  have hd : ∀ a, a ≠ b0 → (M.del b0) a = M a := fun a ha => if_neg ha
  have h0 : ∀ a ∈ ob, a ≠ b0 := fun a ha e => h.dis a ha (by simp [e])
  have hh : TwoL (M.del b0) ov ob l .nil [] [] := by
    refine ⟨h.lst.keep fun a ha => hd a (h0 a ha), .inl ⟨rfl, rfl, rfl⟩, fun a ha => ?_, by simp⟩
    have h1 : a ≠ b0 := by rintro rfl; exact ha (if_pos rfl)
    rw [hd a h1] at ha
    have := h.only a ha
    simp at this ⊢
    exact this.resolve_right h1
  have := hh.push0 hb v
  obtain ⟨f1, _⟩ := hh.fresh hb
  refine ⟨hh.lst.keep fun a ha => by simp only [set_at]; rw [if_neg (by rintro rfl; exact f1 ha)], .inr ⟨b, rfl, by simp, by simp⟩, OnlyM.set (hh.only.sub fun a ha => by simp at ha ⊢; exact .inl ha) (by simp) _, fun a ha => by simp; rintro rfl; exact f1 ha⟩
theorem TwoL.ones (h : TwoL M ov ob l rv rb r) (h1 : ∀ v ∈ l, v.cells.all AV.one = true) (h2 : ∀ v ∈ r, v.cells.all AV.one = true) : OnesM M := by
  intro b y hy
  rcases List.mem_append.1 (h.only b (by rw [hy]; simp)) with hb | hb
  · rw [lstV_mem h.lst hb] at hy; cases hy; exact h1
  · rw [lstV_mem h.row hb] at hy; cases hy; exact h2
/-- The row is done: what is left is the list. -/
theorem TwoL.done (h : TwoL M ov ob l rv rb r) (h1 : ∀ v ∈ l, v.cells.all AV.one = true) : ∃ M', Recast M M' ∧ LstO M' 42 1 ov ob l ∧ View M M' rv (.sl 4 r) ∧ View M M' ov ov := by
  refine ⟨fun b => if b ∈ rb then none else M b, Recast.sub fun b y hy => ?_, ⟨h.lst.keep fun b hb => if_neg (h.dis b hb), fun b hb => ?_⟩, ?_, .same _⟩
  · by_cases hb : b ∈ rb
    · simp [hb] at hy
    · simp [hb] at hy
      refine ⟨hy, ?_⟩
      have := h.only b (by rw [hy]; simp)
      simp [hb] at this
      rw [lstV_mem h.lst this] at hy; cases hy; exact h1
  · by_cases hm : b ∈ rb
    · simp [hm] at hb
    · simp [hm] at hb
      have := h.only b hb
      simpa [hm] using this
  · exact h.row.view fun b hb => if_pos hb
end
end Go.Av
end
section
namespace Go.Av
open Go.Proofs
def entM (b8 b10 : Nat) (s : Rat) : Mem := (Mem.emp.set b8 ⟨36, 4, [.agg [.bool false, .nil, .bool false, .nil]]⟩).set b10 ⟨36, 4, [(ofQ s).av]⟩
set_option maxHeartbeats 1000000
end Go.Av
end
section
namespace Go.Av
open Go.Proofs
structure TS7 where
  M : Mem
  ov : AV
  ob : List Nat
  Y : List (List Rat)
structure TR7 where
  M : Mem
  rv : AV
  rb : List Nat
  r : List Rat
def InvT7 (A N : List (List Rat)) (w i : Nat) (s : TS7) : Prop := iterO (tmStep A N w) i [] = some s.Y ∧ LstO s.M 42 1 s.ov s.ob ((emb s.Y).map rowAV)
set_option maxHeartbeats 1000000
end Go.Av
end
section
namespace Go.Av
open Go.Proofs
def trRow (X : List (List Rat)) (n j : Nat) : List Rat := (List.range n).map fun i => qel X i j
def trM (X : List (List Rat)) (n w : Nat) : List (List Rat) := (List.range w).map fun j => trRow X n j
structure TrS where
  M : Mem
  rv : AV
  rb : List Nat
set_option maxHeartbeats 1000000
end Go.Av
end
section
namespace Go.Av
open Go.Proofs
theorem filt_succ {ps : List Nat} (h : ps.Pairwise (· < ·)) (j : Nat) : (ps.filter (· < j + 1)).length = (ps.filter (· < j)).length + if j ∈ ps then 1 else 0 := by
  induction ps with
  | nil => rfl
  | cons p l ih =>
    rw [List.pairwise_cons] at h
    have ih := ih h.2
    rcases Nat.lt_trichotomy p j with e | e | e
    · rw [List.filter_cons_of_pos (by simp; omega), List.filter_cons_of_pos (by simp; omega), List.length_cons, List.length_cons, ih]
      have : (j ∈ p :: l) ↔ j ∈ l := by rw [List.mem_cons]; exact ⟨fun h => h.resolve_left (by omega), .inr⟩
      simp only [this]; omega
    · subst e
      have hn : p ∉ l := fun hm => by have := h.1 p hm; omega
      rw [if_neg hn] at ih
      rw [List.filter_cons_of_pos (by simp), List.filter_cons_of_neg (by simp), List.length_cons, ih, if_pos (by simp)]
    · rw [List.filter_cons_of_neg (by simp; omega), List.filter_cons_of_neg (by simp; omega), ih]
      have : (j ∈ p :: l) ↔ j ∈ l := by rw [List.mem_cons]; exact ⟨fun h => h.resolve_left (by omega), .inr⟩
      simp only [this]
theorem ker_count {Y : List (List Rat)} {ps : List Nat} {w : Nat} (h : ps.Pairwise (· < ·)) : ∀ j, (kerP Y ps w j).length + (ps.filter (· < j)).length = j
  | 0 => by
    rw [show ps.filter (· < 0) = [] by rw [List.filter_eq_nil_iff]; intro a _; simp]; rfl
  | j + 1 => by
    have ih := ker_count (Y := Y) (w := w) h j
    rw [kerP_succ, filt_succ h]
    by_cases e : j ∈ ps
    · rw [if_pos e, if_pos e]; omega
    · rw [if_neg e, if_neg e, List.length_append, List.length_singleton]; omega
theorem RRef.count {n w : Nat} {Y : List (List Rat)} {ps : List Nat} (h : RRef n w w Y ps) : (kerP Y ps w w).length + ps.length = w := by
  have := ker_count (Y := Y) (w := w) h.srt w
  rwa [List.filter_eq_self.2 fun p hp => by simpa using h.lt p hp] at this
/-- Products. -/
theorem qat_snoc {l : List Rat} {x : Rat} (i : Nat) : qat (l ++ [x]) i = if i < l.length then qat l i else if i = l.length then x else 0 := by
  unfold qat
  rw [List.getD_eq_getElem?_getD]
  by_cases h : i < l.length
  · rw [if_pos h, List.getElem?_append_left h, ← List.getD_eq_getElem?_getD]
  · rw [if_neg h, List.getElem?_append_right (by omega)]
    by_cases e : i = l.length
    · rw [if_pos e, e, Nat.sub_self]; rfl
    · rw [if_neg e, List.getElem?_eq_none (by simp; omega)]; rfl
theorem reduce_rref {n w : Nat} {X : List (List Rat)} (hX : matGood n w X) (hw : (mrow X 0).length = w) {z : List (List Rat) × List Nat} (h : reduceQ X = some z) : RRef n w w z.1 z.2 ∧ ∀ v, NullV n w z.1 v ↔ NullV n w X v := by
  unfold reduceQ at h
  rw [hw] at h
  exact cols_rref hX (Nat.le_refl _) h
theorem RRef.reduce {n w : Nat} {Y : List (List Rat)} {ps : List Nat} (h : RRef n w w Y ps) (hw : (mrow Y 0).length = w) : reduceQ Y = some (Y, ps) := by
  unfold reduceQ
  rw [hw, h.again w (Nat.le_refl _), List.filter_eq_self.2 fun p hp => by simpa using h.lt p hp]
end Go.Av
end
section
namespace Go.Av
open Go.Proofs
def wideP (X : List (List Rat)) (b : List Rat) : Nat → List (List Rat)
  | 0 => X
  | i + 1 => (wideP X b i).set i (mrow X i ++ [qat b i])
def wideQ (X : List (List Rat)) (b : List Rat) : List (List Rat) := wideP X b X.length
theorem wideP_length (X : List (List Rat)) (b : List Rat) : ∀ i, (wideP X b i).length = X.length
  | 0 => rfl
  | i + 1 => by unfold wideP; rw [List.length_set, wideP_length]
theorem wideP_row (X : List (List Rat)) (b : List Rat) (k : Nat) (hk : k < X.length) : ∀ i, i ≤ X.length → mrow (wideP X b i) k = if k < i then mrow X k ++ [qat b k] else mrow X k
  | 0, _ => by rw [if_neg (by omega)]; rfl
  | i + 1, h => by
    unfold wideP
    rw [mrow_set (by rw [wideP_length]; omega), wideP_row X b k hk i (by omega)]
    by_cases e : k = i
    · subst e; rw [if_pos rfl, if_pos (by omega)]
    · rw [if_neg e]
      by_cases h1 : k < i
      · rw [if_pos h1, if_pos (by omega)]
      · rw [if_neg h1, if_neg (by omega)]
theorem good_snoc {r : List Rat} {x : Rat} (h : rowGood r) (hx : Good x) : rowGood (r ++ [x]) := fun q hq => by
  rcases List.mem_append.1 hq with hq | hq
  · exact h q hq
  · simp at hq; subst hq; exact hx
theorem wideQ_good {X : List (List Rat)} {b : List Rat} {n w : Nat} (h : matGood n w X) (hb : rowGood b) (hl : b.length = n) : matGood n (w + 1) (wideQ X b) := by
  have hX := h.2.2
  have hr : ∀ k, k < n → mrow (wideQ X b) k = mrow X k ++ [qat b k] := fun k hk => by unfold wideQ; rw [wideP_row X b k (by omega) _ (Nat.le_refl _), if_pos (by omega)]
  have hlen : (wideQ X b).length = n := by unfold wideQ; rw [wideP_length, hX]
  refine ⟨fun r hr' => ?_, fun k hk => ?_, hlen⟩
  · obtain ⟨k, hk, e⟩ := List.mem_iff_getElem.1 hr'
    have : mrow (wideQ X b) k = r := by rw [mrow_eq hk, e]
    rw [hlen] at hk
    rw [← this, hr k hk]
    exact good_snoc (h.row hk).1 (hb.at (by omega))
  · rw [hlen] at hk
    rw [hr k hk, List.length_append, (h.row hk).2]; rfl
def solF (Y : List (List Rat)) (ps : List Nat) (w : Nat) : Nat → List Rat → List Rat
  | 0, v => v
  | k + 1, v => (solF Y ps w k v).set (ps.getD k 0) (qel Y k w)
def solV (Y : List (List Rat)) (ps : List Nat) (w : Nat) : List Rat := solF Y ps w ps.length (List.replicate w 0)
theorem solF_length (Y : List (List Rat)) (ps : List Nat) (w : Nat) (v : List Rat) : ∀ k, (solF Y ps w k v).length = v.length
  | 0 => rfl
  | k + 1 => by unfold solF; rw [List.length_set, solF_length]
theorem solV_length (Y : List (List Rat)) (ps : List Nat) (w : Nat) : (solV Y ps w).length = w := by unfold solV; rw [solF_length]; simp
def okV (b : List RR) : Prop := ∀ i, i < b.length → (rr b i).ok = true
open Classical in
/-- The error, is there a solution, the solution. -/
noncomputable def solR (m : List (List RR)) (b : List RR) : Int × Bool × List Rat :=
  if chk m ≠ 0 then (chk m, false, []) else if b.length ≠ m.length then (1, false, []) else if ¬ okV b then (1, false, []) else if (mrow m 0).length = 64 then (2, false, []) else
  match reduceQ (wideQ (unq m) (b.map RR.q)) with
  | none => (2, false, [])
  | some z => if (mrow m 0).length ∈ z.2 then (0, false, []) else (0, true, solV z.1 z.2 (mrow m 0).length)
theorem rrs_app (r : List RR) (x : RR) : rrs (r ++ [x]) = rrs r ++ [x.av] := by simp [rrs]
theorem hdrs_put {bs : List Nat} {rows : List (List RR)} (i : Nat) (b' : Nat) (r : List RR) : hdrs (bs.set i b') (rows.set i r) = (hdrs bs rows).set i (.osl b' 4 0 r.length) := by
  unfold hdrs
  refine List.ext_getElem? fun k => ?_
  rw [List.getElem?_zipWith, List.getElem?_set, List.getElem?_set, List.getElem?_set, List.length_zipWith]
  by_cases e : i = k
  · subst e
    simp only [if_true]
    by_cases h1 : i < bs.length <;> by_cases h2 : i < rows.length <;> simp [h1, h2] <;> omega
  · simp only [if_neg e]
    rw [List.getElem?_zipWith]
theorem RefM.grow {M : Mem} {B : Nat} {bs : List Nat} {X : List (List Rat)} (h : RefM M B bs X) {i : Nat} (hi : i < X.length) {b' : Nat} (hb' : (M.del (nb bs i)) b' = none) (r : List Rat) :
    RefM (((M.del (nb bs i)).set b' ⟨36, 4, rrs (r.map ofQ)⟩).set B ⟨42, 1, (hdrs bs (emb X)).set i (.osl b' 4 0 r.length)⟩) B (bs.set i b') (X.set i r) := by
  have hiE : i < (emb X).length := by rw [emb_length]; exact hi
  have hib : i < bs.length := by rw [h.1.len]; exact hiE
  have hni := h.1.ne hiE
  have hdel : ∀ a, a ≠ nb bs i → (M.del (nb bs i)) a = M a := fun a ha => if_neg ha
  have hB' : B ≠ b' := by
    rintro rfl
    rw [hdel _ (Ne.symm hni), h.1.top] at hb'; cases hb'
  have hk' : ∀ k, k < (emb X).length → k ≠ i → nb bs k ≠ nb bs i ∧ nb bs k ≠ b' := fun k hk hki => by
    have h1 : nb bs k ≠ nb bs i := fun e => hki (nb_inj h.1.nd (by rw [h.1.len]; exact hk) hib e)
    refine ⟨h1, fun e => ?_⟩
    rw [← e, hdel _ h1, h.1.row k hk] at hb'; cases hb'
  refine ⟨⟨?_, ?_, fun k hk => ?_, ?_, ?_⟩, fun a ha => ?_⟩
  · rw [emb_set, hdrs_put, List.length_map]; simp
  · rw [List.length_set, emb_set, List.length_set]; exact h.1.len
  · rw [emb_set, List.length_set] at hk
    rw [nb_set hib, emb_set, mrow_set hiE]
    simp only [set_at]
    by_cases e : k = i
    · rw [if_pos e, if_pos e, if_neg (Ne.symm hB'), if_pos rfl]
    · obtain ⟨h1, h2⟩ := hk' k hk e
      rw [if_neg e, if_neg e, if_neg (h.1.ne hk), if_neg h2, hdel _ h1]
      exact h.1.row k hk
  · unfold List.Nodup
    rw [List.pairwise_iff_getElem]
    intro x y hx hy hxy
    rw [← nb_eq hx, ← nb_eq hy, nb_set hib, nb_set hib]
    rw [List.length_set, h.1.len] at hx hy
    by_cases e1 : x = i
    · rw [if_pos e1, if_neg (by omega)]
      exact Ne.symm (hk' y hy (by omega)).2
    · rw [if_neg e1]
      by_cases e2 : y = i
      · rw [if_pos e2]; exact (hk' x hx e1).2
      · rw [if_neg e2]
        intro e
        have := nb_inj h.1.nd (by rw [h.1.len]; exact hx) (by rw [h.1.len]; exact hy) e
        omega
  · intro hm
    rcases List.mem_or_eq_of_mem_set hm with hm | e
    · exact h.1.nB hm
    · exact hB' e
  · simp only [set_at] at ha
    by_cases e1 : a = B
    · simp [e1]
    · rw [if_neg e1] at ha
      by_cases e2 : a = b'
      · rw [e2]
        refine List.mem_cons_of_mem _ ?_
        have := nb_mem (bs := bs.set i b') (i := i) (by rw [List.length_set]; exact hib)
        rwa [nb_set hib, if_pos rfl] at this
      · rw [if_neg e2] at ha
        have e3 : a ≠ nb bs i := by rintro rfl; exact ha (if_pos rfl)
        rw [hdel _ e3] at ha
        have := h.2 a ha
        rcases List.mem_cons.1 this with e4 | hm
        · exact absurd e4 e1
        · obtain ⟨k, hk, e⟩ := List.mem_iff_getElem.1 hm
          have hki : k ≠ i := by
            rintro rfl
            exact e3 (by rw [← e, nb_eq hk])
          refine List.mem_cons_of_mem _ ?_
          have := nb_mem (bs := bs.set i b') (i := k) (by rw [List.length_set]; exact hk)
          rwa [nb_set hib, if_neg hki, nb_eq hk, e] at this
end Go.Av
end
section
namespace Go.Av
open Go.Proofs
theorem RefM.swap {M : Mem} {B : Nat} {bs : List Nat} {X : List (List Rat)} (h : RefM M B bs X) {i r : Nat} (hi : i < X.length) (hr : r < X.length) :
    RefM (M.set B ⟨42, 1, ((hdrs bs (emb X)).set i (.osl (nb bs r) 4 0 (mrow (emb X) r).length)).set r (.osl (nb bs i) 4 0 (mrow (emb X) i).length)⟩) B (swapB bs i r) (swapL X i r) := by
  have hiE : i < (emb X).length := by rw [emb_length]; exact hi
  have hrE : r < (emb X).length := by rw [emb_length]; exact hr
  have hb : ∀ b, b ∈ swapB bs i r ↔ b ∈ bs := fun b => swapB_mem (by rw [h.1.len]; exact hiE) (by rw [h.1.len]; exact hrE) b
  refine ⟨by rw [emb_swap]; exact h.1.swap hiE hrE, fun b hb' => ?_⟩
  have := (h.2.set (by simp) _) b hb'
  simpa [hb] using this
def D2 (M : Mem) (b6 b2 : Nat) (d : Rat) : Mem := (M.set b6 ⟨36, 4, [(ofQ d).av]⟩).set b2 ⟨36, 4, [.agg [.bool false, .nil, .bool false, .nil]]⟩
section
variable {M : Mem} {B b6 b2 : Nat} {d : Rat}
end
theorem RefM.fresh {M : Mem} {B : Nat} {bs : List Nat} {X : List (List Rat)} (h : RefM M B bs X) {b : Nat} (hb : M b = none) : b ∉ B :: bs := by
  intro hm
  rcases List.mem_cons.1 hm with rfl | hm
  · rw [h.1.top] at hb; cases hb
  · obtain ⟨k, hk, e⟩ := List.mem_iff_getElem.1 hm
    rw [← nb_eq hk] at e
    have := h.1.row k (by rw [← h.1.len]; exact hk)
    rw [e, hb] at this; cases this
theorem emp_back (g : Mem) : Mem.emp.back [] g = g := by
  funext k
  cases hk : g k with
  | some y => exact back_some hk
  | none => rw [back_out hk (by simp)]; rfl
def OffL (b : Nat) (l : List Nat) : Prop := b ∉ l
structure DS7 where
  X : List (List Rat)
  d : Rat
  M : Mem
  bs : List Nat
def InvD7 (n : Nat) (X0 : List (List Rat)) (B b6 b2 j : Nat) (s : DS7) : Prop :=
  detIter n X0 j = some (some (s.X, s.d)) ∧ matGood n n s.X ∧ Good s.d ∧ RefM s.M B s.bs s.X ∧ OffL b6 (B :: s.bs) ∧ OffL b2 (B :: s.bs)
set_option maxHeartbeats 1000000
end Go.Av
end
section
namespace Go.Av
open Go.Proofs
theorem okV_emb {b : List RR} (hb : ∀ x ∈ b, x.Lb) (h : okV b) : b = (b.map RR.q).map ofQ ∧ rowGood (b.map RR.q) := by
  have hok : ∀ x ∈ b, Good x.q ∧ x = ofQ x.q := fun x hx => by
    obtain ⟨j, hj, rfl⟩ := mem_rr hx
    exact ok_good (hb _ hx) (h j hj)
  refine ⟨?_, fun q hq => ?_⟩
  · rw [List.map_map]
    conv => lhs; rw [← List.map_id b]
    exact List.map_congr_left fun x hx => (hok x hx).2
  · obtain ⟨x, hx, rfl⟩ := List.mem_map.1 hq
    exact (hok x hx).1
theorem rr_q {b : List RR} {i : Nat} (hi : i < b.length) : qat (b.map RR.q) i = (rr b i).q := by
  unfold qat
  rw [List.getD_eq_getElem?_getD, List.getElem?_map, List.getElem?_eq_getElem hi, rr_eq hi]
  rfl
theorem last_mem {ps : List Nat} {w : Nat} (h : ps.Pairwise (· < ·)) (hw : ∀ p ∈ ps, p ≤ w) (h0 : ps ≠ []) : ps.getD (ps.length - 1) 0 = w ↔ w ∈ ps := by
  have hl : 0 < ps.length := by cases ps with | nil => exact absurd rfl h0 | cons a l => simp
  have hg : ps.getD (ps.length - 1) 0 = ps[ps.length - 1] := by rw [List.getD_eq_getElem?_getD, List.getElem?_eq_getElem (by omega)]; rfl
  constructor
  · intro e
    rw [← e, hg]; exact List.getElem_mem _
  · intro hm
    obtain ⟨k, hk, e⟩ := List.mem_iff_getElem.1 hm
    by_cases hkl : k = ps.length - 1
    · subst hkl; rw [hg, e]
    · have := List.pairwise_iff_getElem.1 h k (ps.length - 1) hk (by omega) (by omega)
      have h2 := hw _ (List.getElem_mem (show ps.length - 1 < ps.length by omega))
      omega
theorem recast_tmp {M : Mem} {b1 n b' B : Nat} {x y z : Blk} (h1 : M b1 = none) (ho : OnesM (((M.del n).set b' y).set B z)) : Recast ((((M.set b1 x).del n).set b' y).set B z) (((M.del n).set b' y).set B z) := by
  refine Recast.sub fun a u hu => ⟨?_, ho a u hu⟩
  simp only [set_at] at hu ⊢
  by_cases e1 : a = B
  · rw [if_pos e1] at hu ⊢; exact hu
  · rw [if_neg e1] at hu ⊢
    by_cases e2 : a = b'
    · rw [if_pos e2] at hu ⊢; exact hu
    · rw [if_neg e2] at hu ⊢
      have hu : (if a = n then none else M a) = some u := hu
      show (if a = n then none else (M.set b1 x) a) = some u
      by_cases e3 : a = n
      · rw [if_pos e3] at hu; cases hu
      · rw [if_neg e3] at hu ⊢
        rw [Mem.set_other _ _ (by rintro rfl; rw [h1] at hu; cases hu)]
        exact hu
structure SolS where
  M : Mem
  bs : List Nat
def InvSo (B : Nat) (X : List (List Rat)) (b : List RR) (i : Nat) (s : SolS) : Prop :=
  RefM s.M B s.bs (wideP X (b.map RR.q) i) ∧ ∀ k, k < i → (rr b k).ok = true
def solOut (Z : Int × Bool × List Rat) : AV := .tup [rowAV (Z.2.2.map ofQ), .bool Z.2.1, .int .i64 Z.1]
set_option maxHeartbeats 1000000
open Classical in
theorem solveL_call (m : List (List RR)) (b : List RR) (hm : LbM m) (hb : ∀ x ∈ b, x.Lb) : ACall Tryz.prog 42 [matAV m, rowAV b] Mem.emp fun v mm => v = solOut (solR m b) ∧ mm = Mem.emp := by
  have hck := check_call m hm
  have hwid := width_call m
  by_cases h0 : chk m = 0
  · rw [h0] at hck
    by_cases h1 : b.length = m.length
    · obtain ⟨a1, a2, a3, a4, a5⟩ := chk_emb hm h0
      have hla := unq_length m
      have ea : (mrow (unq m) 0).length = (mrow m 0).length := by rw [unq_row, List.length_map]
      have hcl := clone_call m (by rw [a1]; exact short_emb a2) (by omega) (fun r hr => by
        obtain ⟨i, hi, rfl⟩ := mem_row hr
        have := a3 i (by rw [hla]; exact hi)
        rw [unq_row, List.length_map] at this
        omega)
      have hR : solR m b = if ¬ okV b then ((1 : Int), false, ([] : List Rat)) else if (mrow m 0).length = 64 then (2, false, []) else
          match reduceQ (wideQ (unq m) (b.map RR.q)) with
          | none => (2, false, [])
          | some z => if (mrow m 0).length ∈ z.2 then (0, false, []) else (0, true, solV z.1 z.2 (mrow m 0).length) := by
        unfold solR; rw [if_neg (by simp [h0]), if_neg (by simp [h1])] <;> rfl
      rw [ea] at a3 a5
      generalize (mrow m 0).length = w at *
      generalize hX : unq m = X at *
      subst a1
      rw [emb_length] at *
      generalize hn : X.length = n at *
      have hG : matGood n w X := ⟨a2, a3, hn⟩
      refine acall_S Tryz.func42 rfl rfl 103 rfl (Nat.le_of_ble_eq_true rfl) ?_
      (repeat refine AW.seq_k fun K hK => ?_)
      refine AW.rg ?_
      simp [argsL]
      try (refine hK _ rfl ?_; clear hK; clear K)
      (repeat refine AW.seq_k fun K hK => ?_)
      refine AW.rg ?_
      simp
      try (refine hK _ rfl ?_; clear hK; clear K)
      refine CallK.val hck ?_
      simp
      refine hK _ rfl ?_
      clear hK
      clear K
      (repeat refine AW.seq_k fun K hK => ?_)
      refine AW.rg ?_
      simp
      try (refine hK _ rfl ?_; clear hK; clear K)
      refine AW.no ?_ rfl
      refine AW.skip ?_
      try simp
      refine hK _ rfl ?_
      clear hK
      clear K
      (repeat refine AW.seq_k fun K hK => ?_)
      refine AW.rg ?_
      simp [emb_length, hn, h1]
      try (refine hK _ rfl ?_; clear hK; clear K)
      refine AW.no ?_ rfl
      refine AW.skip ?_
      try simp
      refine hK _ rfl ?_
      clear hK
      clear K
      (repeat refine AW.seq_k fun K hK => ?_)
      refine AW.rg ?_
      simp
      try (refine hK _ rfl ?_; clear hK; clear K)
      refine CallK.news hcl ?_
      rintro _ g ⟨B, bs0, rfl, g1, g2⟩ _
      rw [emp_back]
      simp
      refine hK _ rfl ?_
      clear hK
      clear K
      refine AW.seq_ex (ι := SolS) (fun s => [(0, matAV (emb X)), (8, .osl B 1 0 n)]) (fun s => s.M) (fun s => InvSo B X b n s) ?_ ?_
      · (repeat refine AW.seq_k fun K hK => ?_)
        refine AW.rg ?_
        simp [h1]
        try (refine hK _ rfl ?_; clear hK; clear K)
        refine AW.block (AW.loopS (ι := Nat × SolS) (fun z => [(0, matAV (emb X)), (1, rowAV b), (8, .osl B 1 0 n), (29, rowAV b), (30, .int .i64 (n : Nat)), (31, .int .i64 (z.1 : Nat))]) (fun z => z.2.M) (fun z => z.1 ≤ n ∧ InvSo B X b z.1 z.2) (fun z => n - z.1) (0, ⟨g, bs0⟩) ⟨by simp, ⟨g1, g2⟩, by simp⟩ rfl (by simp) ?_)
        rintro ⟨i, M, bs⟩ ⟨k1, k2, k3⟩
        simp only at k1 k2 k3
        simp only
        (repeat refine AW.seq_k fun K hK => ?_)
        refine AW.rg ?_
        simp
        try (refine hK _ rfl ?_; clear hK; clear K)
        (repeat refine AW.seq ?_)
        refine AW.cs (fun hi => ?_) (fun hi => ?_) rfl <;> (try simp at hi)
        · refine AW.skip ?_
          try simp
          have w1 : IntKind.i64.wrap ((i + 1 : Nat) : Int) = ((i + 1 : Nat) : Int) := wi (by omega)
          have hib : i < b.length := by omega
          have hmb : rr b i ∈ b := by rw [rr_eq hib]; exact List.getElem_mem hib
          have hvl := rvalid_call (rr b i) (hb _ hmb)
          refine AW.seq_ex (ι := Mem × SolS) (fun _ => [(0, matAV (emb X)), (1, rowAV b), (8, .osl B 1 0 n), (29, rowAV b), (30, .int .i64 (n : Nat)), (31, .int .i64 (i : Nat))]) (fun z => z.1) (fun z => InvSo B X b (i + 1) z.2 ∧ Recast z.1 z.2.M) ?_ ?_
          · (repeat refine AW.seq ?_)
            refine AW.block ?_
            (repeat refine AW.seq_k fun K hK => ?_)
            refine AW.rg ?_
            simp [hib]
            try (refine hK _ rfl ?_; clear hK; clear K)
            refine Fresh.intro fun b10 hb10 => ?_
            refine hK _ rfl ?_
            clear hK
            clear K
            refine AW.turn [(0, matAV (emb X)), (1, rowAV b), (8, .osl B 1 0 n), (9, .int .i64 (i : Nat)), (10, .rptr [.bool (rr b i).n1, lim (rr b i).l1, .bool (rr b i).n2, lim (rr b i).l2]), (29, rowAV b), (30, .int .i64 (n : Nat)), (31, .int .i64 (i : Nat))] M (Recast.drop hb10 k2.ones) ?_ ?_
            · simp
              exact view_temp hb10
            (repeat refine AW.seq_k fun K hK => ?_)
            refine AW.rg ?_
            simp
            try (refine hK _ rfl ?_; clear hK; clear K)
            refine CallK.val hvl ?_
            simp
            refine hK _ rfl ?_
            clear hK
            clear K
            cases hv : (rr b i).ok with
            | false =>
              refine AW.yes ?_ rfl
              (repeat refine AW.seq_k fun K hK => ?_)
              refine AW.rg ?_
              simp
              try (refine hK _ rfl ?_; clear hK; clear K)
              have hno : ¬ okV b := fun h => by have := h i hib; rw [hv] at this; cases this
              rw [hR, if_pos hno]
              exact AW.ret (ret_views [rowAV [], .bool false, .int .i64 1] rfl ⟨.nilsl 4, .same _, .same _, trivial⟩ ⟨rfl, rfl⟩)
            | true =>
              refine AW.no ?_ rfl
              refine AW.skip ?_
              try simp
              refine hK _ rfl ?_
              clear hK
              clear K
              have hsh : shortR (rr b i) := by rw [(ok_good (hb _ hmb) hv).2]; exact short_good (ok_good (hb _ hmb) hv).1
              have hown := own_call (rr b i) hsh.1 hsh.2
              have hWl := wideP_length X (b.map RR.q) i
              have hiE : i < (emb (wideP X (b.map RR.q) i)).length := by rw [emb_length, hWl]; omega
              have hrow : mrow (wideP X (b.map RR.q) i) i = mrow X i := by rw [wideP_row X _ i (by omega) i (by omega), if_neg (by omega)]
              have hgi := k2.1.get hiE
              have hri := k2.1.row i hiE
              have hxl : (mrow X i).length = w := (hG.row hi).2
              have hlE : (mrow (emb (wideP X (b.map RR.q) i)) i).length = w := by rw [emb_row, hrow, List.length_map, hxl]
              rw [hlE] at hgi
              rw [emb_row, hrow] at hri
              have hni := k2.1.ne hiE
              have hbi : i < bs.length := by rw [k2.1.len]; exact hiE
              have hxR : ((mrow X i).map ofQ).length = w := by rw [List.length_map, hxl]
              have hq : rr b i = ofQ (qat (b.map RR.q) i) := by rw [rr_q hib]; exact (ok_good (hb _ hmb) hv).2
              have hhl : (hdrs bs (emb (wideP X (b.map RR.q) i))).length = n := by rw [hdrs_length k2.1.len, emb_length, hWl, hn]
              have hgrow : ∀ b', (M.del (nb bs i)) b' = none → RefM (((M.del (nb bs i)).set b' ⟨36, 4, rrs ((mrow X i ++ [qat (b.map RR.q) i]).map ofQ)⟩).set B ⟨42, 1, (hdrs bs (emb (wideP X (b.map RR.q) i))).set i (.osl b' 4 0 (w + 1))⟩) B (bs.set i b') (wideP X (b.map RR.q) (i + 1)) := fun b' h => by
                have := k2.grow (i := i) (by rw [hWl]; omega) h (mrow X i ++ [qat (b.map RR.q) i])
                rw [List.length_append, hxl] at this
                exact this
              have htop := k2.1.top
              generalize hdrs bs (emb (wideP X (b.map RR.q) i)) = H at *
              (repeat refine AW.seq_k fun K hK => ?_)
              refine AW.rdT [] [10] [] [B] [0,1,2,3,4,5,6,7,8,9,10,11] mix (by simp [hi, htop, hgi, hri, hlE]) (by simp [hi, htop, hgi, hri, hlE]) (by simp [hi, htop, hgi, hri, hlE]) (by simp [hi, htop, hgi, hri, hlE]) (by simp [hi, htop, hgi, hri, hlE]) ?_
              simp [hi, htop, hgi, hri, hlE]
              try (refine hK _ rfl ?_; clear hK; clear K)
              refine CallK.val hown ?_
              simp [hi, htop, hgi, hri, hlE, hni, hhl]
              refine Fresh.introD fun b1 hb1 hb1B => ?_
              have nb1 : nb bs i ≠ b1 := by rintro rfl; rw [hri] at hb1; cases hb1
              rw [if_neg nb1]
              refine ⟨_, rfl, by simp [hxR], by simp [hxR]; omega, by simp [hxR]; unfold maxLen; omega, Fresh.introD fun b' hb' hb'B => ?_⟩
              have nB : B ≠ b' := Ne.symm hb'B
              rw [if_neg nB, if_neg (Ne.symm hni), if_neg (Ne.symm hb1B)]
              have hb2 : (M.del (nb bs i)) b' = none := by
                have hb' : (if b' = nb bs i then none else (M.set b1 ⟨36, 4, [(rr b i).av]⟩) b') = none := hb'
                show (if b' = nb bs i then none else M b') = none
                by_cases e : b' = nb bs i
                · rw [if_pos e]
                · rw [if_neg e] at hb' ⊢
                  simp only [set_at] at hb'
                  by_cases e2 : b' = b1
                  · rw [if_pos e2] at hb'; cases hb'
                  · rwa [if_neg e2] at hb'
              have hgr := hgrow b' hb2
              rw [List.map_append, List.map_singleton, rrs_app, ← hq] at hgr
              refine ⟨_, rfl, rfl, ?_⟩
              rw [rrs_length, hxR]
              simp only [hgi, optK_some]
              refine ⟨⟨_, bs.set i b'⟩, ⟨hgr, fun k hk => ?_⟩, recast_tmp hb1 hgr.ones⟩
              rcases Nat.lt_succ_iff_lt_or_eq.1 hk with h | rfl
              · exact k3 k h
              · exact hv
          rintro ⟨M', M, bs⟩ ⟨hs, hrc⟩
          refine AW.turn [(0, matAV (emb X)), (1, rowAV b), (8, .osl B 1 0 n), (29, rowAV b), (30, .int .i64 (n : Nat)), (31, .int .i64 (i : Nat))] M hrc (by simp) ?_
          (repeat refine AW.seq_k fun K hK => ?_)
          refine AW.rg ?_
          simp [-Int.natCast_add, w1]
          try (refine hK _ rfl ?_; clear hK; clear K)
          exact ⟨i + 1, ⟨M, bs⟩, ⟨hi, hs⟩, by omega, by simp⟩
        · refine AW.exit ?_
          try simp
          have : i = n := by omega
          subst this
          exact ⟨⟨M, bs⟩, ⟨k2, k3⟩, by simp⟩
      rintro ⟨M, bs⟩ ⟨k2, k3⟩
      simp only at k2 k3
      simp only
      have hok : okV b := fun i hi => k3 i (by omega)
      obtain ⟨hbe, hbg⟩ := okV_emb hb hok
      rw [if_neg (by simp [hok])] at hR
      have hbl : (b.map RR.q).length = n := by rw [List.length_map, h1]
      generalize b.map RR.q = bq at *
      have hW := wideQ_good hG hbg hbl
      have hwq : wideP X bq n = wideQ X bq := by unfold wideQ; rw [hn]
      rw [hwq] at k2
      generalize wideQ X bq = Wq at *
      (repeat refine AW.seq_k fun K hK => ?_)
      refine AW.rg ?_
      simp
      try (refine hK _ rfl ?_; clear hK; clear K)
      refine CallK.val hwid ?_
      simp
      refine hK _ rfl ?_
      clear hK
      clear K
      by_cases hw : w = 64
      · rw [if_pos hw] at hR
        rw [hR]
        (repeat refine AW.seq_k fun K hK => ?_)
        refine AW.rg ?_
        simp [hw]
        try (refine hK _ rfl ?_; clear hK; clear K)
        refine AW.yes ?_ rfl
        (repeat refine AW.seq_k fun K hK => ?_)
        refine AW.rg ?_
        simp
        try (refine hK _ rfl ?_; clear hK; clear K)
        exact AW.ret (ret_views [rowAV [], .bool false, .int .i64 2] rfl ⟨.nilsl 4, .same _, .same _, trivial⟩ ⟨rfl, rfl⟩)
      · rw [if_neg hw] at hR
        (repeat refine AW.seq_k fun K hK => ?_)
        refine AW.rg ?_
        simp [hw]
        try (refine hK _ rfl ?_; clear hK; clear K)
        refine AW.no ?_ rfl
        refine AW.skip ?_
        try simp
        refine hK _ rfl ?_
        clear hK
        clear K
        (repeat refine AW.seq_k fun K hK => ?_)
        refine AW.rg ?_
        simp
        try (refine hK _ rfl ?_; clear hK; clear K)
        refine Fresh.intro fun c hc => ?_
        refine hK _ rfl ?_
        clear hK
        clear K
        have hfr := k2.fresh hc
        simp only [List.mem_cons, not_or] at hfr
        have hRd : RedM (M.set c ⟨61, 1, [.agg [.int .i64 0]]⟩) c B bs (emb Wq) (.agg [.int .i64 0]) .nil [] [] :=
          ⟨k2.1.other hfr.1 hfr.2 _, by simp, .inl ⟨rfl, rfl, rfl⟩, by simpa using (k2.2.sub fun a ha => List.mem_cons_of_mem _ ha).set (by simp) _, hfr.1, hfr.2, by simp, by simp, by simp⟩
        have hWl : Wq.length = n := hW.2.2
        have hw' : 0 < n → (mrow Wq 0).length = w + 1 := fun h => (hW.row h).2
        have hdm : dimM Wq (mrow Wq 0).length := fun k hk => by
          rw [hWl] at hk
          rw [(hW.row hk).2, hw' (by omega)]
        have hw40 : (mrow Wq 0).length < 2^40 := by
          rcases Nat.eq_zero_or_pos n with h | h
          · rw [List.eq_nil_of_length_eq_zero (hWl.trans h)]; simp [mrow]
          · rw [hw' h]; omega
        have hrd := nreduce_call _ c B bs Wq _ _ hRd rfl hW.1 hdm rfl (by omega) hw40
        rw [hWl] at hrd
        (repeat refine AW.seq_k fun K hK => ?_)
        refine AW.rg ?_
        simp
        try (refine hK _ rfl ?_; clear hK; clear K)
        refine CallK.whole (by simp) hrd ?_
        rintro v M' ⟨x', q1, q2, q3⟩
        simp
        refine hK _ rfl ?_
        clear hK
        clear K
        cases hq : reduceQ Wq with
        | none =>
          rw [hq] at q3 hR
          have hx' : x'.cells = [.int .i64 2] := q3
          rw [hR]
          (repeat refine AW.seq_k fun K hK => ?_)
          refine AW.rg ?_
          simp [q1, hx']
          try (refine hK _ rfl ?_; clear hK; clear K)
          refine AW.yes ?_ rfl
          (repeat refine AW.seq_k fun K hK => ?_)
          refine AW.rdA c [0, 1, 2, 3, 4, 5, 6] mix (by simp [q1, hx']) ?_
          simp [q1, hx']
          try (refine hK _ rfl ?_; clear hK; clear K)
          exact AW.ret (ret_views [rowAV [], .bool false, .int .i64 2] rfl ⟨.nilsl 4, .same _, .same _, trivial⟩ ⟨rfl, rfl⟩)
        | some z =>
          obtain ⟨Y, ps⟩ := z
          rw [hq] at q3 hR
          obtain ⟨q3, bs', pb, q4⟩ := q3
          have hx' : x'.cells = [.int .i64 0] := q3
          simp only at hR
          have hcol := reduce_keep (n := n) (w := (mrow Wq 0).length) ⟨hW.1, hdm, hWl⟩ hq
          have hsrt := cols_sorted (n := n) (w := (mrow Wq 0).length) (z0 := (Wq, [])) ⟨⟨hW.1, hdm, hWl⟩, by simp, by simp, by simp⟩ (by simp) hq
          obtain ⟨⟨y1, y2, y3⟩, y4, y5, y6⟩ := hcol
          simp only at y1 y2 y3 y4 y5 y6 hsrt
          have hle : ∀ p ∈ ps, p ≤ w := fun p hp => by
            have := y6 p hp
            rcases Nat.eq_zero_or_pos n with h | h
            · have : ps.length = 0 := by omega
              rw [List.eq_nil_of_length_eq_zero this] at hp; cases hp
            · rw [hw' h] at this; omega
          (repeat refine AW.seq_k fun K hK => ?_)
          refine AW.rg ?_
          simp [q1, hx']
          try (refine hK _ rfl ?_; clear hK; clear K)
          refine AW.no ?_ rfl
          refine AW.skip ?_
          try simp
          refine hK _ rfl ?_
          clear hK
          clear K
          have hv := q4.mat.view
          rw [emb_length, y3] at hv
          refine AW.toEmp [(8, matAV (emb Y)), (11, .int .i64 w), (13, .sl 1 (ints ps))] (by simp; exact ⟨hv, q4.piv.view⟩) ?_
          by_cases hwp : w ∈ ps
          · rw [if_pos hwp] at hR
            rw [hR]
            have hne : ps ≠ [] := by rintro rfl; cases hwp
            have hl0 : 0 < ps.length := by cases ps with | nil => exact absurd rfl hne | cons a l => simp
            have hlast := (last_mem hsrt hle hne).2 hwp
            have w2 : IntKind.i64.wrap ((ps.length : Int) - 1) = ((ps.length - 1 : Nat) : Int) := by rw [show ((ps.length : Int) - 1) = ((ps.length - 1 : Nat) : Int) by omega]; exact wi (by omega)
            have hl1 : ps.length - 1 < ps.length := by omega
            have hg : ps.getD (ps.length - 1) 0 = ps[ps.length - 1] := by rw [List.getD_eq_getElem?_getD, List.getElem?_eq_getElem hl1]; rfl
            rw [hg] at hlast
            (repeat refine AW.seq_k fun K hK => ?_)
            refine AW.rg ?_
            simp [hl0, w2, hl1]
            try (refine hK _ rfl ?_; clear hK; clear K)
            refine AW.yes ?_ (by simp [hlast])
            (repeat refine AW.seq_k fun K hK => ?_)
            refine AW.rg ?_
            simp
            try (refine hK _ rfl ?_; clear hK; clear K)
            exact AW.ret (ret_views [rowAV [], .bool false, .int .i64 0] rfl ⟨.nilsl 4, .same _, .same _, trivial⟩ ⟨rfl, rfl⟩)
          · rw [if_neg hwp] at hR
            rw [hR]
            have hlt : ∀ p ∈ ps, p < w := fun p hp => by
              have := hle p hp
              rcases Nat.lt_or_eq_of_le this with h | h
              · exact h
              · subst h; exact absurd hp hwp
            refine AW.seq_ex (ι := Unit) (fun _ => [(8, matAV (emb Y)), (11, .int .i64 w), (13, .sl 1 (ints ps))]) (fun _ => Mem.emp) (fun _ => True) ?_ ?_
            · by_cases hne : ps = []
              · subst hne
                (repeat refine AW.seq_k fun K hK => ?_)
                refine AW.rg ?_
                simp
                try (refine hK _ rfl ?_; clear hK; clear K)
                refine AW.no ?_ rfl
                refine AW.skip ?_
                try simp
              · have hl0 : 0 < ps.length := by cases ps with | nil => exact absurd rfl hne | cons a l => simp
                have w2 : IntKind.i64.wrap ((ps.length : Int) - 1) = ((ps.length - 1 : Nat) : Int) := by rw [show ((ps.length : Int) - 1) = ((ps.length - 1 : Nat) : Int) by omega]; exact wi (by omega)
                have hl1 : ps.length - 1 < ps.length := by omega
                have hlast := mt (last_mem hsrt hle hne).1 hwp
                have hg : ps.getD (ps.length - 1) 0 = ps[ps.length - 1] := by rw [List.getD_eq_getElem?_getD, List.getElem?_eq_getElem hl1]; rfl
                rw [hg] at hlast
                (repeat refine AW.seq_k fun K hK => ?_)
                refine AW.rg ?_
                simp [hl0, w2, hl1]
                try (refine hK _ rfl ?_; clear hK; clear K)
                refine AW.no ?_ (by simp [hlast])
                refine AW.skip ?_
                try simp
            rintro _ -
            have hvec := vector_call w (by omega)
            (repeat refine AW.seq_k fun K hK => ?_)
            refine AW.rg ?_
            simp
            try (refine hK _ rfl ?_; clear hK; clear K)
            refine CallK.make hvec ?_
            rintro bv _ _ ⟨rfl, rfl⟩ hbv _
            simp
            refine hK _ rfl ?_
            clear hK
            clear K
            refine AW.seq_ex (ι := Unit) (fun _ => [(14, .osl bv 4 0 w)]) (fun _ => Mem.emp.set bv ⟨36, 4, rrs ((solV Y ps w).map ofQ)⟩) (fun _ => True) ?_ ?_
            · (repeat refine AW.seq_k fun K hK => ?_)
              refine AW.rg ?_
              simp
              try (refine hK _ rfl ?_; clear hK; clear K)
              refine AW.block (AW.loopS (ι := Nat) (fun k => [(8, matAV (emb Y)), (11, .int .i64 w), (14, .osl bv 4 0 w), (84, .sl 1 (ints ps)), (85, .int .i64 ps.length), (86, .int .i64 (k : Nat))]) (fun k => Mem.emp.set bv ⟨36, 4, rrs ((solF Y ps w k (List.replicate w 0)).map ofQ)⟩) (fun k => k ≤ ps.length) (fun k => ps.length - k) 0 (by simp) ?_ (by simp) ?_)
              · show Mem.emp.set bv _ = Mem.emp.set bv ⟨36, 4, rrs ((List.replicate w (0 : Rat)).map ofQ)⟩
                rw [List.map_replicate]
              rintro k g1
              (repeat refine AW.seq_k fun K hK => ?_)
              refine AW.rg ?_
              simp
              try (refine hK _ rfl ?_; clear hK; clear K)
              (repeat refine AW.seq ?_)
              refine AW.cs (fun hk => ?_) (fun hk => ?_) rfl <;> (try simp at hk)
              · refine AW.skip ?_
                try simp
                have w3 : IntKind.i64.wrap ((k + 1 : Nat) : Int) = ((k + 1 : Nat) : Int) := wi (by omega)
                have hkY : k < Y.length := by omega
                have hkE : k < (emb Y).length := by rw [emb_length]; exact hkY
                have hn0 : 0 < n := by omega
                have hlk : (mrow (emb Y) k).length = w + 1 := by rw [emb_row, List.length_map, y2 k hkY, hw' hn0]
                have hjl : w < (mrow Y k).length := by rw [y2 k hkY, hw' hn0]; omega
                have hel : rr (mrow (emb Y) k) w = ofQ (qel Y k w) := by rw [emb_row, rr_map hjl]; rfl
                have hpk : ps.getD k 0 = ps[k] := by rw [List.getD_eq_getElem?_getD, List.getElem?_eq_getElem hk]; rfl
                have hpw : ps[k] < w := hlt _ (List.getElem_mem hk)
                have hlf : (solF Y ps w k (List.replicate w 0)).length = w := by rw [solF_length]; simp
                have hkn : solF Y ps w (k + 1) (List.replicate w 0) = (solF Y ps w k (List.replicate w 0)).set ps[k] (qel Y k w) := by rw [← hpk]; rfl
                (repeat refine AW.seq ?_)
                refine AW.block ?_
                (repeat refine AW.seq_k fun K hK => ?_)
                refine AW.rg ?_
                simp [hk]
                try (refine hK _ rfl ?_; clear hK; clear K)
                (repeat refine AW.seq_k fun K hK => ?_)
                refine AW.rg ?_
                simp [-Int.natCast_add, hkE, hlk, hel, hpw, hlf]
                try (refine hK _ rfl ?_; clear hK; clear K)
                (repeat refine AW.seq_k fun K hK => ?_)
                refine AW.rg ?_
                simp [-Int.natCast_add, w3]
                try (refine hK _ rfl ?_; clear hK; clear K)
                refine ⟨k + 1, by omega, by omega, ?_, rfl⟩
                rw [hkn, List.map_set, ← rrs_set]
                rfl
              · refine AW.exit ?_
                try simp
                have : k = ps.length := by omega
                subst this
                rfl
            rintro _ -
            (repeat refine AW.seq_k fun K hK => ?_)
            refine AW.rg ?_
            simp
            try (refine hK _ rfl ?_; clear hK; clear K)
            exact AW.ret (ret_views [rowAV ((solV Y ps w).map ofQ), .bool true, .int .i64 0] rfl ⟨view_row (Mem.set_same _ _ _) rfl (by rw [List.length_map, solV_length]), .same _, .same _, trivial⟩ ⟨rfl, rfl⟩)
    · have hR : solR m b = (1, false, []) := by unfold solR; rw [if_neg (by simp [h0]), if_pos h1]
      rw [hR]
      refine acall_S Tryz.func42 rfl rfl 103 rfl (Nat.le_of_ble_eq_true rfl) ?_
      (repeat refine AW.seq_k fun K hK => ?_)
      refine AW.rg ?_
      simp [argsL]
      try (refine hK _ rfl ?_; clear hK; clear K)
      (repeat refine AW.seq_k fun K hK => ?_)
      refine AW.rg ?_
      simp
      try (refine hK _ rfl ?_; clear hK; clear K)
      refine CallK.val hck ?_
      simp
      refine hK _ rfl ?_
      clear hK
      clear K
      (repeat refine AW.seq_k fun K hK => ?_)
      refine AW.rg ?_
      simp
      try (refine hK _ rfl ?_; clear hK; clear K)
      refine AW.no ?_ rfl
      refine AW.skip ?_
      try simp
      refine hK _ rfl ?_
      clear hK
      clear K
      (repeat refine AW.seq_k fun K hK => ?_)
      refine AW.rg ?_
      simp
      try (refine hK _ rfl ?_; clear hK; clear K)
      refine AW.yes ?_ (by simp [h1])
      (repeat refine AW.seq_k fun K hK => ?_)
      refine AW.rg ?_
      simp
      try (refine hK _ rfl ?_; clear hK; clear K)
      exact AW.ret (ret_views [rowAV [], .bool false, .int .i64 1] rfl ⟨.nilsl 4, .same _, .same _, trivial⟩ ⟨rfl, rfl⟩)
  · have hR : solR m b = (chk m, false, []) := by unfold solR; rw [if_pos h0]
    rw [hR]
    generalize chk m = e at *
    refine acall_S Tryz.func42 rfl rfl 103 rfl (Nat.le_of_ble_eq_true rfl) ?_
    (repeat refine AW.seq_k fun K hK => ?_)
    refine AW.rg ?_
    simp [argsL]
    try (refine hK _ rfl ?_; clear hK; clear K)
    (repeat refine AW.seq_k fun K hK => ?_)
    refine AW.rg ?_
    simp
    try (refine hK _ rfl ?_; clear hK; clear K)
    refine CallK.val hck ?_
    simp
    refine hK _ rfl ?_
    clear hK
    clear K
    (repeat refine AW.seq_k fun K hK => ?_)
    refine AW.rg ?_
    simp [h0]
    try (refine hK _ rfl ?_; clear hK; clear K)
    refine AW.yes ?_ rfl
    (repeat refine AW.seq_k fun K hK => ?_)
    refine AW.rg ?_
    simp
    try (refine hK _ rfl ?_; clear hK; clear K)
    exact AW.ret (ret_views [rowAV [], .bool false, .int .i64 e] rfl ⟨.nilsl 4, .same _, .same _, trivial⟩ ⟨rfl, rfl⟩)
end Go.Av
end
section
namespace Go.Av
open Go.Proofs
theorem redR_emb {W : List (List Rat)} (h : chk (emb W) = 0) : redR (emb W) = match reduceQ W with
    | none => (2, [], [])
    | some z => (0, z.1, z.2) := by
  unfold redR; rw [if_neg (by simp [h]), unq_emb] <;> rfl
set_option maxHeartbeats 1000000
end Go.Av
end
section
namespace Go.Av
open Go.Proofs
theorem find_congr' {α : Type} {p q : α → Bool} : ∀ {l : List α}, (∀ x ∈ l, p x = q x) → l.find? p = l.find? q
  | [], _ => rfl
  | a :: l, h => by
    rw [List.find?_cons, List.find?_cons, h a (by simp), find_congr' fun x hx => h x (List.mem_cons_of_mem _ hx)]
theorem pivQ_congr {M N : List (List Rat)} {j r : Nat} (hl : M.length = N.length) (h : ∀ i, i < M.length → qel M i j = qel N i j) : pivQ M j r = pivQ N j r := by
  unfold pivQ
  rw [← hl]
  exact find_congr' fun i hi => by rw [h i (List.mem_range.1 hi)]
theorem trunc_step {n w j : Nat} {Y Z : List (List Rat)} {ps : List Nat} (hY : matGood n w Y) (hZ : matGood n (w + 1) Z) (hj : j < w) (hag : ∀ a b, a < n → b < w → qel Z a b = qel Y a b) {y z : List (List Rat) × List Nat} (h1 : colStep j (Y, ps) = some y) (h2 : colStep j (Z, ps) = some z) :
    z.2 = y.2 ∧ ∀ a b, a < n → b < w → qel z.1 a b = qel y.1 a b := by
  have hp : pivQ Z j ps.length = pivQ Y j ps.length := pivQ_congr (by rw [hY.2.2, hZ.2.2]) fun i hi => hag i j (by rw [hZ.2.2] at hi; exact hi) hj
  unfold colStep at h1 h2
  simp only at h1 h2
  rw [hp] at h2
  cases hq : pivQ Y j ps.length with
  | none =>
    rw [hq] at h1 h2
    cases h1; cases h2
    exact ⟨rfl, hag⟩
  | some i0 =>
    rw [hq] at h1 h2
    obtain ⟨p1, p2, p3⟩ := pivQ_some hq
    rw [hY.2.2] at p1
    have hr : ps.length < n := by omega
    simp only at h1 h2
    cases hc : clearQ (swapL Y i0 ps.length) j ps.length with
    | none => rw [hc] at h1; cases h1
    | some Y1 =>
      cases hd : clearQ (swapL Z i0 ps.length) j ps.length with
      | none => rw [hd] at h2; cases h2
      | some Z1 =>
        rw [hc] at h1
        rw [hd] at h2
        cases h1; cases h2
        refine ⟨rfl, fun a b ha hb => ?_⟩
        have sy : ∀ a b, qel (swapL Y i0 ps.length) a b = if a = ps.length then qel Y i0 b else if a = i0 then qel Y ps.length b else qel Y a b := fun a b => qel_swap (by rw [hY.2.2]; omega) (by rw [hY.2.2]; omega) a b
        have sz : ∀ a b, qel (swapL Z i0 ps.length) a b = if a = ps.length then qel Z i0 b else if a = i0 then qel Z ps.length b else qel Z a b := fun a b => qel_swap (by rw [hZ.2.2]; omega) (by rw [hZ.2.2]; omega) a b
        have hs : ∀ a b, a < n → b < w → qel (swapL Z i0 ps.length) a b = qel (swapL Y i0 ps.length) a b := fun a b ha hb => by
          rw [sy, sz, hag _ b p1 hb, hag _ b hr hb, hag a b ha hb]
        have hdy : qel (swapL Y i0 ps.length) ps.length j ≠ 0 := by rw [sy, if_pos rfl]; exact p3
        have cy := (clear_spec (hY.swap p1 hr) hr hdy hj hc).2
        have cz := (clear_spec (hZ.swap p1 hr) hr (by rw [hs _ j hr hj]; exact hdy) (by omega) hd).2
        show qel Z1 a b = qel Y1 a b
        rw [cy a b ha hb, cz a b ha (by omega), hs _ b hr hb, hs _ j hr hj, hs a b ha hb, hs a j ha hj]
theorem trunc {n w : Nat} {X W : List (List Rat)} (hX : matGood n w X) (hW : matGood n (w + 1) W) (hag : ∀ a b, a < n → b < w → qel W a b = qel X a b) : ∀ {j : Nat} {y z : List (List Rat) × List Nat}, j ≤ w → iterO colStep j (X, []) = some y → iterO colStep j (W, []) = some z →
    z.2 = y.2 ∧ ∀ a b, a < n → b < w → qel z.1 a b = qel y.1 a b
  | 0, y, z, _, h1, h2 => by cases h1; cases h2; exact ⟨rfl, hag⟩
  | j + 1, y, z, hj, h1, h2 => by
    rw [iterO_succ] at h1 h2
    cases hy : iterO colStep j (X, []) with
    | none => rw [hy] at h1; cases h1
    | some y0 =>
      cases hz : iterO colStep j (W, []) with
      | none => rw [hz] at h2; cases h2
      | some z0 =>
        rw [hy] at h1
        rw [hz] at h2
        obtain ⟨k1, k2⟩ := trunc hX hW hag (by omega) hy hz
        have g1 := (cols_rref hX (by omega) hy).1.good
        have g2 := (cols_rref hW (by omega) hz).1.good
        obtain ⟨Y0, p0⟩ := y0
        obtain ⟨Z0, q0⟩ := z0
        simp only at k1 k2 g1 g2
        subst k1
        exact trunc_step g1 g2 (by omega) k2 h1 h2
theorem qel_wide {X : List (List Rat)} {b : List Rat} {n w i : Nat} (hX : matGood n w X) (hi : i < n) (l : Nat) : qel (wideQ X b) i l = if l < w then qel X i l else if l = w then qat b i else 0 := by
  unfold qel wideQ
  rw [wideP_row X b i (by rw [hX.2.2]; exact hi) _ (Nat.le_refl _), if_pos (by rw [hX.2.2]; exact hi), qat_snoc, (hX.row hi).2]
/-- The reduction with the right side. -/
theorem wide_red {n w : Nat} {X : List (List Rat)} {b : List Rat} (hX : matGood n w X) (hW : matGood n (w + 1) (wideQ X b)) (hn : 0 < n) {y z : List (List Rat) × List Nat} (h1 : reduceQ X = some y) (h2 : reduceQ (wideQ X b) = some z) :
    RRef n (w + 1) (w + 1) z.1 z.2 ∧ (∀ v, NullV n (w + 1) z.1 v ↔ NullV n (w + 1) (wideQ X b) v) ∧ (z.2 = y.2 ∨ z.2 = y.2 ++ [w]) ∧ (w ∈ z.2 ↔ z.2.length ≠ y.2.length) := by
  have hw1 := (hX.row hn).2
  have hw2 := (hW.row hn).2
  obtain ⟨r1, r2⟩ := reduce_rref hW hw2 h2
  have ry := (reduce_rref hX hw1 h1).1
  unfold reduceQ at h1 h2
  rw [hw1] at h1
  rw [hw2, iterO_succ] at h2
  cases hz : iterO colStep w (wideQ X b, []) with
  | none => rw [hz] at h2; cases h2
  | some z0 =>
    rw [hz] at h2
    obtain ⟨k1, k2⟩ := trunc hX hW (fun a b ha hb => by rw [qel_wide hX ha, if_pos hb]) (Nat.le_refl _) h1 hz
    replace h2 : colStep w z0 = some z := h2
    have hor : z.2 = y.2 ∨ z.2 = y.2 ++ [w] := by
      unfold colStep at h2
      cases hp : pivQ z0.1 w z0.2.length with
      | none => rw [hp] at h2; cases h2; exact .inl k1
      | some i0 =>
        rw [hp] at h2
        simp only at h2
        cases hc : clearQ (swapL z0.1 i0 z0.2.length) w z0.2.length with
        | none => rw [hc] at h2; cases h2
        | some Z1 => rw [hc] at h2; cases h2; exact .inr (by rw [← k1])
    refine ⟨r1, r2, hor, ?_⟩
    have hno : w ∉ y.2 := fun h => by have := ry.lt w h; omega
    rcases hor with e | e
    · rw [e]; exact ⟨fun h => absurd h hno, fun h => absurd rfl h⟩
    · rw [e]; simp
end Go.Av
end
section
namespace Go.Av
open Go.Proofs
theorem kerR_one {m : List (List RR)} : (kerR m).1 = (redR m).1 := by
  unfold kerR
  by_cases h : (redR m).1 = 0
  · rw [if_neg (by simp [h]), h]
  · rw [if_pos h]
theorem red_facts {X : List (List Rat)} {n w : Nat} (hX : matGood n w X) (hw : (mrow X 0).length = w) (hn : 0 < n) (hn' : n ≤ 64) (hw' : w ≤ 64) (h : (redR (emb X)).1 = 0) :
    ∃ Y ps, redR (emb X) = (0, Y, ps) ∧ reduceQ X = some (Y, ps) ∧ RRef n w w Y ps ∧ (∀ v, NullV n w Y v ↔ NullV n w X v) ∧ (mrow Y 0).length = w ∧ kerR (emb X) = (0, kerP Y ps w w) ∧ redR (emb Y) = (0, Y, ps) := by
  have hc := chk_good hX hw hn' hw'
  have hr := redR_emb hc
  cases hq : reduceQ X with
  | none => rw [hq] at hr; rw [hr] at h; exact absurd h (by simp)
  | some z =>
    rw [hq] at hr
    obtain ⟨r1, r2⟩ := reduce_rref hX hw hq
    have hy : (mrow z.1 0).length = w := (r1.good.row hn).2
    have hr' : redR (emb X) = (0, z.1, z.2) := hr
    refine ⟨z.1, z.2, hr', rfl, r1, r2, hy, ?_, ?_⟩
    · unfold kerR
      rw [hr', if_neg (by simp), emb_row, List.length_map, hw]
    · rw [redR_emb (chk_good r1.good hy hn' hw'), r1.reduce hy]
end Go.Av
end
section
namespace Go.Av
open Go.Proofs
def sqM (X : List (List Rat)) (n : Nat) : List (List Rat) := (X.take n).map fun r => r.take n
open Classical in
/-- The square part, if there is one. -/
noncomputable def squareR (m : List (List RR)) : List (List Rat) × Bool := if chk m ≠ 0 ∨ isLarge m = true then ([], false) else (sqM (unq m) (min m.length (mrow m 0).length), true)
theorem sqM_good {X : List (List Rat)} {n w k : Nat} (h : matGood n w X) (h1 : k ≤ n) (h2 : k ≤ w) : matGood k k (sqM X k) := by
  have hl : (sqM X k).length = k := by simp [sqM, h.2.2]; omega
  refine ⟨fun r hr q hq => ?_, fun i hi => ?_, hl⟩
  · obtain ⟨r0, h0, rfl⟩ := List.mem_map.1 hr
    exact h.1 r0 (List.mem_of_mem_take h0) q (List.mem_of_mem_take hq)
  · rw [hl] at hi
    unfold sqM mrow
    rw [List.getD_eq_getElem?_getD, List.getElem?_map, List.getElem?_take, if_pos hi, List.getElem?_eq_getElem (by rw [h.2.2]; omega)]
    have := h.2.1 i (by rw [h.2.2]; omega)
    rw [mrow_eq (by rw [h.2.2]; omega)] at this
    simp [this]; omega
theorem squareR_good {m : List (List RR)} (hm : LbM m) : ∃ n, n ≤ 10 ∧ matGood n n (squareR m).1 := by
  unfold squareR
  by_cases h : chk m ≠ 0 ∨ isLarge m = true
  · rw [if_pos h]
    exact ⟨0, by omega, fun r hr => (by cases hr), fun i hi => (by cases hi), rfl⟩
  · rw [if_neg h]
    simp only [not_or, Decidable.not_not] at h
    obtain ⟨h0, h1⟩ := h
    obtain ⟨a1, a2, a3, a4, a5⟩ := chk_emb hm h0
    have e0 : (mrow (unq m) 0).length = (mrow m 0).length := by rw [unq_row, List.length_map]
    rw [e0] at a3
    refine ⟨min m.length (mrow m 0).length, ?_, sqM_good ⟨a2, a3, unq_length m⟩ (by omega) (by omega)⟩
    simp only [isLarge, h0, true_and, decide_eq_true_eq] at h1
    omega
theorem sqM_succ {X : List (List Rat)} {n i : Nat} (hi : i < n) (hn : n ≤ X.length) : (sqM X n).take (i + 1) = (sqM X n).take i ++ [(mrow X i).take n] := by
  rw [List.take_add_one]
  congr 1
  unfold sqM
  rw [List.getElem?_map, List.getElem?_take, if_pos hi, List.getElem?_eq_getElem (by omega), mrow_eq (by omega)]
  rfl
theorem slice_row {r : List RR} {k : Nat} (h : k ≤ r.length) (size bytes : Nat) (zero : AV) (fs : List (Nat × Nat × Option Bool)) : sliceAV Tryz.prog ⟨size, bytes, .slice 36, zero, fs⟩ (rowAV r) none (some (.int .i64 (k : Nat))) = some (rowAV (r.take k)) := by
  unfold rowAV
  rw [sliceAV_sl]
  simp [cutAV, intOf?, h, rrs, List.map_take]
structure SqL where
  M : Mem
  rv : AV
  rb : List Nat
set_option maxHeartbeats 1000000
theorem square_call (m : List (List RR)) (hm : LbM m) : ACall Tryz.prog 25 [matAV m] Mem.emp fun v mm => v = .tup [matAV (emb (squareR m).1), .bool (squareR m).2] ∧ mm = Mem.emp := by
  have hck := check2_call m hm
  have hla := large_call m hm
  by_cases h0 : chk m = 0
  · cases hL : isLarge m with
    | true =>
      have hR : squareR m = ([], false) := by unfold squareR; rw [if_pos (.inr hL)]
      rw [hR]
      rw [hL] at hla
      rw [h0] at hck
      refine acall_S Tryz.func25 rfl rfl 39 rfl (Nat.le_of_ble_eq_true rfl) ?_
      (repeat refine AW.seq_k fun K hK => ?_)
      refine AW.rg ?_
      simp [argsL]
      try (refine hK _ rfl ?_; clear hK; clear K)
      (repeat refine AW.seq_k fun K hK => ?_)
      refine AW.rg ?_
      simp
      try (refine hK _ rfl ?_; clear hK; clear K)
      refine CallK.val hck ?_
      simp
      refine CallK.val hla ?_
      simp
      refine hK _ rfl ?_
      clear hK
      clear K
      refine AW.yes ?_ rfl
      (repeat refine AW.seq_k fun K hK => ?_)
      refine AW.rg ?_
      simp
      try (refine hK _ rfl ?_; clear hK; clear K)
      exact AW.ret (ret_views [matAV [], .bool false] rfl ⟨.nilsl 1, .same _, trivial⟩ ⟨rfl, rfl⟩)
    | false =>
      have hR : squareR m = (sqM (unq m) (min m.length (mrow m 0).length), true) := by unfold squareR; rw [if_neg (by simp [h0, hL])]
      rw [hR]
      rw [hL] at hla
      rw [h0] at hck
      obtain ⟨a1, a2, a3, a4, a5⟩ := chk_emb hm h0
      have e0 : (mrow (unq m) 0).length = (mrow m 0).length := by rw [unq_row, List.length_map]
      rw [e0] at a3 a5
      have hXl := unq_length m
      rcases Nat.eq_zero_or_pos m.length with hz | hz
      · have : m = [] := List.eq_nil_of_length_eq_zero hz
        subst this
        refine acall_S Tryz.func25 rfl rfl 39 rfl (Nat.le_of_ble_eq_true rfl) ?_
        (repeat refine AW.seq_k fun K hK => ?_)
        refine AW.rg ?_
        simp [argsL]
        try (refine hK _ rfl ?_; clear hK; clear K)
        (repeat refine AW.seq_k fun K hK => ?_)
        refine AW.rg ?_
        simp
        try (refine hK _ rfl ?_; clear hK; clear K)
        refine CallK.val hck ?_
        simp
        refine CallK.val hla ?_
        simp
        refine hK _ rfl ?_
        clear hK
        clear K
        refine AW.no ?_ rfl
        refine AW.skip ?_
        try simp
        refine hK _ rfl ?_
        clear hK
        clear K
        (repeat refine AW.seq_k fun K hK => ?_)
        refine AW.rg ?_
        simp
        try (refine hK _ rfl ?_; clear hK; clear K)
        refine AW.yes ?_ rfl
        (repeat refine AW.seq_k fun K hK => ?_)
        refine AW.rg ?_
        simp
        try (refine hK _ rfl ?_; clear hK; clear K)
        exact AW.ret (ret_views [matAV [], .bool true] rfl ⟨.nilsl 1, .same _, trivial⟩ ⟨rfl, rfl⟩)
      · generalize hX : unq m = X at *
        generalize hw : (mrow m 0).length = w at *
        generalize hn : m.length = n at *
        subst a1
        have hEl : (emb X).length = n := by rw [emb_length]; exact hXl
        refine acall_S Tryz.func25 rfl rfl 39 rfl (Nat.le_of_ble_eq_true rfl) ?_
        (repeat refine AW.seq_k fun K hK => ?_)
        refine AW.rg ?_
        simp [argsL]
        try (refine hK _ rfl ?_; clear hK; clear K)
        (repeat refine AW.seq_k fun K hK => ?_)
        refine AW.rg ?_
        simp
        try (refine hK _ rfl ?_; clear hK; clear K)
        refine CallK.val hck ?_
        simp
        refine CallK.val hla ?_
        simp
        refine hK _ rfl ?_
        clear hK
        clear K
        refine AW.no ?_ rfl
        refine AW.skip ?_
        try simp
        refine hK _ rfl ?_
        clear hK
        clear K
        have hz' : ¬ (n = 0) := by omega
        (repeat refine AW.seq_k fun K hK => ?_)
        refine AW.rg ?_
        simp [hEl, hz']
        try (refine hK _ rfl ?_; clear hK; clear K)
        refine AW.no ?_ rfl
        refine AW.skip ?_
        try simp
        refine hK _ rfl ?_
        clear hK
        clear K
        (repeat refine AW.seq_k fun K hK => ?_)
        refine AW.rg ?_
        simp [hEl, hz, hw]
        try (refine hK _ rfl ?_; clear hK; clear K)
        have hmn : (if w < n then (w : Int) else (n : Int)) = ((min n w : Nat) : Int) := by
          split <;> omega
        rw [hmn]
        have hkn : min n w ≤ n := by omega
        have hkw : min n w ≤ w := by omega
        generalize min n w = k at *
        have hXm : matGood n w X := ⟨a2, a3, hXl⟩
        (repeat refine AW.seq_k fun K hK => ?_)
        refine AW.rg ?_
        simp
        try (refine hK _ rfl ?_; clear hK; clear K)
        refine AW.seq_ex (ι := SqL) (fun s => [(5, s.rv)]) (fun s => s.M) (fun s => LstO s.M 42 1 s.rv s.rb ((emb (sqM X k)).map rowAV)) ?_ ?_
        · (repeat refine AW.seq_k fun K hK => ?_)
          refine AW.rg ?_
          simp
          try (refine hK _ rfl ?_; clear hK; clear K)
          refine AW.block (AW.loopS (ι := Nat × SqL) (fun z => [(0, matAV (emb X)), (4, .int .i64 (k : Nat)), (5, z.2.rv), (6, .int .i64 (z.1 : Nat))]) (fun z => z.2.M) (fun z => z.1 ≤ k ∧ LstO z.2.M 42 1 z.2.rv z.2.rb ((emb ((sqM X k).take z.1)).map rowAV)) (fun z => k - z.1) (0, ⟨Mem.emp, .nil, []⟩) ⟨by simp, LstO.start _ _⟩ rfl (by simp) ?_)
          rintro ⟨i, M, ov, ob⟩ ⟨g1, g2⟩
          simp only at g1 g2
          simp only
          (repeat refine AW.seq_k fun K hK => ?_)
          refine AW.rg ?_
          simp
          try (refine hK _ rfl ?_; clear hK; clear K)
          (repeat refine AW.seq ?_)
          refine AW.cs (fun hi => ?_) (fun hi => ?_) rfl <;> (try simp at hi)
          · refine AW.skip ?_
            try simp
            refine hK _ rfl ?_
            clear hK
            clear K
            have w1 : IntKind.i64.wrap ((i + 1 : Nat) : Int) = ((i + 1 : Nat) : Int) := wi (by omega)
            have hin : i < n := by omega
            have hli : (mrow (emb X) i).length = w := by rw [emb_row, List.length_map]; exact (hXm.row hin).2
            have hll : ((emb ((sqM X k).take i)).map rowAV).length = i := by rw [List.length_map, emb_length]; simp [sqM, hXl]; omega
            have hcut : ∀ (size bytes : Nat) (zero : AV) (fs : List (Nat × Nat × Option Bool)), sliceAV Tryz.prog ⟨size, bytes, .slice 36, zero, fs⟩ (rowAV (mrow (emb X) i)) none (some (.int .i64 (k : Nat))) = some (rowAV (((mrow X i).map ofQ).take k)) := fun _ _ _ _ => by
              rw [slice_row (by omega), emb_row]
            have hfin : ∀ s : SqL, LstO s.M 42 1 s.rv s.rb ((emb ((sqM X k).take i)).map rowAV ++ [rowAV (((mrow X i).map ofQ).take k)]) → LstO s.M 42 1 s.rv s.rb ((emb ((sqM X k).take (i + 1))).map rowAV) := by
              intro s h2
              rw [sqM_succ hi (by omega), show (emb ((sqM X k).take i ++ [(mrow X i).take k])).map rowAV = (emb ((sqM X k).take i)).map rowAV ++ [rowAV (((mrow X i).take k).map ofQ)] by simp [emb], List.map_take]
              exact h2
            refine AW.seq_ex (ι := SqL) (fun s => [(0, matAV (emb X)), (4, .int .i64 (k : Nat)), (5, s.rv), (6, .int .i64 (i : Nat))]) (fun s => s.M) (fun s => LstO s.M 42 1 s.rv s.rb ((emb ((sqM X k).take (i + 1))).map rowAV)) ?_ ?_
            · (repeat refine AW.seq ?_)
              refine AW.block ?_
              generalize (emb ((sqM X k).take i)).map rowAV = l at *
              rcases g2.lst with ⟨z1, z2, z3⟩ | ⟨b0, z2, z3, z4⟩
              · subst z1 z2 z3
                (repeat refine AW.seq_k fun K hK => ?_)
                refine AW.rgR [36] ?_
                simp [hEl, hin, hli, hcut]
                try (refine hK _ rfl ?_; clear hK; clear K)
                exact ⟨by unfold maxLen; omega, Fresh.intro fun b hb => ⟨⟨_, _, [b]⟩, hfin _ (g2.push0 b _), rfl, rfl⟩⟩
              · subst z2 z3
                (repeat refine AW.seq_k fun K hK => ?_)
                refine AW.rgR [36] ?_
                simp [hEl, hin, hli, hcut, z4]
                try (refine hK _ rfl ?_; clear hK; clear K)
                exact ⟨by omega, by unfold maxLen; omega, Fresh.intro fun b hb => ⟨⟨_, _, [b]⟩, hfin _ (g2.push1 b _), rfl, rfl⟩⟩
            rintro ⟨M, ov, ob⟩ hs
            (repeat refine AW.seq_k fun K hK => ?_)
            refine AW.rg ?_
            simp [-Int.natCast_add, w1]
            try (refine hK _ rfl ?_; clear hK; clear K)
            exact ⟨i + 1, ⟨M, ov, ob⟩, ⟨hi, hs⟩, by omega, by simp⟩
          · refine AW.exit ?_
            try simp
            have : i = k := by omega
            subst this
            rw [List.take_of_length_le (by simp [sqM]; omega)] at g2
            exact ⟨⟨M, ov, ob⟩, g2, by simp⟩
        rintro ⟨M, ov, ob⟩ g2
        simp only at g2
        simp only
        (repeat refine AW.seq_k fun K hK => ?_)
        refine AW.rg ?_
        simp
        try (refine hK _ rfl ?_; clear hK; clear K)
        have hv := g2.lst.view (M' := Mem.emp) (fun _ _ => rfl)
        exact AW.ret (ret_views [matAV (emb (sqM X k)), .bool true] rfl ⟨hv, .same _, trivial⟩ ⟨rfl, rfl⟩)
  · have hR : squareR m = ([], false) := by unfold squareR; rw [if_pos (.inl h0)]
    rw [hR]
    refine acall_S Tryz.func25 rfl rfl 39 rfl (Nat.le_of_ble_eq_true rfl) ?_
    (repeat refine AW.seq_k fun K hK => ?_)
    refine AW.rg ?_
    simp [argsL]
    try (refine hK _ rfl ?_; clear hK; clear K)
    (repeat refine AW.seq_k fun K hK => ?_)
    refine AW.rg ?_
    simp
    try (refine hK _ rfl ?_; clear hK; clear K)
    refine CallK.val hck ?_
    simp [h0]
    refine hK _ rfl ?_
    clear hK
    clear K
    refine AW.yes ?_ rfl
    (repeat refine AW.seq_k fun K hK => ?_)
    refine AW.rg ?_
    simp
    try (refine hK _ rfl ?_; clear hK; clear K)
    exact AW.ret (ret_views [matAV [], .bool false] rfl ⟨.nilsl 1, .same _, trivial⟩ ⟨rfl, rfl⟩)
theorem detIter_good {n : Nat} {X : List (List Rat)} : ∀ {j : Nat} {z : List (List Rat) × Rat}, detIter n X j = some (some z) → Good z.2
  | 0, z, h => by cases h; exact good_one
  | j + 1, z, h => by
    cases hs : detIter n X j with
    | none => rw [detIter_none hs 1] at h; cases h
    | some o =>
      cases o with
      | none => rw [detIter_zero hs 1] at h; cases h
      | some y =>
        rw [detIter_succ hs] at h
        unfold detCol at h
        split at h
        · cases h
        · rename_i i hp
          cases hd : detD (decide (i ≠ j)) y.2 (qel (swapL y.1 i j) j j) with
          | none => rw [hd] at h; cases h
          | some d =>
            rw [hd] at h
            replace h : (belowQ n j (swapL y.1 i j)).map (fun M => some (M, d)) = some (some z) := h
            cases hb : belowQ n j (swapL y.1 i j) with
            | none => rw [hb] at h; cases h
            | some M =>
              rw [hb] at h
              cases h
              unfold detD at hd
              cases hq : (if decide (i ≠ j) = true then subQ 0 y.2 else some y.2) with
              | none => rw [hq] at hd; cases hd
              | some d' => rw [hq] at hd; exact good_mul hd
theorem detQ_good {n : Nat} {X : List (List Rat)} {q : Rat} (h : detQ n X = some q) : Good q := by
  unfold detQ at h
  split at h
  · cases h
  · cases h; exact good_zero
  · rename_i z hz; cases h; exact detIter_good hz
theorem detR_short (m : List (List RR)) : shortR (detR m).2 := by
  have hb : shortR badR := by unfold shortR badR; simp
  unfold detR
  split
  · exact hb
  · split
    · exact hb
    · cases hq : detQ m.length (unq m) with
      | none => exact hb
      | some q => exact short_good (detQ_good hq)
end Go.Av
end
section
namespace Go.Av
open Go.Proofs
theorem below_spec {n j t : Nat} {M M' : List (List Rat)} (h : matGood n n M) (hi : j + 1 + t < n) (he : belowStep n j t M = some M') : ∀ a b, b < n → qel M' a b = if a = j + 1 + t ∧ j ≤ b then qel M a b - qel M a j / qel M j j * qel M j b else qel M a b := by
  intro a b hb
  unfold belowStep at he
  by_cases hz : qel M (j + 1 + t) j = 0
  · rw [if_pos hz] at he
    cases he
    split
    · rename_i hh
      rw [hh.1, hz]; grind
    · rfl
  · rw [if_neg hz] at he
    cases hf : divQ (qel M (j + 1 + t) j) (qel M j j) with
    | none => rw [hf] at he; cases he
    | some f =>
      rw [hf] at he
      replace he : (iterO (belowRow (mrow M j) f j) (n - j) (mrow M (j + 1 + t))).map (M.set (j + 1 + t)) = some M' := he
      cases hm : iterO (belowRow (mrow M j) f j) (n - j) (mrow M (j + 1 + t)) with
      | none => rw [hm] at he; cases he
      | some row =>
        rw [hm] at he
        cases he
        have hl : (mrow M (j + 1 + t)).length = n := (h.row hi).2
        obtain ⟨k1, k2, k3⟩ := rowIter (o := j) (op := fun q k => lessQ q f (qat (mrow M j) k)) (fun t r => rfl) (by omega) hm
        rw [qel_set (by rw [h.2.2]; exact hi)]
        by_cases e : a = j + 1 + t
        · rw [if_pos e]
          by_cases e2 : j ≤ b
          · rw [if_pos ⟨e, e2⟩]
            have := k2 (b - j) (by omega)
            rw [show j + (b - j) = b by omega] at this
            rw [lessQ_eq this, divQ_eq hf, e]
            show qel M (j + 1 + t) b - qel M j b * _ = _
            grind
          · rw [if_neg fun hh => e2 hh.2, k3 b (by omega), e]; rfl
        · rw [if_neg e, if_neg fun hh => e hh.1]
theorem belowQ_spec {n j : Nat} {M : List (List Rat)} (h : matGood n n M) : ∀ {t : Nat} {Z : List (List Rat)}, j + 1 + t ≤ n → iterO (belowStep n j) t M = some Z → matGood n n Z ∧ ∀ a b, b < n → qel Z a b = if j < a ∧ a < j + 1 + t ∧ j ≤ b then qel M a b - qel M a j / qel M j j * qel M j b else qel M a b
  | 0, Z, _, he => by
    cases he
    refine ⟨h, fun a b _ => ?_⟩
    rw [if_neg (by omega)]
  | t + 1, Z, ht, he => by
    rw [iterO_succ] at he
    cases hm : iterO (belowStep n j) t M with
    | none => rw [hm] at he; cases he
    | some U =>
      rw [hm] at he
      obtain ⟨g1, g2⟩ := belowQ_spec h (by omega) hm
      have he' : belowStep n j t U = some Z := he
      refine ⟨below_keep (by omega) g1 he', fun a b hb => ?_⟩
      rw [below_spec g1 (by omega) he' a b hb]
      by_cases e : a = j + 1 + t ∧ j ≤ b
      · rw [if_pos e, if_pos ⟨by omega, by omega, e.2⟩, g2 a b hb, g2 a j (by omega), g2 j j (by omega), g2 j b hb, if_neg (by omega), if_neg (by omega), if_neg (by omega), if_neg (by omega)]
      · rw [if_neg e, g2 a b hb]
        by_cases e2 : j < a ∧ a < j + 1 + t ∧ j ≤ b
        · rw [if_pos e2, if_pos ⟨e2.1, by omega, e2.2.2⟩]
        · rw [if_neg e2, if_neg (by omega)]
theorem swap_det {n i r : Nat} {M : List (List Rat)} (h : matGood n n M) (hi : i < n) (hr : r < n) : detF n (qel (swapL M i r)) = if i = r then detF n (qel M) else -detF n (qel M) := by
  have e : ∀ a b, a < n → b < n → qel (swapL M i r) a b = swapF (qel M) r i a b := fun a b _ _ => qel_swap (by rw [h.2.2]; exact hi) (by rw [h.2.2]; exact hr) a b
  rw [detF_congr e]
  by_cases he : i = r
  · subst he
    rw [if_pos rfl]
    refine detF_congr fun a b _ _ => ?_
    unfold swapF
    split
    · rename_i h; rw [h]
    · rfl
  · rw [if_neg he, (detF_row n).swap hr hi (Ne.symm he)]
theorem prodN_congr {n : Nat} {f g : Nat → Rat} (h : ∀ i, i < n → f i = g i) : prodN n f = prodN n g := by
  induction n with
  | zero => rfl
  | succ n ih => show prodN n f * f n = prodN n g * g n; rw [ih fun i hi => h i (by omega), h n (by omega)]
theorem prodN_ne {n : Nat} {f : Nat → Rat} (h : ∀ i, i < n → f i ≠ 0) : prodN n f ≠ 0 := by
  induction n with
  | zero => show (1 : Rat) ≠ 0; decide
  | succ n ih =>
    show prodN n f * f n ≠ 0
    intro he
    rcases Rat.mul_eq_zero.1 he with h1 | h1
    · exact ih (fun i hi => h i (by omega)) h1
    · exact h n (by omega) h1
structure DetInv (n j : Nat) (X M : List (List Rat)) (d : Rat) : Prop where
  good : matGood n n M
  zer : ∀ c a, c < j → c < a → a < n → qel M a c = 0
  ne : ∀ c, c < j → qel M c c ≠ 0
  eq : detF n (qel X) * prodN j (fun c => qel M c c) = d * detF n (qel M)
theorem detD_eq {sw : Bool} {d x d' : Rat} (h : detD sw d x = some d') : d' = (if sw = true then -d else d) * x := by
  unfold detD at h
  cases sw with
  | true =>
    rw [if_pos rfl] at h ⊢
    cases hs : subQ 0 d with
    | none => rw [hs] at h; cases h
    | some y => rw [hs] at h; rw [mulQ_eq h, subQ_eq hs]; grind
  | false =>
    simp only [Bool.false_eq_true, if_false] at h ⊢
    exact mulQ_eq h
theorem det_inv {n : Nat} {X : List (List Rat)} (hX : matGood n n X) : ∀ j, j ≤ n → (detIter n X j = some none → detF n (qel X) = 0) ∧ ∀ z, detIter n X j = some (some z) → DetInv n j X z.1 z.2
  | 0, _ => ⟨fun h => (by cases h), fun z h => by
    cases h
    exact ⟨hX, fun c a h => by omega, fun c h => by omega, by show detF n (qel X) * 1 = 1 * detF n (qel X); grind⟩⟩
  | j + 1, hj => by
    obtain ⟨ih1, ih2⟩ := det_inv hX j (by omega)
    cases hm : detIter n X j with
    | none =>
      have := detIter_none hm 1
      exact ⟨fun h => (by rw [this] at h; cases h), fun z h => (by rw [this] at h; cases h)⟩
    | some o =>
      cases o with
      | none =>
        have := detIter_zero hm 1
        exact ⟨fun _ => ih1 hm, fun z h => (by rw [this] at h; cases h)⟩
      | some z0 =>
        rw [detIter_succ hm]
        have I := ih2 z0 hm
        obtain ⟨M, d⟩ := z0
        simp only at I
        unfold detCol
        simp only
        cases hp : pivQ M j j with
        | none =>
          refine ⟨fun _ => ?_, fun z h => (by cases h)⟩
          have h0 := pivQ_none hp
          have hz : detF n (qel M) = 0 := by
            have e := detF_tri (M := qel M) j (n - j) fun c a h1 h2 h3 => I.zer c a h1 h2 (by omega)
            rw [show j + (n - j) = n by omega] at e
            rw [e, show n - j = n - j - 1 + 1 by omega, detF_zcol fun a ha => by
              show qel M (a + j) (0 + j) = 0
              rw [Nat.zero_add]
              exact h0 _ (by omega) (by rw [I.good.2.2]; omega)]
            grind
          have e := I.eq
          rw [hz] at e
          have hne := prodN_ne I.ne
          have e2 : detF n (qel X) * prodN j (fun c => qel M c c) = 0 := by rw [e]; grind
          rcases Rat.mul_eq_zero.1 e2 with h | h
          · exact h
          · exact absurd h hne
        | some i =>
          obtain ⟨p1, p2, p3⟩ := pivQ_some hp
          rw [I.good.2.2] at p1
          simp only
          refine ⟨fun h => ?_, fun z h => ?_⟩
          · cases h1 : detD (decide (i ≠ j)) d (qel (swapL M i j) j j) with
            | none => rw [h1] at h; cases h
            | some d' =>
              rw [h1] at h
              simp only [Option.bind_some] at h
              cases h2 : belowQ n j (swapL M i j) with
              | none => rw [h2] at h; cases h
              | some M' => rw [h2] at h; cases h
          · cases h1 : detD (decide (i ≠ j)) d (qel (swapL M i j) j j) with
            | none => rw [h1] at h; cases h
            | some d' =>
              rw [h1] at h
              simp only [Option.bind_some] at h
              cases h2 : belowQ n j (swapL M i j) with
              | none => rw [h2] at h; cases h
              | some M' =>
                rw [h2] at h
                cases h
                have hG := I.good.swap p1 (show j < n by omega)
                have hs : ∀ a b, qel (swapL M i j) a b = if a = j then qel M i b else if a = i then qel M j b else qel M a b := fun a b => qel_swap (by rw [I.good.2.2]; exact p1) (by rw [I.good.2.2]; omega) a b
                have hsd := swap_det I.good p1 (show j < n by omega)
                have hd := detD_eq h1
                obtain ⟨g1, g2⟩ := belowQ_spec hG (t := n - (j + 1)) (by omega) h2
                have hsz : ∀ c a, c < j → c < a → a < n → qel (swapL M i j) a c = 0 := fun c a h1 h2 h3 => by
                  rw [hs]
                  split
                  · exact I.zer c i h1 (by omega) p1
                  · split
                    · exact I.zer c j h1 (by omega) (by omega)
                    · exact I.zer c a h1 h2 h3
                have hsj : ∀ c, c < j → qel (swapL M i j) c c = qel M c c := fun c hc => by
                  rw [hs, if_neg (by omega), if_neg (by omega)]
                have hx : qel (swapL M i j) j j ≠ 0 := by rw [hs, if_pos rfl]; exact p3
                generalize swapL M i j = S at *
                have hM' : ∀ a b, a < n → b < n → qel M' a b = if j < a then qel S a b - qel S a j / qel S j j * qel S j b else qel S a b := fun a b ha hb => by
                  rw [g2 a b hb]
                  by_cases e : j < a
                  · rw [if_pos e]
                    by_cases e2 : j ≤ b
                    · rw [if_pos ⟨e, by omega, e2⟩]
                    · rw [if_neg (by omega), hsz b j (by omega) (by omega) (by omega)]; grind
                  · rw [if_neg e, if_neg (by omega)]
                have hdM : detF n (qel M') = detF n (qel S) := detF_ops (r := j) (by omega) (fun a => if j < a then qel S a j / qel S j j else 0) (fun b hb => by rw [hM' j b (by omega) hb, if_neg (by omega)]) (fun a b ha hb hn => by
                  rw [hM' a b ha hb]
                  by_cases e : j < a
                  · rw [if_pos e, if_pos e]
                  · rw [if_neg e, if_neg e]; grind)
                refine ⟨g1, fun c a k1 k2 k3 => ?_, fun c hc => ?_, ?_⟩
                · rw [hM' a c k3 (by omega)]
                  by_cases e : c = j
                  · subst e
                    rw [if_pos k2]; grind
                  · rw [hsz c a (by omega) k2 k3, hsz c j (by omega) (by omega) (by omega)]
                    split <;> grind
                · rw [hM' c c (by omega) (by omega), if_neg (by omega)]
                  by_cases e : c = j
                  · rw [e]; exact hx
                  · rw [hsj c (by omega)]; exact I.ne c (by omega)
                · show detF n (qel X) * (prodN j (fun c => qel M' c c) * qel M' j j) = d' * detF n (qel M')
                  have e1 : prodN j (fun c => qel M' c c) = prodN j fun c => qel M c c := prodN_congr fun c hc => by
                    show qel M' c c = qel M c c
                    rw [hM' c c (by omega) (by omega), if_neg (by omega), hsj c hc]
                  have e2 : qel M' j j = qel S j j := by rw [hM' j j (by omega) (by omega), if_neg (by omega)]
                  rw [e1, e2, hdM, hd, hsd]
                  have e := I.eq
                  by_cases e3 : i = j
                  · rw [if_neg (by simp [e3]), if_pos e3]; grind
                  · rw [if_pos (by simp [e3]), if_neg e3]; grind
theorem det_exact {n : Nat} {X : List (List Rat)} (hX : matGood n n X) {d : Rat} (h : detQ n X = some d) : d = detF n (qel X) := by
  obtain ⟨h1, h2⟩ := det_inv hX n (Nat.le_refl _)
  unfold detQ at h
  cases hm : detIter n X n with
  | none => rw [hm] at h; cases h
  | some o =>
    rw [hm] at h
    cases o with
    | none => cases h; exact (h1 hm).symm
    | some z =>
      cases h
      have I := h2 z hm
      have e := detF_tri (M := qel z.1) n 0 fun c a q1 q2 q3 => I.zer c a q1 q2 (by omega)
      rw [Nat.add_zero] at e
      have e2 := I.eq
      rw [e] at e2
      have hne := prodN_ne I.ne
      show z.2 = _
      have e3 : (detF n (qel X) - z.2) * prodN n (fun c => qel z.1 c c) = 0 := by
        have : detF 0 (fun a b => qel z.1 (a + n) (b + n)) = 1 := rfl
        rw [this] at e2
        grind
      rcases Rat.mul_eq_zero.1 e3 with h | h
      · grind
      · exact absurd h hne
theorem detR_cases {n : Nat} {X : List (List Rat)} (hX : matGood n n X) (hn : n ≤ 64) : detR (emb X) = (2, badR) ∨ (detR (emb X) = (0, ofQ (detF n (qel X))) ∧ Good (detF n (qel X))) := by
  have hw : (mrow X 0).length = n := by
    rcases Nat.eq_zero_or_pos n with h | h
    · rw [List.eq_nil_of_length_eq_zero (hX.2.2.trans h), h]; rfl
    · exact (hX.row h).2
  unfold detR
  rw [if_neg (by rw [chk_good hX hw hn hn]; simp), if_neg (by rw [emb_row, List.length_map, hw, emb_length, hX.2.2]; simp), unq_emb, emb_length, hX.2.2]
  cases hq : detQ n X with
  | none => exact .inl rfl
  | some d =>
    have e := det_exact hX hq
    subst e
    exact .inr ⟨rfl, detQ_good hq⟩
theorem step_det {n j : Nat} {M : List (List Rat)} {ps : List Nat} (h : RRef n n j M ps) (hj : j < n) {z : List (List Rat) × List Nat} (he : colStep j (M, ps) = some z) : detF n (qel z.1) = 0 ↔ detF n (qel M) = 0 := by
  have hl := h.good.2.2
  unfold colStep at he
  simp only at he
  cases hp : pivQ M j ps.length with
  | none =>
    rw [hp] at he
    cases he
    exact Iff.rfl
  | some i0 =>
    rw [hp] at he
    obtain ⟨p1, p2, p3⟩ := pivQ_some hp
    rw [hl] at p1
    have hr : ps.length < n := by omega
    simp only at he
    cases hc : clearQ (swapL M i0 ps.length) j ps.length with
    | none => rw [hc] at he; cases he
    | some Y =>
      rw [hc] at he
      cases he
      have hG := h.good.swap p1 hr
      have hsw : ∀ a b, qel (swapL M i0 ps.length) a b = if a = ps.length then qel M i0 b else if a = i0 then qel M ps.length b else qel M a b := fun a b => qel_swap (by omega) (by omega) a b
      have hd : qel (swapL M i0 ps.length) ps.length j ≠ 0 := by rw [hsw, if_pos rfl]; exact p3
      obtain ⟨_, hs⟩ := clear_spec hG hr hd hj hc
      have hsd := swap_det h.good p1 hr
      generalize swapL M i0 ps.length = S at *
      generalize ps.length = r at *
      have h1 : detF n (fun a b => if a = r then 1 / qel S r j * qel S a b else qel S a b) = 1 / qel S r j * detF n (qel S) := detF_scale hr _ (fun b _ => by rw [if_pos rfl]) (fun a b _ _ hn => by rw [if_neg hn])
      have h2 : detF n (qel Y) = detF n (fun a b => if a = r then 1 / qel S r j * qel S a b else qel S a b) := detF_ops hr (fun a => qel S a j) (fun b hb => by rw [hs r b hr hb, if_pos rfl, if_pos rfl]; grind) (fun a b ha hb hn => by rw [hs a b ha hb, if_neg hn, if_neg hn, if_pos rfl]; grind)
      show detF n (qel Y) = 0 ↔ _
      rw [h2, h1, hsd]
      constructor
      · intro h0
        rcases Rat.mul_eq_zero.1 h0 with h3 | h3
        · exfalso; apply hd; grind
        · split at h3
          · exact h3
          · grind
      · intro h0
        rw [h0]
        split <;> grind
theorem cols_det {n : Nat} {M0 : List (List Rat)} (h : matGood n n M0) : ∀ {j : Nat} {z : List (List Rat) × List Nat}, j ≤ n → iterO colStep j (M0, []) = some z → (detF n (qel z.1) = 0 ↔ detF n (qel M0) = 0)
  | 0, z, _, he => by cases he; exact Iff.rfl
  | j + 1, z, hj, he => by
    rw [iterO_succ] at he
    cases hm : iterO colStep j (M0, []) with
    | none => rw [hm] at he; cases he
    | some u =>
      rw [hm] at he
      exact (step_det (cols_rref h (by omega) hm).1 (by omega) (show colStep j (u.1, u.2) = some z from he)).trans (cols_det h (by omega) hm)
theorem srt_ge {ps : List Nat} (h : ps.Pairwise (· < ·)) : ∀ k, k < ps.length → k ≤ ps.getD k 0
  | 0, _ => Nat.zero_le _
  | k + 1, hk => by
    have := srt_ge h k (by omega)
    have := getD_lt h (i := k) (j := k + 1) (by omega) hk
    omega
theorem srt_le {ps : List Nat} {n : Nat} (h : ps.Pairwise (· < ·)) (hn : ∀ p ∈ ps, p < n) (hl : ps.length = n) : ∀ t k, k + t + 1 = n → ps.getD k 0 ≤ k
  | 0, k, hk => by have := hn _ (getD_mem (ps := ps) (k := k) (by omega)); omega
  | t + 1, k, hk => by
    have := srt_le h hn hl t (k + 1) (by omega)
    have := getD_lt h (i := k) (j := k + 1) (by omega) (by omega)
    omega
/-- The determinant is not zero exactly if the rank is full. -/
theorem RRef.det {n : Nat} {Y : List (List Rat)} {ps : List Nat} (h : RRef n n n Y ps) : detF n (qel Y) ≠ 0 ↔ ps.length = n := by
  constructor
  · intro hne
    rcases Nat.lt_or_eq_of_le h.len with hl | hl
    · exfalso
      apply hne
      have := detF_scale (n := n) (r := n - 1) (M := qel Y) (Y := qel Y) (by omega) 0 (fun b hb => by rw [h.zer (n - 1) (by omega) b hb (fun h => by omega)]; grind) (fun _ _ _ _ _ => rfl)
      grind
    · exact hl
  · intro hl
    have e : ∀ a b, a < n → b < n → qel Y a b = idF a b := fun a b ha hb => by
      have e1 : ps.getD b 0 = b := Nat.le_antisymm (srt_le h.srt h.lt hl (n - b - 1) b (by omega)) (srt_ge h.srt b (by omega))
      have := h.one b (by omega) a ha
      rw [e1] at this
      exact this
    rw [detF_congr e, detF_id]
    decide
theorem det_rank {n : Nat} {X : List (List Rat)} (hX : matGood n n X) (hw : (mrow X 0).length = n) {z : List (List Rat) × List Nat} (h : reduceQ X = some z) : detF n (qel X) ≠ 0 ↔ z.2.length = n := by
  have h1 := (reduce_rref hX hw h).1
  unfold reduceQ at h
  rw [hw] at h
  have h2 := cols_det hX (Nat.le_refl _) h
  rw [← h1.det]
  exact not_congr h2.symm
end Go.Av
end
section
namespace Go.Av
section
variable {P : Program} {cf : Cfg} {ops : Array Oper}
/-- A slice that is built and soon read, a value. -/
def virtB (ro : Nat → Bool) (o : Oper) : Bool := match o.op, o.dst with
  | .buildSlice _ _ _, some d => ro d
  | _, _ => false
/-- May j (ahead of i in the plan) be passed by i? -/
def passesV (P : Program) (ro : Nat → Bool) (q : Seps) (ops : Array Oper) (j i : Nat) : Bool :=
  match ops[j]?, ops[i]? with
  | some oj, some oi => oj.apart ops oi && ((klass oj).comm (klass oi) && (klass oj != .z || zOk P ro oj) && (klass oi != .z || zOk P ro oi) || sepOp q oj oi || virtB ro oj)
  | _, _ => false
/-- The plan is in order. -/
def planOkV (P : Program) (ro : Nat → Bool) (q : Seps) (ops : Array Oper) (plan : List Nat) : Bool :=
  ops.toList.all (dstSep q) && (
  (List.range ops.size).all (fun i => plan.contains i) && plan.all (fun i => Nat.blt i ops.size) && decide (plan.Nodup ∧ plan.length ≤ ops.size) &&
  (plan.zipIdx.all fun (i, k) => (plan.take k).all fun j => !reach ops ops.size j i && (reach ops ops.size i j || passesV P ro q ops j i)) &&
  ops.toList.zipIdx.all fun (o, i) => o.after.toList.all fun e => !Region.binds .any e || (Nat.blt e.on ops.size && e.on != i))
end
end Go.Av
end
section
namespace Go.Av
open Go.Proofs
theorem CopM.push0 {r : List RR} {b' B : Nat} (hB : (Mem.emp.set b' ⟨36, 4, rrs r⟩) B = none) : CopM ((Mem.emp.set b' ⟨36, 4, rrs r⟩).set B ⟨42, 1, [.osl b' 4 0 r.length]⟩) (.osl B 1 0 1) [b'] [r] := by
  have hBb : B ≠ b' := by rintro rfl; simp at hB
  refine .inr ⟨B, rfl, ?_, ?_⟩
  · exact MatM.snoc (bs := []) (rows := []) rfl (by simp [hdrs]) (fun i hi => (by cases hi)) (by simp [Ne.symm hBb]) List.nodup_nil (by simp) (by simp) hBb
  · exact (OnlyM.set (OnlyM.set (l := [B, b']) (fun k hk => absurd rfl hk) (by simp) _) (by simp) _)
theorem CopM.push1 {M : Mem} {B B1 b' : Nat} {bs : List Nat} {rows : List (List RR)} {r : List RR} (z2 : MatM M B bs rows) (z3 : OnlyM M (B :: bs)) (hb' : M b' = none) (hB1 : ((M.set b' ⟨36, 4, rrs r⟩).del B) B1 = none) :
    CopM (((M.set b' ⟨36, 4, rrs r⟩).del B).set B1 ⟨42, 1, hdrs bs rows ++ [.osl b' 4 0 r.length]⟩) (.osl B1 1 0 (rows.length + 1)) (bs ++ [b']) (rows ++ [r]) := by
  have n1 : B ≠ b' := by rintro rfl; rw [z2.top] at hb'; cases hb'
  have hl : bs.length = rows.length := z2.len
  refine .inr ⟨B1, by simp, ?_, ?_⟩
  · have hbn : b' ∉ bs := by
      intro hm'
      obtain ⟨k, hk, e⟩ := List.mem_iff_getElem.1 hm'
      rw [← nb_eq hk] at e
      have := z2.row k (by rw [← hl]; exact hk)
      rw [e, hb'] at this; cases this
    have hrow : ∀ k, k < rows.length → (((M.set b' ⟨36, 4, rrs r⟩).del B) (nb bs k)) = some ⟨36, 4, rrs (mrow rows k)⟩ := by
      intro k hk
      have q1 : nb bs k ≠ B := z2.ne hk
      have q2 : nb bs k ≠ b' := fun e => hbn (e ▸ nb_mem (by rw [hl]; exact hk))
      show (if nb bs k = B then none else (M.set b' _) (nb bs k)) = _
      rw [if_neg q1, Mem.set_other _ _ q2]
      exact z2.row k hk
    have hbv : ((M.set b' ⟨36, 4, rrs r⟩).del B) b' = some ⟨36, 4, rrs r⟩ := by
      show (if b' = B then none else (M.set b' _) b') = _
      rw [if_neg (Ne.symm n1), Mem.set_same]
    have hne : ∀ k y, ((M.set b' ⟨36, 4, rrs r⟩).del B) k = some y → k ≠ B1 := by
      rintro k y hk rfl
      rw [hB1] at hk; cases hk
    refine MatM.snoc hl (by simp) (fun k hk => ?_) ?_ z2.nd hbn ?_ ?_
    · rw [Mem.set_other _ _ (hne _ _ (hrow k hk))]; exact hrow k hk
    · rw [Mem.set_other _ _ (hne _ _ hbv)]; exact hbv
    · intro hm'
      obtain ⟨k, hk, e⟩ := List.mem_iff_getElem.1 hm'
      rw [← nb_eq hk] at e
      exact hne _ _ (hrow k (by rw [← hl]; exact hk)) e
    · exact Ne.symm (hne _ _ hbv)
  · intro k hk
    simp only [set_at] at hk
    by_cases k1 : k = B1
    · simp [k1]
    · rw [if_neg k1] at hk
      have hk2 : (if k = B then none else (M.set b' ⟨36, 4, rrs r⟩) k) ≠ none := hk
      by_cases k2 : k = B
      · rw [if_pos k2] at hk2; exact absurd rfl hk2
      · rw [if_neg k2] at hk2
        by_cases k3 : k = b'
        · simp [k3]
        · rw [Mem.set_other _ _ k3] at hk2
          have := z3 k hk2
          simp [k2] at this
          simp [this]
def wdL (m : List (List RR)) (b : List RR) (i : Nat) : List (List RR) := (List.range i).map fun k => mrow m k ++ [rr b k]
def colQ (x : List Rat) (i : Nat) : List (List Rat) := (List.range i).map fun k => [qat x k]
theorem CopM.view {M : Mem} {ov : AV} {bs : List Nat} {rows : List (List RR)} (h : CopM M ov bs rows) : View M Mem.emp ov (matAV rows) := by
  rcases h with ⟨rfl, _, rfl, _⟩ | ⟨B, rfl, z2, _⟩
  · exact .nilsl 1
  · exact z2.view
theorem sol_facts {m : List (List RR)} {b : List RR} {is : Bool} {x : List Rat} (hm : LbM m) (hb : ∀ x ∈ b, x.Lb) (h : solR m b = (0, is, x)) : ∃ (X : List (List Rat)) (bq : List Rat) (n w : Nat), m = emb X ∧ b = bq.map ofQ ∧ matGood n w X ∧ rowGood bq ∧ bq.length = n ∧ (mrow X 0).length = w ∧ n ≤ 64 ∧ w < 64 ∧
    ∃ Z qs, reduceQ (wideQ X bq) = some (Z, qs) ∧ ((w ∈ qs ∧ is = false ∧ x = []) ∨ (w ∉ qs ∧ is = true ∧ x = solV Z qs w)) := by
  unfold solR at h
  by_cases h0 : chk m = 0
  · rw [if_neg (by simp [h0])] at h
    by_cases h1 : b.length = m.length
    · rw [if_neg (by simp [h1])] at h
      by_cases h2 : okV b
      · rw [if_neg (by simp [h2])] at h
        by_cases h3 : (mrow m 0).length = 64
        · rw [if_pos h3] at h; cases h
        · rw [if_neg h3] at h
          obtain ⟨a1, a2, a3, a4, a5⟩ := chk_emb hm h0
          obtain ⟨b1, b2⟩ := okV_emb hb h2
          have hw : (mrow m 0).length = (mrow (unq m) 0).length := by rw [unq_row, List.length_map]
          rw [hw] at h h3
          refine ⟨unq m, b.map RR.q, m.length, _, a1, b1, ⟨a2, a3, unq_length m⟩, b2, by rw [List.length_map, h1], rfl, a4, by omega, ?_⟩
          cases hq : reduceQ (wideQ (unq m) (b.map RR.q)) with
          | none => rw [hq] at h; cases h
          | some z =>
            rw [hq] at h
            refine ⟨z.1, z.2, rfl, ?_⟩
            simp only at h
            by_cases h4 : (mrow (unq m) 0).length ∈ z.2
            · rw [if_pos h4] at h; cases h; exact .inl ⟨h4, rfl, rfl⟩
            · rw [if_neg h4] at h; cases h; exact .inr ⟨h4, rfl, rfl⟩
      · rw [if_pos h2] at h; cases h
    · rw [if_pos h1] at h; cases h
  · rw [if_pos h0] at h
    simp only [Prod.mk.injEq] at h
    exact absurd h.1 h0
theorem rank_iff {X Z Y : List (List Rat)} {bq : List Rat} {n w : Nat} {qs ps : List Nat} {is : Bool} (hX : matGood n w X) (hw : (mrow X 0).length = w) (hbq : rowGood bq) (hbl : bq.length = n) (hn' : n ≤ 64) (hw' : w < 64) (hq : reduceQ (wideQ X bq) = some (Z, qs)) (hr : redR (emb X) = (0, Y, ps)) (his : is = true ↔ w ∉ qs) : is = decide (ps.length = qs.length) := by
  have hdec : (w ∉ qs) ↔ ps.length = qs.length := by
    rcases Nat.eq_zero_or_pos n with h | h
    · have hX0 : X = [] := List.eq_nil_of_length_eq_zero (hX.2.2.trans h)
      subst hX0
      have hc := chk_good hX hw hn' (by omega)
      rw [redR_emb hc] at hr
      have e1 : reduceQ [] = some ([], []) := rfl
      rw [e1] at hr
      have e2 : reduceQ (wideQ [] bq) = some ([], []) := rfl
      rw [e2] at hq
      cases hr; cases hq
      simp
    · obtain ⟨Y', ps', f1, f2, f3, _⟩ := red_facts hX hw h hn' (by omega) (by rw [hr])
      rw [f1] at hr
      cases hr
      have := (wide_red hX (wideQ_good hX hbq hbl) h f2 hq).2.2.2
      simp only at this
      rw [this]
      constructor
      · intro h; exact (Decidable.not_not.1 h).symm
      · intro h h2; exact h2 h.symm
  cases is
  · have : ¬ (w ∉ qs) := fun h => by have := his.2 h; cases this
    rw [hdec] at this
    simp [this]
  · have := hdec.1 (his.1 rfl)
    simp [this]
structure WdS where
  M : Mem
  ov : AV
  ob : List Nat
end Go.Av
end
section
namespace Go.Av
open Go.Proofs
/-- The rank, the kernel, the determinant and a right side. -/
theorem sing_facts {n : Nat} {X : List (List Rat)} (hX : matGood n n X) (hn' : n < 64) (h : (redR (emb X)).1 = 0) :
    ∃ Y ps K, redR (emb X) = (0, Y, ps) ∧ kerR (emb X) = (0, K) ∧ K.length + ps.length = n ∧ (detF n (qel X) ≠ 0 ↔ ps.length = n) ∧ ∀ (b : List RR) (is : Bool) (x : List Rat), (∀ y ∈ b, y.Lb) → solR (emb X) b = (0, is, x) → ps.length = n → is = true := by
  have hsol : ∀ Y ps, redR (emb X) = (0, Y, ps) → ∀ (b : List RR) (is : Bool) (x : List Rat), (∀ y ∈ b, y.Lb) → solR (emb X) b = (0, is, x) → ps.length = n → is = true := by
    intro Y ps hr b is x hb hs hl
    obtain ⟨X', bq, n', w', e1, e2, s1, s2, s3, s4, s5, s6, Z, qs, s7, s8⟩ := sol_facts (lb_emb X) hb hs
    have eX : X' = X := by have := congrArg unq e1; rw [unq_emb, unq_emb] at this; exact this.symm
    subst eX
    have en : n' = n := s1.2.2.symm.trans hX.2.2
    subst en
    have hiw : (mrow X' 0).length = n' := by
      rcases Nat.eq_zero_or_pos n' with h | h
      · rw [List.eq_nil_of_length_eq_zero (hX.2.2.trans h), h]; rfl
      · exact (hX.row h).2
    have ew : w' = n' := s4.symm.trans hiw
    subst ew
    have his : is = true ↔ w' ∉ qs := by
      rcases s8 with ⟨h1, h2, _⟩ | ⟨h1, h2, _⟩
      · rw [h2]; simp [h1]
      · rw [h2]; simp [h1]
    have hd := rank_iff s1 s4 s2 s3 s5 s6 s7 hr his
    rw [hd, decide_eq_true_eq]
    rcases Nat.eq_zero_or_pos w' with h0 | h0
    · have hX0 : X' = [] := List.eq_nil_of_length_eq_zero (hX.2.2.trans h0)
      subst hX0
      have e2 : reduceQ (wideQ [] bq) = some ([], []) := rfl
      rw [e2] at s7
      cases s7
      rw [hl, h0]; rfl
    · obtain ⟨Y', ps', f1, f2, f3, _⟩ := red_facts s1 s4 h0 s5 (by omega) h
      rw [f1] at hr
      cases hr
      have hw := wide_red s1 (wideQ_good s1 s2 s3) h0 f2 s7
      have hle := hw.1.len
      rcases hw.2.2.1 with h3 | h3
      · simp only at h3; rw [h3]
      · simp only at h3
        rw [h3, List.length_append] at hle
        simp at hle
        omega
  rcases Nat.eq_zero_or_pos n with h0 | h0
  · subst h0
    have hX0 : X = [] := List.eq_nil_of_length_eq_zero hX.2.2
    subst hX0
    have hc := chk_good hX rfl (by omega) (by omega)
    have hr : redR (emb []) = (0, [], []) := by rw [redR_emb hc]; rfl
    refine ⟨[], [], [], hr, ?_, rfl, ?_, hsol _ _ hr⟩
    · unfold kerR
      rw [hr]
      rfl
    · show (1 : Rat) ≠ 0 ↔ _
      simp
  · obtain ⟨Y, ps, f1, f2, f3, f4, f5, f6, f7⟩ := red_facts hX (hX.row h0).2 h0 (by omega) (by omega) h
    exact ⟨Y, ps, _, f1, f6, f3.count, det_rank hX (hX.row h0).2 f2, hsol _ _ f1⟩
theorem lawSingular (m : List (List RR)) (b : List RR) (hm : LbM m) (hb : ∀ x ∈ b, x.Lb) : ACall Tryz.prog 13 [matAV m, rowAV b] Mem.emp fun v mm => v = .bool true ∧ mm = Mem.emp := by
  have hsq := square_call m hm
  have hwk := works_call
  obtain ⟨n, hn, hX⟩ := squareR_good hm
  generalize squareR m = S at *
  obtain ⟨X, ok⟩ := S
  simp only at hsq hX
  have hXl : (emb X).length = n := by rw [emb_length, hX.2.2]
  refine acall_S Tryz.func13 rfl rfl 98 rfl (Nat.le_of_ble_eq_true rfl) ?_
  (repeat refine AW.seq_k fun K hK => ?_)
  refine AW.rg ?_
  simp [argsL]
  try (refine hK _ rfl ?_; clear hK; clear K)
  (repeat refine AW.seq_k fun K hK => ?_)
  refine AW.rg ?_
  simp
  try (refine hK _ rfl ?_; clear hK; clear K)
  refine CallK.val hsq ?_
  simp
  refine hK _ rfl ?_
  clear hK
  clear K
  cases ok
  · (repeat refine AW.seq_k fun K hK => ?_)
    refine AW.rg ?_
    simp
    try (refine hK _ rfl ?_; clear hK; clear K)
    refine AW.yes ?_ rfl
    (repeat refine AW.seq_k fun K hK => ?_)
    refine AW.rg ?_
    simp
    try (refine hK _ rfl ?_; clear hK; clear K)
    refine CallK.val hwk ?_
    simp
    refine hK _ rfl ?_
    clear hK
    clear K
    exact AW.ret (ret_views (vs := [.bool true]) [.bool true] (by simp) (by simp) ⟨rfl, rfl⟩)
  by_cases hbl : b.length < n
  · (repeat refine AW.seq_k fun K hK => ?_)
    refine AW.rg ?_
    simp [hXl, hbl]
    try (refine hK _ rfl ?_; clear hK; clear K)
    refine AW.yes ?_ rfl
    (repeat refine AW.seq_k fun K hK => ?_)
    refine AW.rg ?_
    simp
    try (refine hK _ rfl ?_; clear hK; clear K)
    refine CallK.val hwk ?_
    simp
    refine hK _ rfl ?_
    clear hK
    clear K
    exact AW.ret (ret_views (vs := [.bool true]) [.bool true] (by simp) (by simp) ⟨rfl, rfl⟩)
  (repeat refine AW.seq_k fun K hK => ?_)
  refine AW.rg ?_
  simp [hXl, hbl]
  try (refine hK _ rfl ?_; clear hK; clear K)
  refine AW.no ?_ rfl
  refine AW.skip ?_
  try simp
  refine hK _ rfl ?_
  clear hK
  clear K
  have hd := detL_call (emb X) (lb_emb X)
  have hr := rankL_call (emb X) (lb_emb X)
  have hk := kernelL_call (emb X) (lb_emb X)
  have hbt : ∀ y ∈ b.take n, y.Lb := fun y hy => hb y (List.mem_of_mem_take hy)
  have hs := solveL_call (emb X) (b.take n) (lb_emb X) hbt
  unfold solOut at hs
  have hsl := @slice_row b n (by omega)
  have hdc := detR_cases hX (by omega)
  have hdl := detR_short (emb X)
  have hfacts := sing_facts hX (by omega)
  have hek := kerR_one (m := emb X)
  generalize detR (emb X) = zd at *
  generalize redR (emb X) = zr at *
  generalize kerR (emb X) = zk at *
  generalize hzs : solR (emb X) (b.take n) = zs at *
  obtain ⟨ed, d⟩ := zd
  obtain ⟨er, Y, ps⟩ := zr
  obtain ⟨ek, N⟩ := zk
  obtain ⟨es, is, x⟩ := zs
  simp only at hd hr hk hs hek
  have hNl := emb_length N
  subst hek
  (repeat refine AW.seq_k fun K hK => ?_)
  refine AW.rg ?_
  simp
  try (refine hK _ rfl ?_; clear hK; clear K)
  refine CallK.val hd ?_
  simp
  refine Fresh.intro fun b7 hb7 => ?_
  simp only [set_none2, emp_at, and_true] at hb7
  refine hK _ rfl ?_
  clear hK
  clear K
  refine AW.toEmp [(1, rowAV b), (5, matAV (emb X)), (7, .rptr d.av.cells), (8, .int .i64 ed)] (by simp; exact view_temp rfl) ?_
  (repeat refine AW.seq_k fun K hK => ?_)
  refine AW.rg ?_
  simp
  try (refine hK _ rfl ?_; clear hK; clear K)
  refine CallK.val hr ?_
  simp
  refine hK _ rfl ?_
  clear hK
  clear K
  (repeat refine AW.seq_k fun K hK => ?_)
  refine AW.rg ?_
  simp
  try (refine hK _ rfl ?_; clear hK; clear K)
  refine CallK.val hk ?_
  simp
  refine hK _ rfl ?_
  clear hK
  clear K
  (repeat refine AW.seq_k fun K hK => ?_)
  refine AW.rg ?_
  simp [hXl, hsl]
  try (refine hK _ rfl ?_; clear hK; clear K)
  refine CallK.val hs ?_
  simp
  refine hK _ rfl ?_
  clear hK
  clear K
  by_cases h1 : ed = 0
  · by_cases h2 : ek = 0
    · subst h1 h2
      rcases hdc with hdc | ⟨hdc, hDg⟩
      · cases hdc
      cases hdc
      obtain ⟨Y', ps', K', g1, g2, g3, g4, g5⟩ := hfacts rfl
      cases g1
      cases g2
      have hsg := rsign2_call (ofQ (detF n (qel X))) (ofQ_lb _)
      rw [signR_ofQ hDg] at hsg
      have hsz : signQ (detF n (qel X)) ≠ 0 ↔ ps.length = n := by rw [← g4]; exact not_congr signQ_zero
      have hKz : (N.length = 0) ↔ ps.length = n := by omega
      have his : ∀ e : es = 0, ps.length = n → is = true := fun e => by subst e; exact g5 _ is x hbt hzs
      generalize signQ (detF n (qel X)) = sg at *
      (repeat refine AW.seq_k fun K hK => ?_)
      refine AW.rg ?_
      simp
      try (refine hK _ rfl ?_; clear hK; clear K)
      refine AW.no ?_ rfl
      refine AW.skip ?_
      try simp
      refine hK _ rfl ?_
      clear hK
      clear K
      (repeat refine AW.seq_k fun K hK => ?_)
      refine AW.rg ?_
      simp
      try (refine hK _ rfl ?_; clear hK; clear K)
      refine CallK.val hsg ?_
      simp
      refine hK _ rfl ?_
      clear hK
      clear K
      by_cases hreg : ps.length = n
      · have hsg1 : sg ≠ 0 := hsz.2 hreg
        have hE : emb N = [] := by rw [← List.length_eq_zero_iff, hNl]; exact hKz.2 hreg
        by_cases hes : es = 0
        · have hi := his hes hreg
          subst hes hi
          (repeat refine AW.seq_k fun K hK => ?_)
          refine AW.rg ?_
          simp [hsg1]
          try (refine hK _ rfl ?_; clear hK; clear K)
          refine CallK.val hwk ?_
          simp [hE, hXl, hreg]
          refine hK _ rfl ?_
          clear hK
          clear K
          exact AW.ret (ret_views (vs := [.bool true]) [.bool true] (by simp) (by simp) ⟨rfl, rfl⟩)
        · (repeat refine AW.seq_k fun K hK => ?_)
          refine AW.rg ?_
          simp [hsg1]
          try (refine hK _ rfl ?_; clear hK; clear K)
          refine CallK.val hwk ?_
          simp [hE, hXl, hreg, hes]
          refine hK _ rfl ?_
          clear hK
          clear K
          exact AW.ret (ret_views (vs := [.bool true]) [.bool true] (by simp) (by simp) ⟨rfl, rfl⟩)
      · have hsg1 : sg = 0 := by rcases Decidable.em (sg = 0) with h | h; exact h; exact absurd (hsz.1 h) hreg
        have hE : emb N ≠ [] := fun h => hreg (hKz.1 (by rw [← hNl, h]; rfl))
        (repeat refine AW.seq_k fun K hK => ?_)
        refine AW.rg ?_
        simp [hsg1]
        try (refine hK _ rfl ?_; clear hK; clear K)
        refine CallK.val hwk ?_
        simp [hE, hXl, hreg]
        refine hK _ rfl ?_
        clear hK
        clear K
        exact AW.ret (ret_views (vs := [.bool true]) [.bool true] (by simp) (by simp) ⟨rfl, rfl⟩)
    · (repeat refine AW.seq_k fun K hK => ?_)
      refine AW.rg ?_
      simp [h1, h2]
      try (refine hK _ rfl ?_; clear hK; clear K)
      refine AW.yes ?_ rfl
      (repeat refine AW.seq_k fun K hK => ?_)
      refine AW.rg ?_
      simp
      try (refine hK _ rfl ?_; clear hK; clear K)
      refine CallK.val hwk ?_
      simp
      refine hK _ rfl ?_
      clear hK
      clear K
      exact AW.ret (ret_views (vs := [.bool true]) [.bool true] (by simp) (by simp) ⟨rfl, rfl⟩)
  · (repeat refine AW.seq_k fun K hK => ?_)
    refine AW.rg ?_
    simp [h1]
    try (refine hK _ rfl ?_; clear hK; clear K)
    refine AW.yes ?_ rfl
    (repeat refine AW.seq_k fun K hK => ?_)
    refine AW.rg ?_
    simp
    try (refine hK _ rfl ?_; clear hK; clear K)
    refine CallK.val hwk ?_
    simp
    refine hK _ rfl ?_
    clear hK
    clear K
    exact AW.ret (ret_views (vs := [.bool true]) [.bool true] (by simp) (by simp) ⟨rfl, rfl⟩)
end Go.Av
end
