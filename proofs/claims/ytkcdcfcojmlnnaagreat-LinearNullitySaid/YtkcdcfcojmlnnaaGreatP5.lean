/- A part of the proof. -/
import Derived.Test.YtkcdcfcojmlnnaaGreatP4
import Derived.ProofKit
import Derived.OpenShut
import Derived.Deep.Slices
set_option linter.all false
set_option exponentiation.threshold 5000
set_option maxRecDepth 10000
section
namespace Go.Av
open Go.Proofs
/-- A function that says whether two values are the same. -/
def saysEq (p : Prop) (v : AV) : Prop := ∃ t : Bool, v = .bool t ∧ (t = true ↔ p)
theorem list_ext_nth {a b : List Nat} (h : a.length = b.length) (he : ∀ k, k < a.length → nth a k = nth b k) : a = b := by
  refine List.ext_getElem h fun k h1 h2 => ?_
  have := he k h1
  unfold nth at this
  rwa [List.getD_eq_getElem?_getD, List.getD_eq_getElem?_getD, List.getElem?_eq_getElem h1, List.getElem?_eq_getElem h2] at this
theorem ints2_call (n1 n2 : Bool) (l1 l2 : List Nat) (h1 : l1.length < 2^40) : ACall Tryz.prog 62 [.agg [.bool n1, lim l1], .agg [.bool n2, lim l2]] Mem.emp fun v m => saysEq (n1 = n2 ∧ l1 = l2) v ∧ m = Mem.emp := by
  by_cases hn : n1 = n2
  · subst hn
    by_cases hl : l1.length = l2.length
    · refine acall_S Tryz.func62 rfl rfl 38 rfl (Nat.le_of_ble_eq_true rfl) ?_
      (repeat refine AW.seq_k fun K hK => ?_)
      refine AW.rgR [2,3] ?_
      simp [argsL]
      try (refine hK _ rfl ?_; clear hK; clear K)
      (repeat refine AW.seq_k fun K hK => ?_)
      refine AW.rg ?_
      simp [hl]
      try (refine hK _ rfl ?_; clear hK; clear K)
      refine AW.no ?_ (by simp)
      refine AW.skip ?_
      try simp
      refine hK _ rfl ?_
      clear hK
      clear K
      refine AW.seq_ex (ι := Unit) (fun _ => []) (fun _ => Mem.emp) (fun _ => l1 = l2) ?_ ?_
      · (repeat refine AW.seq_k fun K hK => ?_)
        refine AW.rg ?_
        simp
        try (refine hK _ rfl ?_; clear hK; clear K)
        refine AW.block (AW.loopS (ι := Nat) (fun i => [(2, .rptr [.bool n1, lim l1]), (3, .rptr [.bool n1, lim l2]), (5, .int .i64 (i : Nat))]) (fun _ => Mem.emp) (fun i => i ≤ l1.length ∧ ∀ k, k < i → nth l1 k = nth l2 k) (fun i => l1.length - i) 0 ⟨by simp, by simp⟩ rfl (by simp) ?_)
        rintro i ⟨g1, g2⟩
        (repeat refine AW.seq_k fun K hK => ?_)
        refine AW.rg ?_
        simp
        try (refine hK _ rfl ?_; clear hK; clear K)
        (repeat refine AW.seq ?_)
        refine AW.cs (fun hi => ?_) (fun hi => ?_) rfl <;> (try simp at hi)
        · refine AW.skip ?_
          try simp
          refine hK _ rfl ?_
          clear hK
          clear K
          have hi2 : i < l2.length := by omega
          have w1 : IntKind.i64.wrap ((i + 1 : Nat) : Int) = ((i + 1 : Nat) : Int) := wi (by omega)
          refine AW.seq_ex (ι := Unit) (fun _ => [(2, .rptr [.bool n1, lim l1]), (3, .rptr [.bool n1, lim l2]), (5, .int .i64 (i : Nat))]) (fun _ => Mem.emp) (fun _ => nth l1 i = nth l2 i) ?_ ?_
          · (repeat refine AW.seq ?_)
            refine AW.block ?_
            (repeat refine AW.seq_k fun K hK => ?_)
            refine AW.rd [0, 1, 2, 3, 4, 5, 6, 7, 8, 9, 10] mix ?_
            simp [hi, hi2]
            try (refine hK _ rfl ?_; clear hK; clear K)
            by_cases h0 : nth l1 i = nth l2 i
            · refine AW.no ?_ (by simp [h0])
              exact AW.skip ⟨(), h0, by simp⟩
            · refine AW.yes ?_ (by simp [h0])
              (repeat refine AW.seq_k fun K hK => ?_)
              refine AW.rg ?_
              simp
              try (refine hK _ rfl ?_; clear hK; clear K)
              exact AW.ret (ret_views (vs := [.bool false]) [.bool false] (by simp) (by simp) ⟨⟨false, rfl, by simp; intro h; exact h0 (by rw [h])⟩, rfl⟩)
          rintro _ h0
          (repeat refine AW.seq_k fun K hK => ?_)
          refine AW.rg ?_
          simp [-Int.natCast_add, w1]
          try (refine hK _ rfl ?_; clear hK; clear K)
          refine ⟨⟨hi, fun k hk => ?_⟩, by omega⟩
          rcases Nat.lt_succ_iff_lt_or_eq.1 hk with h | rfl
          · exact g2 k h
          · exact h0
        · refine AW.exit ?_
          try simp
          exact list_ext_nth hl fun k hk => g2 k (by omega)
      rintro _ rfl
      (repeat refine AW.seq_k fun K hK => ?_)
      refine AW.rg ?_
      simp
      try (refine hK _ rfl ?_; clear hK; clear K)
      exact AW.ret (ret_views (vs := [.bool true]) [.bool true] (by simp) (by simp) ⟨⟨true, rfl, by simp⟩, rfl⟩)
    · refine acall_S Tryz.func62 rfl rfl 38 rfl (Nat.le_of_ble_eq_true rfl) ?_
      (repeat refine AW.seq_k fun K hK => ?_)
      refine AW.rgR [2,3] ?_
      simp [argsL]
      try (refine hK _ rfl ?_; clear hK; clear K)
      (repeat refine AW.seq_k fun K hK => ?_)
      refine AW.rg ?_
      simp [hl]
      try (refine hK _ rfl ?_; clear hK; clear K)
      refine AW.yes ?_ (by simp)
      (repeat refine AW.seq_k fun K hK => ?_)
      refine AW.rg ?_
      simp
      try (refine hK _ rfl ?_; clear hK; clear K)
      exact AW.ret (ret_views (vs := [.bool false]) [.bool false] (by simp) (by simp) ⟨⟨false, rfl, by simp; intro h; exact hl (by rw [h])⟩, rfl⟩)
  · refine acall_S Tryz.func62 rfl rfl 38 rfl (Nat.le_of_ble_eq_true rfl) ?_
    (repeat refine AW.seq_k fun K hK => ?_)
    refine AW.rgR [2,3] ?_
    simp [argsL]
    try (refine hK _ rfl ?_; clear hK; clear K)
    (repeat refine AW.seq_k fun K hK => ?_)
    refine AW.rg ?_
    simp [hn]
    try (refine hK _ rfl ?_; clear hK; clear K)
    refine AW.yes ?_ (by simp)
    (repeat refine AW.seq_k fun K hK => ?_)
    refine AW.rg ?_
    simp
    try (refine hK _ rfl ?_; clear hK; clear K)
    exact AW.ret (ret_views (vs := [.bool false]) [.bool false] (by simp) (by simp) ⟨⟨false, rfl, by simp [hn]⟩, rfl⟩)
def shortR (a : RR) : Prop := a.l1.length < 2^40 ∧ a.l2.length < 2^40
theorem same_call (a b : RR) (h : shortR a) : ACall Tryz.prog 26 [a.av, b.av] Mem.emp fun v m => saysEq (a = b) v ∧ m = Mem.emp := by
  have i1 := ints2_call a.n1 b.n1 a.l1 b.l1 h.1
  have i2 := ints2_call a.n2 b.n2 a.l2 b.l2 h.2
  have hab : a = b ↔ (a.n1 = b.n1 ∧ a.l1 = b.l1) ∧ (a.n2 = b.n2 ∧ a.l2 = b.l2) := by
    obtain ⟨x1, x2, x3, x4⟩ := a
    obtain ⟨y1, y2, y3, y4⟩ := b
    simp only [RR.mk.injEq, and_assoc]
  unfold RR.av
  refine acall_S Tryz.func26 rfl rfl 17 rfl (Nat.le_of_ble_eq_true rfl) ?_
  (repeat refine AW.seq_k fun K hK => ?_)
  refine AW.rgR [2,3] ?_
  simp [argsL]
  try (refine hK _ rfl ?_; clear hK; clear K)
  (repeat refine AW.seq_k fun K hK => ?_)
  refine AW.rg ?_
  simp
  try (refine hK _ rfl ?_; clear hK; clear K)
  refine CallK.pure i1 ?_
  rintro _ ⟨t1, rfl, h1⟩
  simp
  cases t1
  · simp
    refine hK _ rfl ?_
    clear hK
    clear K
    exact AW.ret (ret_views (vs := [.bool false]) [.bool false] (by simp) (by simp) ⟨⟨false, rfl, by simp only [Bool.false_eq_true, false_iff]; intro h; have := h1.2 (hab.1 h).1; cases this⟩, rfl⟩)
  · simp
    refine CallK.pure i2 ?_
    rintro _ ⟨t2, rfl, h2⟩
    simp
    refine hK _ rfl ?_
    clear hK
    clear K
    exact AW.ret (ret_views (vs := [.bool t2]) [.bool t2] (by simp) (by simp) ⟨⟨t2, rfl, by rw [h2, hab]; exact ⟨fun h => ⟨h1.1 rfl, h⟩, fun h => h.2⟩⟩, rfl⟩)
theorem list_ext_rr {a b : List RR} (h : a.length = b.length) (he : ∀ k, k < a.length → rr a k = rr b k) : a = b := by
  refine List.ext_getElem h fun k h1 h2 => ?_
  have := he k h1
  rwa [rr_eq h1, rr_eq h2] at this
theorem list_ext_row {α : Type} {a b : List (List α)} (h : a.length = b.length) (he : ∀ k, k < a.length → mrow a k = mrow b k) : a = b := by
  refine List.ext_getElem h fun k h1 h2 => ?_
  have := he k h1
  rwa [mrow_eq h1, mrow_eq h2] at this
theorem row_call (a b : List RR) (h : ∀ x ∈ a, shortR x) (hl : a.length < 2^40) : ACall Tryz.prog 44 [rowAV a, rowAV b] Mem.emp fun v m => saysEq (a = b) v ∧ m = Mem.emp := by
  by_cases hab : a.length = b.length
  · refine acall_S Tryz.func44 rfl rfl 27 rfl (Nat.le_of_ble_eq_true rfl) ?_
    (repeat refine AW.seq_k fun K hK => ?_)
    refine AW.rg ?_
    simp [argsL]
    try (refine hK _ rfl ?_; clear hK; clear K)
    (repeat refine AW.seq_k fun K hK => ?_)
    refine AW.rg ?_
    simp
    try (refine hK _ rfl ?_; clear hK; clear K)
    refine AW.no ?_ (by simp [hab])
    refine AW.skip ?_
    try simp
    refine hK _ rfl ?_
    clear hK
    clear K
    refine AW.seq_ex (ι := Unit) (fun _ => []) (fun _ => Mem.emp) (fun _ => a = b) ?_ ?_
    · (repeat refine AW.seq_k fun K hK => ?_)
      refine AW.rg ?_
      simp
      try (refine hK _ rfl ?_; clear hK; clear K)
      refine AW.block (AW.loopS (ι := Nat) (fun i => [(0, rowAV a), (1, rowAV b), (5, .int .i64 (i : Nat))]) (fun _ => Mem.emp) (fun i => i ≤ a.length ∧ ∀ k, k < i → rr a k = rr b k) (fun i => a.length - i) 0 ⟨by simp, by simp⟩ rfl (by simp) ?_)
      rintro i ⟨g1, g2⟩
      (repeat refine AW.seq_k fun K hK => ?_)
      refine AW.rg ?_
      simp
      try (refine hK _ rfl ?_; clear hK; clear K)
      (repeat refine AW.seq ?_)
      refine AW.cs (fun hi => ?_) (fun hi => ?_) rfl <;> (try simp at hi)
      · refine AW.skip ?_
        try simp
        refine hK _ rfl ?_
        clear hK
        clear K
        have hi2 : i < b.length := by omega
        have w1 : IntKind.i64.wrap ((i + 1 : Nat) : Int) = ((i + 1 : Nat) : Int) := wi (by omega)
        have hs := same_call (rr a i) (rr b i) (h _ (by rw [rr_eq hi]; exact List.getElem_mem hi))
        refine AW.seq_ex (ι := Unit) (fun _ => [(0, rowAV a), (1, rowAV b), (5, .int .i64 (i : Nat))]) (fun _ => Mem.emp) (fun _ => rr a i = rr b i) ?_ ?_
        · (repeat refine AW.seq ?_)
          refine AW.block ?_
          (repeat refine AW.seq_k fun K hK => ?_)
          refine AW.rd [0, 1, 2, 3, 4, 5, 6, 7, 8, 9] mix ?_
          simp [hi, hi2]
          try (refine hK _ rfl ?_; clear hK; clear K)
          refine CallK.pure hs ?_
          rintro _ ⟨t, rfl, ht⟩
          simp
          refine hK _ rfl ?_
          clear hK
          clear K
          cases t
          · refine AW.yes ?_ rfl
            (repeat refine AW.seq_k fun K hK => ?_)
            refine AW.rg ?_
            simp
            try (refine hK _ rfl ?_; clear hK; clear K)
            exact AW.ret (ret_views (vs := [.bool false]) [.bool false] (by simp) (by simp) ⟨⟨false, rfl, by simp only [Bool.false_eq_true, false_iff]; intro h; have := ht.2 (by rw [h]); cases this⟩, rfl⟩)
          · refine AW.no ?_ rfl
            exact AW.skip ⟨(), ht.1 rfl, by simp⟩
        rintro _ h0
        (repeat refine AW.seq_k fun K hK => ?_)
        refine AW.rg ?_
        simp [-Int.natCast_add, w1]
        try (refine hK _ rfl ?_; clear hK; clear K)
        refine ⟨⟨hi, fun k hk => ?_⟩, by omega⟩
        rcases Nat.lt_succ_iff_lt_or_eq.1 hk with h | rfl
        · exact g2 k h
        · exact h0
      · refine AW.exit ?_
        try simp
        exact list_ext_rr hab fun k hk => g2 k (by omega)
    rintro _ rfl
    (repeat refine AW.seq_k fun K hK => ?_)
    refine AW.rg ?_
    simp
    try (refine hK _ rfl ?_; clear hK; clear K)
    exact AW.ret (ret_views (vs := [.bool true]) [.bool true] (by simp) (by simp) ⟨⟨true, rfl, by simp⟩, rfl⟩)
  · refine acall_S Tryz.func44 rfl rfl 27 rfl (Nat.le_of_ble_eq_true rfl) ?_
    (repeat refine AW.seq_k fun K hK => ?_)
    refine AW.rg ?_
    simp [argsL]
    try (refine hK _ rfl ?_; clear hK; clear K)
    (repeat refine AW.seq_k fun K hK => ?_)
    refine AW.rg ?_
    simp
    try (refine hK _ rfl ?_; clear hK; clear K)
    refine AW.yes ?_ (by simp [hab])
    (repeat refine AW.seq_k fun K hK => ?_)
    refine AW.rg ?_
    simp
    try (refine hK _ rfl ?_; clear hK; clear K)
    exact AW.ret (ret_views (vs := [.bool false]) [.bool false] (by simp) (by simp) ⟨⟨false, rfl, by simp; intro h; exact hab (by rw [h])⟩, rfl⟩)
theorem rows_call (a b : List (List RR)) (h : ∀ r ∈ a, ∀ x ∈ r, shortR x) (hl : a.length < 2^40) (hr : ∀ r ∈ a, r.length < 2^40) : ACall Tryz.prog 21 [matAV a, matAV b] Mem.emp fun v m => saysEq (a = b) v ∧ m = Mem.emp := by
  by_cases hab : a.length = b.length
  · refine acall_S Tryz.func21 rfl rfl 27 rfl (Nat.le_of_ble_eq_true rfl) ?_
    (repeat refine AW.seq_k fun K hK => ?_)
    refine AW.rg ?_
    simp [argsL]
    try (refine hK _ rfl ?_; clear hK; clear K)
    (repeat refine AW.seq_k fun K hK => ?_)
    refine AW.rg ?_
    simp
    try (refine hK _ rfl ?_; clear hK; clear K)
    refine AW.no ?_ (by simp [hab])
    refine AW.skip ?_
    try simp
    refine hK _ rfl ?_
    clear hK
    clear K
    refine AW.seq_ex (ι := Unit) (fun _ => []) (fun _ => Mem.emp) (fun _ => a = b) ?_ ?_
    · (repeat refine AW.seq_k fun K hK => ?_)
      refine AW.rg ?_
      simp
      try (refine hK _ rfl ?_; clear hK; clear K)
      refine AW.block (AW.loopS (ι := Nat) (fun i => [(0, matAV a), (1, matAV b), (5, .int .i64 (i : Nat))]) (fun _ => Mem.emp) (fun i => i ≤ a.length ∧ ∀ k, k < i → mrow a k = mrow b k) (fun i => a.length - i) 0 ⟨by simp, by simp⟩ rfl (by simp) ?_)
      rintro i ⟨g1, g2⟩
      (repeat refine AW.seq_k fun K hK => ?_)
      refine AW.rg ?_
      simp
      try (refine hK _ rfl ?_; clear hK; clear K)
      (repeat refine AW.seq ?_)
      refine AW.cs (fun hi => ?_) (fun hi => ?_) rfl <;> (try simp at hi)
      · refine AW.skip ?_
        try simp
        refine hK _ rfl ?_
        clear hK
        clear K
        have hi2 : i < b.length := by omega
        have w1 : IntKind.i64.wrap ((i + 1 : Nat) : Int) = ((i + 1 : Nat) : Int) := wi (by omega)
        have hm : mrow a i ∈ a := by rw [mrow_eq hi]; exact List.getElem_mem hi
        have hs := row_call (mrow a i) (mrow b i) (h _ hm) (hr _ hm)
        refine AW.seq_ex (ι := Unit) (fun _ => [(0, matAV a), (1, matAV b), (5, .int .i64 (i : Nat))]) (fun _ => Mem.emp) (fun _ => mrow a i = mrow b i) ?_ ?_
        · (repeat refine AW.seq ?_)
          refine AW.block ?_
          (repeat refine AW.seq_k fun K hK => ?_)
          refine AW.rd [0, 1, 2, 3, 4, 5, 6, 7, 8, 9] mix ?_
          simp [hi, hi2]
          try (refine hK _ rfl ?_; clear hK; clear K)
          refine CallK.pure hs ?_
          rintro _ ⟨t, rfl, ht⟩
          simp
          refine hK _ rfl ?_
          clear hK
          clear K
          cases t
          · refine AW.yes ?_ rfl
            (repeat refine AW.seq_k fun K hK => ?_)
            refine AW.rg ?_
            simp
            try (refine hK _ rfl ?_; clear hK; clear K)
            exact AW.ret (ret_views (vs := [.bool false]) [.bool false] (by simp) (by simp) ⟨⟨false, rfl, by simp only [Bool.false_eq_true, false_iff]; intro h; have := ht.2 (by rw [h]); cases this⟩, rfl⟩)
          · refine AW.no ?_ rfl
            exact AW.skip ⟨(), ht.1 rfl, by simp⟩
        rintro _ h0
        (repeat refine AW.seq_k fun K hK => ?_)
        refine AW.rg ?_
        simp [-Int.natCast_add, w1]
        try (refine hK _ rfl ?_; clear hK; clear K)
        refine ⟨⟨hi, fun k hk => ?_⟩, by omega⟩
        rcases Nat.lt_succ_iff_lt_or_eq.1 hk with h | rfl
        · exact g2 k h
        · exact h0
      · refine AW.exit ?_
        try simp
        exact list_ext_row hab fun k hk => g2 k (by omega)
    rintro _ rfl
    (repeat refine AW.seq_k fun K hK => ?_)
    refine AW.rg ?_
    simp
    try (refine hK _ rfl ?_; clear hK; clear K)
    exact AW.ret (ret_views (vs := [.bool true]) [.bool true] (by simp) (by simp) ⟨⟨true, rfl, by simp⟩, rfl⟩)
  · refine acall_S Tryz.func21 rfl rfl 27 rfl (Nat.le_of_ble_eq_true rfl) ?_
    (repeat refine AW.seq_k fun K hK => ?_)
    refine AW.rg ?_
    simp [argsL]
    try (refine hK _ rfl ?_; clear hK; clear K)
    (repeat refine AW.seq_k fun K hK => ?_)
    refine AW.rg ?_
    simp
    try (refine hK _ rfl ?_; clear hK; clear K)
    refine AW.yes ?_ (by simp [hab])
    (repeat refine AW.seq_k fun K hK => ?_)
    refine AW.rg ?_
    simp
    try (refine hK _ rfl ?_; clear hK; clear K)
    exact AW.ret (ret_views (vs := [.bool false]) [.bool false] (by simp) (by simp) ⟨⟨false, rfl, by simp; intro h; exact hab (by rw [h])⟩, rfl⟩)
theorem list_ext_d {a b : List Nat} (h : a.length = b.length) (he : ∀ k, k < a.length → a.getD k 0 = b.getD k 0) : a = b := list_ext_nth h he
theorem ints7_call (a b : List Nat) (hl : a.length < 2^40) : ACall Tryz.prog 22 [.sl 1 (ints a), .sl 1 (ints b)] Mem.emp fun v m => saysEq (a = b) v ∧ m = Mem.emp := by
  by_cases hab : a.length = b.length
  · refine acall_S Tryz.func22 rfl rfl 26 rfl (Nat.le_of_ble_eq_true rfl) ?_
    (repeat refine AW.seq_k fun K hK => ?_)
    refine AW.rg ?_
    simp [argsL]
    try (refine hK _ rfl ?_; clear hK; clear K)
    (repeat refine AW.seq_k fun K hK => ?_)
    refine AW.rg ?_
    simp
    try (refine hK _ rfl ?_; clear hK; clear K)
    refine AW.no ?_ (by simp [hab])
    refine AW.skip ?_
    try simp
    refine hK _ rfl ?_
    clear hK
    clear K
    refine AW.seq_ex (ι := Unit) (fun _ => []) (fun _ => Mem.emp) (fun _ => a = b) ?_ ?_
    · (repeat refine AW.seq_k fun K hK => ?_)
      refine AW.rg ?_
      simp
      try (refine hK _ rfl ?_; clear hK; clear K)
      refine AW.block (AW.loopS (ι := Nat) (fun i => [(0, .sl 1 (ints a)), (1, .sl 1 (ints b)), (5, .int .i64 (i : Nat))]) (fun _ => Mem.emp) (fun i => i ≤ a.length ∧ ∀ k, k < i → a.getD k 0 = b.getD k 0) (fun i => a.length - i) 0 ⟨by simp, by simp⟩ rfl (by simp) ?_)
      rintro i ⟨g1, g2⟩
      (repeat refine AW.seq_k fun K hK => ?_)
      refine AW.rg ?_
      simp
      try (refine hK _ rfl ?_; clear hK; clear K)
      (repeat refine AW.seq ?_)
      refine AW.cs (fun hi => ?_) (fun hi => ?_) rfl <;> (try simp at hi)
      · refine AW.skip ?_
        try simp
        refine hK _ rfl ?_
        clear hK
        clear K
        have hi2 : i < b.length := by omega
        have w1 : IntKind.i64.wrap ((i + 1 : Nat) : Int) = ((i + 1 : Nat) : Int) := wi (by omega)
        have e1 : a.getD i 0 = a[i] := by rw [List.getD_eq_getElem?_getD, List.getElem?_eq_getElem hi]; rfl
        have e2 : b.getD i 0 = b[i] := by rw [List.getD_eq_getElem?_getD, List.getElem?_eq_getElem hi2]; rfl
        refine AW.seq_ex (ι := Unit) (fun _ => [(0, .sl 1 (ints a)), (1, .sl 1 (ints b)), (5, .int .i64 (i : Nat))]) (fun _ => Mem.emp) (fun _ => a[i] = b[i]) ?_ ?_
        · (repeat refine AW.seq ?_)
          refine AW.block ?_
          (repeat refine AW.seq_k fun K hK => ?_)
          refine AW.rd [0, 1, 2, 3, 4, 5, 6, 7, 8] mix ?_
          simp [hi, hi2]
          try (refine hK _ rfl ?_; clear hK; clear K)
          by_cases h0 : a[i] = b[i]
          · refine AW.no ?_ (by simp [h0])
            exact AW.skip ⟨(), h0, by simp⟩
          · refine AW.yes ?_ (by simp [h0])
            (repeat refine AW.seq_k fun K hK => ?_)
            refine AW.rg ?_
            simp
            try (refine hK _ rfl ?_; clear hK; clear K)
            exact AW.ret (ret_views (vs := [.bool false]) [.bool false] (by simp) (by simp) ⟨⟨false, rfl, by simp only [Bool.false_eq_true, false_iff]; intro h; exact h0 (by simp [h])⟩, rfl⟩)
        rintro _ h0
        (repeat refine AW.seq_k fun K hK => ?_)
        refine AW.rg ?_
        simp [-Int.natCast_add, w1]
        try (refine hK _ rfl ?_; clear hK; clear K)
        refine ⟨⟨hi, fun k hk => ?_⟩, by omega⟩
        rcases Nat.lt_succ_iff_lt_or_eq.1 hk with h | rfl
        · exact g2 k h
        · rw [← List.getD_eq_getElem?_getD, ← List.getD_eq_getElem?_getD, e1, e2]; exact h0
      · refine AW.exit ?_
        try simp
        exact list_ext_d hab fun k hk => g2 k (by omega)
    rintro _ rfl
    (repeat refine AW.seq_k fun K hK => ?_)
    refine AW.rg ?_
    simp
    try (refine hK _ rfl ?_; clear hK; clear K)
    exact AW.ret (ret_views (vs := [.bool true]) [.bool true] (by simp) (by simp) ⟨⟨true, rfl, by simp⟩, rfl⟩)
  · refine acall_S Tryz.func22 rfl rfl 26 rfl (Nat.le_of_ble_eq_true rfl) ?_
    (repeat refine AW.seq_k fun K hK => ?_)
    refine AW.rg ?_
    simp [argsL]
    try (refine hK _ rfl ?_; clear hK; clear K)
    (repeat refine AW.seq_k fun K hK => ?_)
    refine AW.rg ?_
    simp
    try (refine hK _ rfl ?_; clear hK; clear K)
    refine AW.yes ?_ (by simp [hab])
    (repeat refine AW.seq_k fun K hK => ?_)
    refine AW.rg ?_
    simp
    try (refine hK _ rfl ?_; clear hK; clear K)
    exact AW.ret (ret_views (vs := [.bool false]) [.bool false] (by simp) (by simp) ⟨⟨false, rfl, by simp; intro h; exact hab (by rw [h])⟩, rfl⟩)
end Go.Av
end
section
namespace Go.Av
open Go.Proofs
theorem wholeW_call (n : Int) (h1 : -9223372036854775808 ≤ n) (h2 : n < 9223372036854775808) : ACall Tryz.prog 37 [.int .i64 n] Mem.emp fun v m => v = (ofQ (intQ n)).av ∧ m = Mem.emp := by
  have ho := of2_call n 1 h1 h2 (by omega) (by omega) (by omega)
  have e : Rat.divInt n 1 = intQ n := rfl
  rw [e, resQ] at ho
  generalize intQ n = q at *
  unfold qAV at ho
  unfold RR.av ofQ
  simp only
  refine acall_S Tryz.func37 rfl rfl 11 rfl (Nat.le_of_ble_eq_true rfl) ?_
  (repeat refine AW.seq_k fun K hK => ?_)
  refine AW.rg ?_
  simp [argsL]
  try (refine hK _ rfl ?_; clear hK; clear K)
  refine Fresh.intro fun b2 hb2 => ?_
  refine hK _ rfl ?_
  clear hK
  clear K
  (repeat refine AW.seq_k fun K hK => ?_)
  refine AW.rg ?_
  simp
  try (refine hK _ rfl ?_; clear hK; clear K)
  refine CallK.val ho ?_
  simp
  refine Fresh.intro fun b3 hb3 => ?_
  simp only [set_none2, emp_at, and_true] at hb3
  try simp [hb3]
  refine hK _ rfl ?_
  clear hK
  clear K
  (repeat refine AW.seq_k fun K hK => ?_)
  refine AW.rg ?_
  simp [hb3]
  try (refine hK _ rfl ?_; clear hK; clear K)
  exact AW.ret (ret_views (vs := [.agg [.bool (decide (q.num < 0)), lim (dig q.num.natAbs), .bool false, lim (dig q.den)]]) [.agg [.bool (decide (q.num < 0)), lim (dig q.num.natAbs), .bool false, lim (dig q.den)]] (by simp [hb3]) (by simp) ⟨rfl, rfl⟩)
end Go.Av
end
section
namespace Go.Av
open Go.Proofs
theorem unq_emb (X : List (List Rat)) : unq (emb X) = X := by
  unfold unq emb
  rw [List.map_map]
  conv => rhs; rw [← List.map_id X]
  refine List.map_congr_left fun r _ => ?_
  show (r.map ofQ).map RR.q = r
  rw [List.map_map]
  conv => rhs; rw [← List.map_id r]
  exact List.map_congr_left fun q _ => ofQ_q q
theorem chk_good {n w : Nat} {X : List (List Rat)} (h : matGood n w X) (hw : (mrow X 0).length = w) (h1 : n ≤ 64) (h2 : w ≤ 64) : chk (emb X) = 0 := by
  refine chk_ok ?_ ?_
  · rintro (h' | ⟨k, hk, h'⟩)
    · rw [emb_length, h.2.2] at h'; omega
    · rw [emb_length, h.2.2] at hk
      rw [emb_row, List.length_map, (h.row hk).2] at h'; omega
  · intro k hk
    rw [emb_length, h.2.2] at hk
    rw [emb_row, emb_row, List.length_map, List.length_map, (h.row hk).2, hw]
    refine ⟨rfl, fun j hj => ?_⟩
    have hjl : j < (mrow X k).length := by rw [(h.row hk).2]; exact hj
    rw [rr_map hjl]
    exact ofQ_ok ((h.row hk).1.at hjl)
def exK : List (List Rat) := [[intQ 0, intQ 2, intQ 4], [intQ 1, intQ 1, intQ 1]]
def exD : List (List Rat) := [[intQ 1, intQ 2], [intQ 3, intQ 4]]
def exS : List (List Rat) := [[intQ 1, intQ 2], [intQ 2, intQ 1]]
theorem exK_good : matGood 2 3 exK := ⟨by unfold GoodM Good; decide +kernel, by unfold dimM; decide +kernel, rfl⟩
theorem exD_good : matGood 2 2 exD := ⟨by unfold GoodM Good; decide +kernel, by unfold dimM; decide +kernel, rfl⟩
theorem exS_good : matGood 2 2 exS := ⟨by unfold GoodM Good; decide +kernel, by unfold dimM; decide +kernel, rfl⟩
theorem exK_red : reduceQ exK = some ([[intQ 1, intQ 0, intQ (-1)], [intQ 0, intQ 1, intQ 2]], [0, 1]) := by decide +kernel
theorem exK_ker : kerP [[intQ 1, intQ 0, intQ (-1)], [intQ 0, intQ 1, intQ 2]] [0, 1] 3 3 = [[intQ 1, intQ (-2), intQ 1]] := by decide +kernel
theorem exK_R : kerR (emb exK) = (0, [[intQ 1, intQ (-2), intQ 1]]) := by
  have hc := chk_good exK_good rfl (by omega) (by omega)
  have hr : redR (emb exK) = (0, [[intQ 1, intQ 0, intQ (-1)], [intQ 0, intQ 1, intQ 2]], [0, 1]) := by
    unfold redR
    rw [if_neg (by simp [hc]), unq_emb, exK_red]
  unfold kerR
  rw [hr, if_neg (by simp)]
  exact congrArg _ exK_ker
theorem exD_det : detQ 2 exD = some (intQ (-2)) := by decide +kernel
theorem exD_R : detR (emb exD) = (0, ofQ (intQ (-2))) := by
  have hc := chk_good exD_good rfl (by omega) (by omega)
  unfold detR
  rw [if_neg (by simp [hc]), unq_emb, if_neg (by simp [emb, exD, mrow]), show (emb exD).length = 2 from rfl, exD_det]
theorem exS_sq : sqIter 2 exS 2 = .vec [intQ (-2), intQ 1] := by
  have : (match sqIter 2 exS 2 with | .vec v => decide (v = [intQ (-2), intQ 1]) | _ => false) = true := by decide +kernel
  revert this
  cases sqIter 2 exS 2 <;> simp
theorem exS_R : sqR (emb exS) = ⟨0, [], [], [intQ (-2), intQ 1]⟩ := by
  have hc := chk_good exS_good rfl (by omega) (by omega)
  unfold sqR
  rw [if_neg (by simp [hc]), unq_emb, show (emb exS).length = 2 from rfl, if_pos ⟨rfl, by unfold symm; decide +kernel⟩, exS_sq]
  rfl
set_option maxHeartbeats 1000000
theorem works_call : ACall Tryz.prog 16 [] Mem.emp fun v m => v = .bool true ∧ m = Mem.emp := by
  have hw := fun (n : Int) (h1 : -9223372036854775808 ≤ n) (h2 : n < 9223372036854775808) => wholeW_call n h1 h2
  have hk := kernelL_call (emb exK) (lb_emb _)
  rw [exK_R] at hk
  have hd := detL_call (emb exD) (lb_emb _)
  rw [exD_R] at hd
  have hs := squaresL_call (emb exS) (lb_emb _)
  rw [exS_R] at hs
  have sh : ∀ q, Good q → shortR (ofQ q) := fun q h => short_good h
  have g1 : Good (intQ 1) := intQ_good (by decide)
  have g2 : Good (intQ (-2)) := intQ_good (by decide)
  have hrows := rows_call (emb [[intQ 1, intQ (-2), intQ 1]]) (emb [[intQ 1, intQ (-2), intQ 1]]) (by
    intro r hr x hx
    simp [emb] at hr
    subst hr
    simp at hx
    rcases hx with rfl | rfl | rfl
    · exact sh _ g1
    · exact sh _ g2
    · exact sh _ g1) (by decide) (by
    intro r hr
    simp [emb] at hr
    subst hr
    decide)
  have hrow := row_call ([intQ (-2), intQ 1].map ofQ) ([intQ (-2), intQ 1].map ofQ) (by
    intro x hx
    simp at hx
    rcases hx with rfl | rfl
    · exact sh _ g2
    · exact sh _ g1) (by decide)
  have hsame := same_call (ofQ (intQ (-2))) (ofQ (intQ (-2))) (sh _ g2)
  refine acall_S Tryz.func16 rfl rfl 79 rfl (Nat.le_of_ble_eq_true rfl) ?_
  (repeat refine AW.seq_k fun K hK => ?_)
  refine AW.rg ?_
  simp [argsL]
  try (refine hK _ rfl ?_; clear hK; clear K)
  (repeat refine AW.seq_k fun K hK => ?_)
  refine AW.rgR [13,17,18] ?_
  simp
  try (refine hK _ rfl ?_; clear hK; clear K)
  refine CallK.val (hw 0 (by omega) (by omega)) ?_
  simp
  refine CallK.val (hw 2 (by omega) (by omega)) ?_
  simp
  refine CallK.val (hw 4 (by omega) (by omega)) ?_
  simp
  refine CallK.val (hw 1 (by omega) (by omega)) ?_
  simp
  refine CallK.val (hw 1 (by omega) (by omega)) ?_
  simp
  refine CallK.val (hw 1 (by omega) (by omega)) ?_
  simp
  refine hK _ rfl ?_
  clear hK
  clear K
  (repeat refine AW.seq_k fun K hK => ?_)
  refine AW.rg ?_
  simp
  try (refine hK _ rfl ?_; clear hK; clear K)
  refine CallK.val hk ?_
  simp
  refine hK _ rfl ?_
  clear hK
  clear K
  (repeat refine AW.seq_k fun K hK => ?_)
  refine AW.rgR [27,30,31] ?_
  simp
  try (refine hK _ rfl ?_; clear hK; clear K)
  refine CallK.val (hw 1 (by omega) (by omega)) ?_
  simp
  refine CallK.val (hw 2 (by omega) (by omega)) ?_
  simp
  refine CallK.val (hw 3 (by omega) (by omega)) ?_
  simp
  refine CallK.val (hw 4 (by omega) (by omega)) ?_
  simp
  refine CallK.val hd ?_
  simp
  refine Fresh.intro fun b4 _ => ?_
  refine hK _ rfl ?_
  clear hK
  clear K
  refine AW.toEmp [(2, matAV (emb [[intQ 1, intQ (-2), intQ 1]])), (3, .int .i64 0), (4, .rptr [.bool (ofQ (intQ (-2))).n1, lim (ofQ (intQ (-2))).l1, .bool (ofQ (intQ (-2))).n2, lim (ofQ (intQ (-2))).l2]), (5, .int .i64 0)] (by simp; exact view_temp rfl) ?_
  (repeat refine AW.seq_k fun K hK => ?_)
  refine AW.rgR [38,41,42] ?_
  simp
  try (refine hK _ rfl ?_; clear hK; clear K)
  refine CallK.val (hw 1 (by omega) (by omega)) ?_
  simp
  refine CallK.val (hw 2 (by omega) (by omega)) ?_
  simp
  refine CallK.val (hw 2 (by omega) (by omega)) ?_
  simp
  refine CallK.val (hw 1 (by omega) (by omega)) ?_
  simp
  refine CallK.val hs ?_
  simp [sqAV]
  refine hK _ rfl ?_
  clear hK
  clear K
  have yes : ∀ {p : Prop} {v : AV} {m : Mem}, p → saysEq p v ∧ m = Mem.emp → v = .bool true ∧ m = Mem.emp := by
    rintro p v m hp ⟨⟨t, rfl, h⟩, h2⟩
    exact ⟨by rw [h.2 hp], h2⟩
  replace hrows := hrows.mono fun v m h => yes rfl h
  replace hrow := hrow.mono fun v m h => yes rfl h
  replace hsame := hsame.mono fun v m h => yes rfl h
  refine AW.seq_k fun K hK => ?_
  refine AW.rdR [55, 56, 76] [0,1,2,3,4,5,6,7,8,9,10,11,12,13,14,15,16,17,18,19,20,21,22,23,24,25,26,27,28,29,30,31] mix ?_
  simp
  refine CallK.val (hw 1 (by omega) (by omega)) ?_
  simp
  refine CallK.val (hw (-2) (by omega) (by omega)) ?_
  simp
  refine CallK.val (hw 1 (by omega) (by omega)) ?_
  simp
  refine CallK.val hrows ?_
  simp
  refine CallK.val (hw (-2) (by omega) (by omega)) ?_
  simp
  refine CallK.val hsame ?_
  simp
  refine CallK.val (hw (-2) (by omega) (by omega)) ?_
  simp
  refine CallK.val (hw 1 (by omega) (by omega)) ?_
  simp
  refine CallK.val hrow ?_
  simp
  refine hK _ rfl ?_
  clear hK
  clear K
  exact AW.ret (ret_views (vs := [.bool true]) [.bool true] (by simp) (by simp) ⟨rfl, rfl⟩)
end Go.Av
end
section
namespace Go.Av
open Go.Proofs
def pivI (o : Option Nat) : Int := match o with
  | some i => i
  | none => -1
end Go.Av
end
section
namespace Go.Av
open Go.Proofs
def twoM (bi br : Nat) (a b : List Rat) : Mem := (Mem.emp.set bi ⟨36, 4, rrs (a.map ofQ)⟩).set br ⟨36, 4, rrs (b.map ofQ)⟩
def subOut (bi br : Nat) (by_ : List Rat) (X : Option (List Rat)) (v : AV) (M : Mem) : Prop :=
  match X with
  | some row => v = .int .i64 0 ∧ M = twoM bi br row by_
  | none => v = .int .i64 2 ∧ OnesM M ∧ ∀ b, M b ≠ none → b = bi ∨ b = br
end Go.Av
end
section
namespace Go.Av
open Go.Proofs
/-- A matrix of the reference in memory. -/
def RefM (M : Mem) (B : Nat) (bs : List Nat) (X : List (List Rat)) : Prop := MatM M B bs (emb X) ∧ OnlyM M (B :: bs)
theorem RefM.ones {M : Mem} {B : Nat} {bs : List Nat} {X : List (List Rat)} (h : RefM M B bs X) : OnesM M := h.1.ones (l := []) h.2 (by simp)
theorem RefM.setRow {M : Mem} {B : Nat} {bs : List Nat} {X : List (List Rat)} (h : RefM M B bs X) {i : Nat} (hi : i < X.length) {r : List Rat} (hr : r.length = (mrow X i).length) : RefM (M.set (nb bs i) ⟨36, 4, rrs (r.map ofQ)⟩) B bs (X.set i r) := by
  refine ⟨?_, h.2.set ?_ _⟩
  · rw [emb_set]
    exact h.1.setRow (by rw [emb_length]; exact hi) _ (by rw [emb_row, List.length_map, List.length_map, hr])
  · exact List.mem_cons_of_mem _ (nb_mem (by rw [h.1.len, emb_length]; exact hi))
def clearOut (B : Nat) (bs : List Nat) (Z : Option (List (List Rat))) (v : AV) (M : Mem) : Prop :=
  match Z with
  | some Y => v = .int .i64 0 ∧ RefM M B bs Y
  | none => v = .int .i64 2 ∧ OnesM M
set_option maxHeartbeats 1000000
end Go.Av
end
section
namespace Go.Av
open Go.Proofs
/-- A matrix whose rows are appended one after the other. -/
def CopM (M : Mem) (ov : AV) (bs : List Nat) (rows : List (List RR)) : Prop :=
  (rows = [] ∧ bs = [] ∧ ov = .nil ∧ M = Mem.emp) ∨ ∃ B, ov = .osl B 1 0 rows.length ∧ MatM M B bs rows ∧ OnlyM M (B :: bs)
end Go.Av
end
section
namespace Go.Av
open Go.Proofs
structure RefP (M : Mem) (B : Nat) (bs : List Nat) (X : List (List Rat)) (pv : AV) (pb ps : List Nat) : Prop where
  mat : MatM M B bs (emb X)
  piv : PivV M pv pb ps
  npb : ∀ b ∈ pb, b ∉ B :: bs
  ones : OnesM M
section
variable {M : Mem} {B : Nat} {bs : List Nat} {X : List (List Rat)} {pv : AV} {pb ps : List Nat}
theorem RefP.back (h : RefP M B bs X pv pb ps) {g : Mem} {X' : List (List Rat)} (hg : RefM g B bs X') : RefP (M.back (B :: bs) g) B bs X' pv pb ps :=
  ⟨hg.1.back _, h.piv.keep fun b hb => back_out (hg.2.none (h.npb b hb)) (h.npb b hb), h.npb, back_ones h.ones hg.ones⟩
theorem RefP.swap (h : RefP M B bs X pv pb ps) {i r : Nat} (hi : i < X.length) (hr : r < X.length) :
    RefP (M.set B ⟨42, 1, ((hdrs bs (emb X)).set i (.osl (nb bs r) 4 0 (mrow (emb X) r).length)).set r (.osl (nb bs i) 4 0 (mrow (emb X) i).length)⟩) B (swapB bs i r) (swapL X i r) pv pb ps := by
  have hiE : i < (emb X).length := by rw [emb_length]; exact hi
  have hrE : r < (emb X).length := by rw [emb_length]; exact hr
  have hb : ∀ b, b ∈ swapB bs i r ↔ b ∈ bs := fun b => swapB_mem (by rw [h.mat.len]; exact hiE) (by rw [h.mat.len]; exact hrE) b
  refine ⟨by rw [emb_swap]; exact h.mat.swap hiE hrE, h.piv.keep fun b hb' => ?_, fun b hb' => ?_, OnesM.set h.ones B fun v hv => ?_⟩
  · simp only [set_at]; rw [if_neg (by rintro rfl; exact h.npb _ hb' (by simp))]
  · have := h.npb b hb'; simpa [hb] using this
  · rcases List.mem_or_eq_of_mem_set hv with hv | rfl
    · rcases List.mem_or_eq_of_mem_set hv with hv | rfl
      · exact hdrs_ones bs (emb X) v hv
      · rfl
    · rfl
theorem RefP.fresh (h : RefP M B bs X pv pb ps) {b : Nat} (hb : M b = none) : b ∉ B :: bs := by
  intro hm
  rcases List.mem_cons.1 hm with rfl | hm
  · rw [h.mat.top] at hb; cases hb
  · obtain ⟨k, hk, e⟩ := List.mem_iff_getElem.1 hm
    rw [← nb_eq hk] at e
    have := h.mat.row k (by rw [← h.mat.len]; exact hk)
    rw [e, hb] at this; cases this
theorem RefP.push0 (h : RefP M B bs X .nil [] []) {b : Nat} (hb : M b = none) (j : Nat) : RefP (M.set b ⟨3, 1, [.int .i64 (j : Nat)]⟩) B bs X (.osl b 1 0 1) [b] [j] := by
  have hn := h.fresh hb
  have h1 : b ≠ B := fun e => hn (by simp [e])
  have h2 : b ∉ bs := fun e => hn (by simp [e])
  exact ⟨h.mat.other h1 h2 _, .inr ⟨b, rfl, rfl, by simp [ints]⟩, fun a ha => by simp at ha; subst ha; exact hn, h.ones.set b fun v hv => by simp at hv; subst hv; rfl⟩
theorem RefP.push1 {b0 : Nat} (h : RefP M B bs X (.osl b0 1 0 ps.length) [b0] ps) {b : Nat} (hb : (M.del b0) b = none) (j : Nat) : RefP ((M.del b0).set b ⟨3, 1, ints ps ++ [.int .i64 (j : Nat)]⟩) B bs X (.osl b 1 0 (ps.length + 1)) [b] (ps ++ [j]) := by
  have h0 := h.npb b0 (by simp)
  have hh : RefP (M.del b0) B bs X .nil [] [] := by
    have hdel : ∀ a, a ≠ b0 → (M.del b0) a = M a := fun a ha => if_neg ha
    refine ⟨⟨by rw [hdel B (by rintro rfl; exact h0 (by simp))]; exact h.mat.top, h.mat.len, fun i hi => ?_, h.mat.nd, h.mat.nB⟩, .inl ⟨rfl, rfl, rfl⟩, by simp, h.ones.del b0⟩
    rw [hdel _ (fun e => h0 (e ▸ List.mem_cons_of_mem _ (nb_mem (by rw [h.mat.len]; exact hi))))]
    exact h.mat.row i hi
  have hn := hh.fresh hb
  have h1 : b ≠ B := fun e => hn (by simp [e])
  have h2 : b ∉ bs := fun e => hn (by simp [e])
  refine ⟨hh.mat.other h1 h2 _, .inr ⟨b, rfl, by simp, by simp [ints_snoc]⟩, fun a ha => by simp at ha; subst ha; exact hn, hh.ones.set b fun v hv => ?_⟩
  rcases List.mem_append.1 hv with hv | hv
  · exact ints_one ps v hv
  · simp at hv; subst hv; rfl
end
structure RefS where
  X : List (List Rat)
  ps : List Nat
  M : Mem
  bs : List Nat
  pv : AV
  pb : List Nat
def InvQ (X0 : List (List Rat)) (B w j : Nat) (s : RefS) : Prop :=
  iterO colStep j (X0, []) = some (s.X, s.ps) ∧ matGood X0.length w s.X ∧ s.ps.length ≤ X0.length ∧ RefP s.M B s.bs s.X s.pv s.pb s.ps
set_option maxHeartbeats 1000000
end Go.Av
end
section
namespace Go.Av
open Go.Proofs
theorem rows_same {X : List (List Rat)} {n w : Nat} (h : matGood n w X) (hn : n ≤ 64) (hw : w ≤ 64) : ACall Tryz.prog 21 [matAV (emb X), matAV (emb X)] Mem.emp fun v m => v = .bool true ∧ m = Mem.emp := by
  refine (rows_call (emb X) (emb X) (short_emb h.1) (by rw [emb_length, h.2.2]; omega) (fun r hr => ?_)).mono ?_
  · obtain ⟨i, hi, rfl⟩ := mem_row hr
    rw [emb_length, h.2.2] at hi
    rw [emb_row, List.length_map, (h.row hi).2]; omega
  · rintro v m ⟨⟨t, rfl, ht⟩, h2⟩
    exact ⟨by rw [ht.2 rfl], h2⟩
theorem ints_same (l : List Nat) (h : l.length ≤ 64) : ACall Tryz.prog 22 [.sl 1 (ints l), .sl 1 (ints l)] Mem.emp fun v m => v = .bool true ∧ m = Mem.emp := by
  refine (ints7_call l l (by omega)).mono ?_
  rintro v m ⟨⟨t, rfl, ht⟩, h2⟩
  exact ⟨by rw [ht.2 rfl], h2⟩
end Go.Av
end
section
namespace Go.Av
open Go.Proofs
theorem ty22 : Tryz.prog.underlying 22 = some (.slice 42) := by kernel_rfl
theorem ty42 : Tryz.prog.underlying 42 = some (.slice 36) := by kernel_rfl
theorem ty32 : Tryz.prog.underlying 32 = some (.slice 87) := by kernel_rfl
theorem ty87 : Tryz.prog.underlying 87 = some (.int .u32) := by kernel_rfl
theorem ty4 : Tryz.prog.underlying 4 = some .bool := by kernel_rfl
theorem cl87 : Tryz.prog.cellsOf 87 = 1 := by kernel_rfl
theorem cl42 : Tryz.prog.cellsOf 42 = 1 := by kernel_rfl
theorem cl36 : Tryz.prog.cellsOf 36 = 4 := by kernel_rfl
theorem cl34 : Tryz.prog.cellsOf 34 = 2 := by kernel_rfl
theorem cl32 : Tryz.prog.cellsOf 32 = 1 := by kernel_rfl
theorem cl4 : Tryz.prog.cellsOf 4 = 1 := by kernel_rfl
noncomputable def flds (t : TypeId) : Array Field := match Tryz.prog.underlying t with
  | some (.struct fs) => fs
  | _ => #[]
noncomputable def fldT (t : TypeId) (i : Nat) : Option (TypeId × Nat) := ((flds t)[i]?).map fun f => (f.type, f.offset)
theorem ty36 : Tryz.prog.underlying 36 = some (.struct (flds 36)) := by kernel_rfl
theorem ty34 : Tryz.prog.underlying 34 = some (.struct (flds 34)) := by kernel_rfl
theorem f36_0 : fldT 36 0 = some (34, 0) := by kernel_rfl
theorem f36_1 : fldT 36 1 = some (34, 2) := by kernel_rfl
theorem f34_0 : fldT 34 0 = some (4, 0) := by kernel_rfl
theorem f34_1 : fldT 34 1 = some (32, 1) := by kernel_rfl
theorem fld_get {t : TypeId} {i : Nat} {p : TypeId × Nat} (h : fldT t i = some p) : ∃ f : Field, (flds t)[i]? = some f ∧ f.type = p.1 ∧ f.offset = p.2 := by
  unfold fldT at h
  cases hf : (flds t)[i]? with
  | none => rw [hf] at h; cases h
  | some f => rw [hf] at h; cases h; exact ⟨f, rfl, rfl, rfl⟩
variable {H : Type} {enc : TypeId × Value → H} {W : World}
theorem cell_lt {a : Addr} {v : Value} (h : W.cell? a = some v) : a.block < W.heap.size := by
  unfold World.cell? at h
  rcases Nat.lt_or_ge a.block W.heap.size with hl | hl
  · exact hl
  · rw [Array.getElem?_eq_none hl] at h
    simp at h
theorem cellAt_u32s {l : List Nat} {i j : Nat} {u : AV} (h : cellAt (u32s l) i j = some u) : j = 0 ∧ i < l.length ∧ u = .int .u32 (nth l i : Nat) := by
  unfold cellAt u32s at h
  rw [List.getElem?_map] at h
  cases hi : l[i]? with
  | none => rw [hi] at h; cases h
  | some y =>
    rw [hi] at h
    have hl := (List.getElem?_eq_some_iff.1 hi).1
    cases j with
    | zero =>
      cases h
      refine ⟨rfl, hl, ?_⟩
      unfold nth
      rw [List.getD_eq_getElem?_getD, hi]; rfl
    | succ k => cases h
theorem read_mag {fuel : Nat} {c : Value} {x : DataW H × List MemPlace} (h : DataW.trod enc Tryz.prog W 0 (fun _ => true) true fuel 32 [c] = some x) : ∃ l, Lb l ∧ VR W (fun _ => False) (lim l) c := by
  rcases Go.ChangeShapes.open_ints ty32 ty87 cl87 h with ⟨hc, _⟩ | ⟨a, len, cap, zs, hc, _, hl, hm, hz, _, hcell, hwf⟩
  · simp only [List.cons.injEq, and_true] at hc
    subst hc
    exact ⟨[], fun y hy => (by cases hy), .sl0 1 none 0⟩
  · simp only [List.cons.injEq, and_true] at hc
    subst hc
    simp at hz
    rcases Nat.eq_zero_or_pos len with h0 | h0
    · subst h0
      exact ⟨[], fun y hy => (by cases hy), .sl0 1 (some a) cap⟩
    · have h00 := hcell 0 (by omega)
      have hsp := World.cell?_spot h00
      have hbl := cell_lt h00
      obtain ⟨b, o, sp⟩ := a
      simp [Addr.add] at hsp hbl
      subst hsp
      have hzl : ∀ i, i < len → 0 ≤ zs.getD i 0 ∧ zs.getD i 0 ≤ 4294967295 := fun i hi => by
        have : zs.getD i 0 = zs[i]'(by omega) := by rw [List.getD_eq_getElem?_getD, List.getElem?_eq_getElem (by omega)]; rfl
        rw [this]
        exact Go.bounds_u32 (hwf _ (List.getElem_mem _))
      refine ⟨(List.range len).map fun i => (zs.getD i 0).toNat, fun y hy => ?_, ?_⟩
      · obtain ⟨i, hi, rfl⟩ := List.mem_map.1 hy
        have := hzl i (List.mem_range.1 hi)
        omega
      · have e : ((List.range len).map fun i => (zs.getD i 0).toNat).length = len := by simp
        have := VR.sl (w := W) (F := fun _ => False) 1 (u32s ((List.range len).map fun i => (zs.getD i 0).toNat)) b o cap (fun i _ => .int .u32 (zs.getD i 0)) (by simp) hbl (by simp; exact hl) (by
          intro v hv
          obtain ⟨y, _, rfl⟩ := List.mem_map.1 hv
          rfl) ?_ ?_
        · rw [u32s_length, e] at this
          exact this
        · intro i j u hu
          obtain ⟨rfl, q1, rfl⟩ := cellAt_u32s hu
          rw [e] at q1
          have := hzl i q1
          have hn : nth ((List.range len).map fun i => (zs.getD i 0).toNat) i = (zs.getD i 0).toNat := by
            unfold nth
            rw [List.getD_eq_getElem?_getD, List.getElem?_map, List.getElem?_range q1]
            rfl
          rw [hn, Int.toNat_of_nonneg this.1]
          exact .int _ _
        · intro i j u hu
          obtain ⟨rfl, q1, rfl⟩ := cellAt_u32s hu
          rw [e] at q1
          have := hcell i (by omega)
          rcases Nat.eq_zero_or_pos i with h' | h'
          · subst h'; simpa [Addr.add] using this
          · have h'' : i ≠ 0 := by omega
            simpa [Addr.add, h''] using this
set_option maxRecDepth 100000
theorem read_int {fuel : Nat} {cs : List Value} {x : DataW H × List MemPlace} (h : DataW.trod enc Tryz.prog W 0 (fun _ => true) true fuel 34 cs = some x) : ∃ n l c, cs = [.bool n, c] ∧ Lb l ∧ VR W (fun _ => False) (lim l) c := by
  obtain ⟨xs, n, _, rfl, hl, hlen, hf⟩ := DataW.trod_struct ty34 h
  rw [cl34] at hl
  obtain ⟨c0, c1, rfl⟩ : ∃ c0 c1, cs = [c0, c1] := by
    match cs, hl with
    | [c0, c1], _ => exact ⟨c0, c1, rfl⟩
  obtain ⟨f0, g1, g2, g3⟩ := fld_get f34_0
  obtain ⟨f1, k1, k2, k3⟩ := fld_get f34_1
  have h0 := hf 0 f0 g1
  have h1 := hf 1 f1 k1
  simp only at g2 g3 k2 k3
  rw [g2, g3, cl4] at h0
  rw [k2, k3, cl32] at h1
  have hs : xs.length = 2 := by rw [hlen]; kernel_rfl
  obtain ⟨b, hb, _⟩ := DataW.trod_bool ty4 (h0.trans (List.getElem?_eq_getElem (by omega)))
  obtain ⟨l, hl1, hl2⟩ := read_mag (h1.trans (List.getElem?_eq_getElem (by omega)))
  simp at hb
  exact ⟨b, l, c1, by rw [hb], hl1, hl2⟩
theorem read_rat {fuel : Nat} {cs : List Value} {x : DataW H × List MemPlace} (h : DataW.trod enc Tryz.prog W 0 (fun _ => true) true fuel 36 cs = some x) : ∃ r : RR, r.Lb ∧ cs.length = 4 ∧ ∀ (j : Nat) (u : AV), r.av.cells[j]? = some u → ∃ c, cs[j]? = some c ∧ VR W (fun _ => False) u c := by
  obtain ⟨xs, n, _, rfl, hl, hlen, hf⟩ := DataW.trod_struct ty36 h
  rw [cl36] at hl
  obtain ⟨c0, c1, c2, c3, rfl⟩ : ∃ c0 c1 c2 c3, cs = [c0, c1, c2, c3] := by
    match cs, hl with
    | [c0, c1, c2, c3], _ => exact ⟨c0, c1, c2, c3, rfl⟩
  obtain ⟨f0, g1, g2, g3⟩ := fld_get f36_0
  obtain ⟨f1, k1, k2, k3⟩ := fld_get f36_1
  have h0 := hf 0 f0 g1
  have h1 := hf 1 f1 k1
  simp only at g2 g3 k2 k3
  rw [g2, g3, cl34] at h0
  rw [k2, k3, cl34] at h1
  have hs : xs.length = 2 := by rw [hlen]; kernel_rfl
  obtain ⟨n1, l1, d1, e1, b1, v1⟩ := read_int (h0.trans (List.getElem?_eq_getElem (by omega)))
  obtain ⟨n2, l2, d2, e2, b2, v2⟩ := read_int (h1.trans (List.getElem?_eq_getElem (by omega)))
  simp at e1 e2
  obtain ⟨rfl, rfl⟩ := e1
  obtain ⟨rfl, rfl⟩ := e2
  refine ⟨⟨n1, l1, n2, l2⟩, ⟨b1, b2⟩, rfl, fun j u hu => ?_⟩
  match j, hu with
  | 0, hu => cases hu; exact ⟨_, rfl, .bool _⟩
  | 1, hu => cases hu; exact ⟨_, rfl, v1⟩
  | 2, hu => cases hu; exact ⟨_, rfl, .bool _⟩
  | 3, hu => cases hu; exact ⟨_, rfl, v2⟩
  | k + 4, hu => cases hu
end Go.Av
end
section
namespace Go.Av
open Go.Proofs
variable {H : Type} {enc : TypeId × Value → H} {W : World}
theorem choose_fun {α : Type} [Inhabited α] {n : Nat} {p : Nat → α → Prop} (h : ∀ i, i < n → ∃ a, p i a) : ∃ f : Nat → α, ∀ i, i < n → p i (f i) := by
  classical
  exact ⟨fun i => if hi : i < n then Classical.choose (h i hi) else default, fun i hi => by
    simp only [dif_pos hi]
    exact Classical.choose_spec (h i hi)⟩
theorem addr_add2 (b o i j : Nat) : ((⟨b, o, none⟩ : Addr).add i).add j = ⟨b, o + (i + j), none⟩ := by
  by_cases hi : i = 0
  · subst hi
    by_cases hj : j = 0
    · subst hj; simp [Addr.add]
    · simp [Addr.add, hj]
  · by_cases hj : j = 0
    · subst hj; simp [Addr.add, hi]
    · simp [Addr.add, hi, hj, Nat.add_assoc]
theorem read_row {fuel : Nat} {c : Value} {x : DataW H × List MemPlace} (h : DataW.trod enc Tryz.prog W 0 (fun _ => true) true fuel 42 [c] = some x) : ∃ r : List RR, (∀ y ∈ r, y.Lb) ∧ VR W (fun _ => False) (rowAV r) c := by
  rcases Go.Deep.open_slice ty42 h with ⟨hc, _⟩ | ⟨a, len, cap, m, n, D, Pl, hc, _, hl, hm, hmm, _, hx⟩
  · simp only [List.cons.injEq, and_true] at hc
    subst hc
    exact ⟨[], fun y hy => (by cases hy), .sl0 4 none 0⟩
  · simp only [List.cons.injEq, and_true] at hc
    subst hc
    simp at hmm
    subst hmm
    rcases Nat.eq_zero_or_pos len with h0 | h0
    · subst h0
      exact ⟨[], fun y hy => (by cases hy), .sl0 4 (some a) m⟩
    · rw [cl36] at hx
      obtain ⟨C, hC⟩ := choose_fun (α := List Value) (p := fun i cs => W.cells? 0 (a.add (i * 4)) 4 = some cs ∧ DataW.trod enc Tryz.prog W 0 (fun _ => true) true n 36 cs = some (D i, Pl i)) (n := len) (fun i hi => hx i (by omega))
      obtain ⟨R, hR⟩ := choose_fun (α := RR) (n := len) (fun i hi => read_rat (hC i hi).2)
      have hcell : ∀ i, i < len → ∀ j, j < 4 → W.cell? ((a.add (i * 4)).add j) = (C i)[j]? := fun i hi => (World.cells?_some (hC i hi).1).2.2
      obtain ⟨c00, hc00, _⟩ := (hR 0 h0).2.2 0 (.bool (R 0).n1) rfl
      have h00 := (hcell 0 h0 0 (by omega)).trans hc00
      have hsp := World.cell?_spot h00
      have hbl := cell_lt h00
      obtain ⟨b, o, sp⟩ := a
      simp [Addr.add] at hsp hbl
      subst hsp
      have hcellAt : ∀ i j u, cellAt (rrs ((List.range len).map R)) i j = some u → i < len ∧ (R i).av.cells[j]? = some u := by
        intro i j u hu
        unfold cellAt rrs at hu
        rw [List.map_map, List.getElem?_map] at hu
        by_cases hi : i < len
        · rw [List.getElem?_range hi] at hu
          exact ⟨hi, hu⟩
        · rw [List.getElem?_eq_none (by simp; omega)] at hu
          cases hu
      refine ⟨(List.range len).map R, fun y hy => ?_, ?_⟩
      · obtain ⟨i, hi, rfl⟩ := List.mem_map.1 hy
        exact (hR i (List.mem_range.1 hi)).1
      · have := VR.sl (w := W) (F := fun _ => False) 4 (rrs ((List.range len).map R)) b o m (fun i j => ((C i)[j]?).getD (.bool false)) (by simp) hbl (by simp; exact hl) (by
          intro v hv
          obtain ⟨y, _, rfl⟩ := List.mem_map.1 hv
          rfl) (fun i j u hu => by
            obtain ⟨hi, hu⟩ := hcellAt i j u hu
            obtain ⟨c, q1, q2⟩ := (hR i hi).2.2 j u hu
            rw [q1]; exact q2) (fun i j u hu => by
            obtain ⟨hi, hu⟩ := hcellAt i j u hu
            obtain ⟨c, q1, q2⟩ := (hR i hi).2.2 j u hu
            have hj : j < 4 := by
              have := (List.getElem?_eq_some_iff.1 q1).1
              rw [(hR i hi).2.1] at this; exact this
            have := hcell i hi j hj
            rw [addr_add2, q1] at this
            rw [this, q1]; rfl)
        rw [rrs_length, List.length_map, List.length_range] at this
        exact this
theorem read_mat {fuel : Nat} {c : Value} {x : DataW H × List MemPlace} (h : DataW.trod enc Tryz.prog W 0 (fun _ => true) true fuel 22 [c] = some x) : ∃ m : List (List RR), LbM m ∧ VR W (fun _ => False) (matAV m) c := by
  rcases Go.Deep.open_slice1 ty22 cl42 h with ⟨hc, _⟩ | ⟨a, len, cap, m, n, V, D, Pl, hc, _, hl, hm, hmm, _, hx⟩
  · simp only [List.cons.injEq, and_true] at hc
    subst hc
    exact ⟨[], fun y hy => (by cases hy), .sl0 1 none 0⟩
  · simp only [List.cons.injEq, and_true] at hc
    subst hc
    simp at hmm
    subst hmm
    rcases Nat.eq_zero_or_pos len with h0 | h0
    · subst h0
      exact ⟨[], fun y hy => (by cases hy), .sl0 1 (some a) m⟩
    · obtain ⟨R, hR⟩ := choose_fun (α := List RR) (n := len) (fun i hi => read_row (hx i (by omega)).2)
      have h00 := (hx 0 (by omega)).1
      have hsp := World.cell?_spot h00
      have hbl := cell_lt h00
      obtain ⟨b, o, sp⟩ := a
      simp [Addr.add] at hsp hbl
      subst hsp
      have hcellAt : ∀ i j u, cellAt (((List.range len).map R).map rowAV) i j = some u → i < len ∧ j = 0 ∧ u = rowAV (R i) := by
        intro i j u hu
        unfold cellAt at hu
        rw [List.map_map, List.getElem?_map] at hu
        by_cases hi : i < len
        · rw [List.getElem?_range hi] at hu
          cases j with
          | zero => cases hu; exact ⟨hi, rfl, rfl⟩
          | succ k => cases hu
        · rw [List.getElem?_eq_none (by simp; omega)] at hu
          cases hu
      refine ⟨(List.range len).map R, fun y hy => ?_, ?_⟩
      · obtain ⟨i, hi, rfl⟩ := List.mem_map.1 hy
        exact (hR i (List.mem_range.1 hi)).1
      · have := VR.sl (w := W) (F := fun _ => False) 1 (((List.range len).map R).map rowAV) b o m (fun i _ => V i) (by simp) hbl (by simp; exact hl) (by
          intro v hv
          obtain ⟨y, _, rfl⟩ := List.mem_map.1 hv
          rfl) (fun i j u hu => by
            obtain ⟨hi, rfl, rfl⟩ := hcellAt i j u hu
            exact (hR i hi).2) (fun i j u hu => by
            obtain ⟨hi, rfl, rfl⟩ := hcellAt i j u hu
            have := (hx i (by omega)).1
            rcases Nat.eq_zero_or_pos i with h' | h'
            · subst h'; simpa [Addr.add] using this
            · have h'' : i ≠ 0 := by omega
              simpa [Addr.add, h''] using this)
        rw [List.length_map, List.length_map, List.length_range] at this
        exact this
/-- A statement over one matrix: true, whatever the matrix; all that was there stays. -/
theorem call_mat {f : FuncId} (hf : ∀ m, LbM m → ACall Tryz.prog f [matAV m] Mem.emp fun v mm => v = .bool true ∧ mm = Mem.emp) {c : Value} {m : List (List RR)} (hm : LbM m) (hv : VR W (fun _ => False) (matAV m) c) :
    Calls Tryz.prog f #[c] W fun e W' => e = .returned (.bool true) ∧ RowKit.Below W.heap.size W W' := by
  have hO : Own (fun _ => False) Mem.emp = fun _ => False := by funext b; simp [Own, Mem.emp]
  refine ((hf m hm).2 W (fun _ => False) #[c] (fun b hb => hb.elim) (fun b x hx => by cases hx) ?_).mono ?_
  · rw [hO]
    refine ⟨rfl, fun j u v hu hv' => ?_⟩
    match j, hu with
    | 0, hu => cases hu; cases hv'; exact hv
    | k + 1, hu => cases hu
  · rintro e W' ⟨v, cv, g', rfl, ⟨rfl, _⟩, _, hvr, hg, _⟩
    cases hvr
    exact ⟨rfl, ⟨hg.os, hg.tape, hg.output, hg.size, fun k hk => hg.block k hk (by simp [Mem.emp])⟩⟩
end Go.Av
end
section
namespace Go.Av
open Go.Proofs
def sumN : Nat → (Nat → Rat) → Rat
  | 0, _ => 0
  | n + 1, f => sumN n f + f n
theorem sumN_succ (n : Nat) (f : Nat → Rat) : sumN (n + 1) f = sumN n f + f n := rfl
theorem sumN_congr {n : Nat} {f g : Nat → Rat} (h : ∀ i, i < n → f i = g i) : sumN n f = sumN n g := by
  induction n with
  | zero => rfl
  | succ n ih => rw [sumN_succ, sumN_succ, ih (fun i hi => h i (by omega)), h n (by omega)]
theorem sumN_zero {n : Nat} {f : Nat → Rat} (h : ∀ i, i < n → f i = 0) : sumN n f = 0 := by
  induction n with
  | zero => rfl
  | succ n ih => rw [sumN_succ, ih (fun i hi => h i (by omega)), h n (by omega)]; grind
theorem sumN_add (n : Nat) (f g : Nat → Rat) : sumN n (fun i => f i + g i) = sumN n f + sumN n g := by
  induction n with
  | zero => show (0 : Rat) = 0 + 0; grind
  | succ n ih => rw [sumN_succ, sumN_succ, sumN_succ, ih]; grind
theorem sumN_mul (n : Nat) (c : Rat) (f : Nat → Rat) : sumN n (fun i => c * f i) = c * sumN n f := by
  induction n with
  | zero => show (0 : Rat) = c * 0; grind
  | succ n ih => rw [sumN_succ, sumN_succ, ih]; grind
theorem sumN_single {n k : Nat} {f : Nat → Rat} (hk : k < n) (h : ∀ i, i < n → i ≠ k → f i = 0) : sumN n f = f k := by
  induction n with
  | zero => omega
  | succ n ih =>
    rw [sumN_succ]
    by_cases e : k = n
    · subst e
      rw [sumN_zero fun i hi => h i (by omega) (by omega)]; grind
    · rw [ih (by omega) fun i hi => h i (by omega), h n (by omega) (fun h => e h.symm)]; grind
/-- A row on a vector. -/
def dotV (w : Nat) (r v : Nat → Rat) : Rat := sumN w fun l => r l * v l
theorem dotV_congr {w : Nat} {r r' v v' : Nat → Rat} (h : ∀ l, l < w → r l = r' l) (h2 : ∀ l, l < w → v l = v' l) : dotV w r v = dotV w r' v' := sumN_congr fun l hl => by rw [h l hl, h2 l hl]
theorem dotV_sub (w : Nat) (r s v : Nat → Rat) (c : Rat) : dotV w (fun l => r l - s l * c) v = dotV w r v - c * dotV w s v := by
  unfold dotV
  rw [← sumN_mul]
  have : sumN w (fun l => (r l - s l * c) * v l) = sumN w (fun l => r l * v l + (-1) * (c * (s l * v l))) := sumN_congr fun l _ => by grind
  rw [this, sumN_add, sumN_mul]; grind
theorem dotV_div (w : Nat) (r v : Nat → Rat) (c : Rat) : dotV w (fun l => r l / c) v = dotV w r v / c := by
  unfold dotV
  have : sumN w (fun l => r l / c * v l) = sumN w (fun l => c⁻¹ * (r l * v l)) := sumN_congr fun l _ => by grind
  rw [this, sumN_mul]; grind
/-! ### Exact results -/
theorem addQ_eq {a b c : Rat} (h : addQ a b = some c) : c = a + b := by unfold addQ at h; split at h <;> cases h; rfl
theorem subQ_eq {a b c : Rat} (h : subQ a b = some c) : c = a - b := by unfold subQ at h; split at h <;> cases h; rfl
theorem mulQ_eq {a b c : Rat} (h : mulQ a b = some c) : c = a * b := by unfold mulQ at h; split at h <;> cases h; rfl
theorem divQ_eq {a b c : Rat} (h : divQ a b = some c) : c = a / b := by unfold divQ at h; split at h <;> cases h; rfl
theorem lessQ_eq {a f b c : Rat} (h : lessQ a f b = some c) : c = a - b * f := by
  unfold lessQ at h
  cases hm : mulQ b f with
  | none => rw [hm] at h; cases h
  | some p => rw [hm] at h; rw [subQ_eq h, mulQ_eq hm]
theorem qat_set {r : List Rat} {k : Nat} (hk : k < r.length) (x : Rat) (i : Nat) : qat (r.set k x) i = if i = k then x else qat r i := by
  unfold qat
  rw [List.getD_eq_getElem?_getD, List.getElem?_set]
  by_cases e : k = i
  · subst e; rw [if_pos rfl, if_pos hk, if_pos rfl]; rfl
  · rw [if_neg e, if_neg (Ne.symm e), ← List.getD_eq_getElem?_getD]
/-- A row that is changed place by place, from a place on. -/
theorem rowIter {op : Rat → Nat → Option Rat} {f : Nat → List Rat → Option (List Rat)} {o : Nat} (hf : ∀ t r, f t r = rowStep op (o + t) r) : ∀ {n : Nat} {row row' : List Rat}, o + n ≤ row.length → iterO f n row = some row' →
    row'.length = row.length ∧ (∀ k, k < n → op (qat row (o + k)) (o + k) = some (qat row' (o + k))) ∧ ∀ k, k < o ∨ o + n ≤ k → qat row' k = qat row k
  | 0, row, row', _, h => by cases h; exact ⟨rfl, fun k hk => by omega, fun _ _ => rfl⟩
  | n + 1, row, row', hl, h => by
    rw [iterO_succ] at h
    cases hs : iterO f n row with
    | none => rw [hs] at h; cases h
    | some u =>
      rw [hs] at h
      obtain ⟨h1, h2, h3⟩ := rowIter hf (by omega) hs
      replace h : f n u = some row' := h
      rw [hf] at h
      unfold rowStep at h
      cases ho : op (qat u (o + n)) (o + n) with
      | none => rw [ho] at h; cases h
      | some x =>
        rw [ho] at h
        cases h
        have hk : o + n < u.length := by omega
        refine ⟨by rw [List.length_set, h1], fun k hk' => ?_, fun k hk' => ?_⟩
        · rw [qat_set hk]
          by_cases e : k = n
          · subst e; rw [if_pos rfl, ← h3 (o + k) (by omega)]; exact ho
          · rw [if_neg (by omega)]; exact h2 k (by omega)
        · rw [qat_set hk, if_neg (by omega)]; exact h3 k (by omega)
theorem qel_set {M : List (List Rat)} {i : Nat} (hi : i < M.length) (r : List Rat) (a b : Nat) : qel (M.set i r) a b = if a = i then qat r b else qel M a b := by
  unfold qel
  rw [mrow_set hi]
  split <;> rfl
theorem qel_swap {M : List (List Rat)} {i r : Nat} (hi : i < M.length) (hr : r < M.length) (a b : Nat) : qel (swapL M i r) a b = if a = r then qel M i b else if a = i then qel M r b else qel M a b := by
  unfold qel
  rw [mrow_swap hi hr]
  split
  · rfl
  · split <;> rfl
theorem elim_spec {n w r j i : Nat} {M M' : List (List Rat)} (h : matGood n w M) (hi : i < n) (he : elimStep r j i M = some M') : M'.length = n ∧ ∀ a b, b < w → qel M' a b = if a = i ∧ i ≠ r then qel M a b - qel M r b * qel M a j else qel M a b := by
  unfold elimStep at he
  by_cases hc : i = r ∨ qel M i j = 0
  · rw [if_pos hc] at he
    cases he
    refine ⟨h.2.2, fun a b hb => ?_⟩
    split
    · rename_i hh
      rw [hh.1, hc.resolve_left hh.2]; grind
    · rfl
  · rw [if_neg hc] at he
    have hl : (mrow M i).length = w := (h.row hi).2
    rw [hl] at he
    cases hm : iterO (subStep (mrow M r) (qel M i j)) w (mrow M i) with
    | none => rw [hm] at he; cases he
    | some row =>
      rw [hm] at he
      cases he
      obtain ⟨k1, k2, k3⟩ := rowIter (o := 0) (op := fun q k => lessQ q (qel M i j) (qat (mrow M r) k)) (fun t r => by rw [Nat.zero_add]; rfl) (by omega) hm
      refine ⟨by rw [List.length_set]; exact h.2.2, fun a b hb => ?_⟩
      rw [qel_set (by rw [h.2.2]; exact hi)]
      by_cases e : a = i
      · subst e
        rw [if_pos rfl, if_pos ⟨rfl, fun h => hc (.inl h)⟩]
        have := k2 b hb
        rw [Nat.zero_add] at this
        exact lessQ_eq this
      · rw [if_neg e, if_neg (fun h => e h.1)]
theorem clear_spec {n w r j : Nat} {M Y : List (List Rat)} (h : matGood n w M) (hr : r < n) (hd : qel M r j ≠ 0) (hj : j < w) (he : clearQ M j r = some Y) : matGood n w Y ∧ ∀ a b, a < n → b < w → qel Y a b = if a = r then qel M r b / qel M r j else qel M a b - qel M r b / qel M r j * qel M a j := by
  refine ⟨clear_keep hr h hd he, ?_⟩
  unfold clearQ at he
  have hl : (mrow M r).length = w := (h.row hr).2
  rw [hl] at he
  cases hm : iterO (divStep (qel M r j)) w (mrow M r) with
  | none => rw [hm] at he; cases he
  | some row =>
    rw [hm] at he
    replace he : iterO (elimStep r j) M.length (M.set r row) = some Y := he
    rw [h.2.2] at he
    obtain ⟨k1, k2, k3⟩ := rowIter (o := 0) (op := fun q _ => divQ q (qel M r j)) (fun t r => by rw [Nat.zero_add]; rfl) (by omega) hm
    have hrow : ∀ b, b < w → qat row b = qel M r b / qel M r j := fun b hb => by
      have := k2 b hb
      rw [Nat.zero_add] at this
      exact divQ_eq this
    have hg1 : matGood n w (M.set r row) := h.set r (iter_keep (p := fun row => rowGood row ∧ row.length = w) (fun k s t hs hst => rowStep_keep (fun q k x hx => good_div hd hx) hs hst) (h.row hr) hm)
    have h1 : ∀ a b, qel (M.set r row) a b = if a = r then qat row b else qel M a b := fun a b => qel_set (by rw [h.2.2]; exact hr) row a b
    have key : ∀ (i : Nat) (Z : List (List Rat)), i ≤ n → iterO (elimStep r j) i (M.set r row) = some Z → matGood n w Z ∧ ∀ a b, b < w → qel Z a b = if a = r then qat row b else if a < i then qel M a b - qat row b * qel M a j else qel M a b := by
      intro i
      induction i with
      | zero =>
        intro Z _ hZ
        cases hZ
        refine ⟨hg1, fun a b _ => ?_⟩
        rw [h1, if_neg (show ¬ a < 0 by omega)]
      | succ i ih =>
        intro Z hi hZ
        rw [iterO_succ] at hZ
        cases hs : iterO (elimStep r j) i (M.set r row) with
        | none => rw [hs] at hZ; cases hZ
        | some U =>
          rw [hs] at hZ
          obtain ⟨g1, g2⟩ := ih U (by omega) hs
          have hZ' : elimStep r j i U = some Z := hZ
          refine ⟨elim_keep (by omega) g1 hZ', fun a b hb => ?_⟩
          rw [(elim_spec g1 (by omega) hZ').2 a b hb]
          by_cases e : a = i ∧ i ≠ r
          · obtain ⟨rfl, e2⟩ := e
            rw [if_pos ⟨rfl, e2⟩, if_neg e2, if_pos (by omega), g2 a b hb, g2 r b hb, g2 a j hj, if_neg e2, if_neg (by omega), if_pos rfl, if_neg e2, if_neg (by omega)]
          · rw [if_neg e, g2 a b hb]
            by_cases e1 : a = r
            · rw [if_pos e1, if_pos e1]
            · rw [if_neg e1, if_neg e1]
              by_cases e2 : a < i
              · rw [if_pos e2, if_pos (by omega)]
              · rw [if_neg e2, if_neg]
                intro h3
                exact e ⟨by omega, by omega⟩
    intro a b ha hb
    rw [(key n Y (Nat.le_refl _) he).2 a b hb]
    by_cases e : a = r
    · rw [if_pos e, if_pos e, hrow b hb]
    · rw [if_neg e, if_neg e, if_pos ha, hrow b hb]
end Go.Av
end
section
namespace Go.Av
open Go.Proofs
def NullV (n w : Nat) (M : List (List Rat)) (v : Nat → Rat) : Prop := ∀ i, i < n → dotV w (qel M i) v = 0
theorem null_swap {n w : Nat} {M : List (List Rat)} {i r : Nat} (hM : M.length = n) (hi : i < n) (hr : r < n) (v : Nat → Rat) : NullV n w (swapL M i r) v ↔ NullV n w M v := by
  have e : ∀ a, dotV w (qel (swapL M i r) a) v = if a = r then dotV w (qel M i) v else if a = i then dotV w (qel M r) v else dotV w (qel M a) v := fun a => by
    have : qel (swapL M i r) a = fun b => if a = r then qel M i b else if a = i then qel M r b else qel M a b := funext fun b => qel_swap (by omega) (by omega) a b
    rw [this]
    split
    · rfl
    · split <;> rfl
  constructor
  · intro h a ha
    by_cases e1 : a = r
    · by_cases e2 : i = r
      · have := h r hr; rw [e, if_pos rfl, e2] at this; rw [e1]; exact this
      · have := h i hi; rw [e, if_neg e2, if_pos rfl] at this; rw [e1]; exact this
    · by_cases e2 : a = i
      · have := h r hr; rw [e, if_pos rfl] at this; rw [e2]; exact this
      · have := h a ha; rw [e, if_neg e1, if_neg e2] at this; exact this
  · intro h a ha
    rw [e]
    split
    · exact h i hi
    · split
      · exact h r hr
      · exact h a ha
theorem null_clear {n w r j : Nat} {M Y : List (List Rat)} (hr : r < n) (hd : qel M r j ≠ 0) (hs : ∀ a b, a < n → b < w → qel Y a b = if a = r then qel M r b / qel M r j else qel M a b - qel M r b / qel M r j * qel M a j) (v : Nat → Rat) : NullV n w Y v ↔ NullV n w M v := by
  have e1 : dotV w (qel Y r) v = dotV w (qel M r) v / qel M r j := by
    rw [← dotV_div]
    exact dotV_congr (fun l hl => by rw [hs r l hr hl, if_pos rfl]) fun _ _ => rfl
  have e2 : ∀ a, a < n → a ≠ r → dotV w (qel Y a) v = dotV w (qel M a) v - qel M a j * (dotV w (qel M r) v / qel M r j) := fun a ha hne => by
    rw [← dotV_div, ← dotV_sub]
    exact dotV_congr (fun l hl => by rw [hs a l ha hl, if_neg hne]) fun _ _ => rfl
  constructor
  · intro h a ha
    have h0 : dotV w (qel M r) v = 0 := by have := h r hr; rw [e1] at this; grind
    by_cases e : a = r
    · rw [e]; exact h0
    · have := h a ha
      rw [e2 a ha e, h0] at this; grind
  · intro h a ha
    by_cases e : a = r
    · subst e; rw [e1, h a ha]; grind
    · rw [e2 a ha e, h a ha, h r hr]; grind
theorem pivQ_none {M : List (List Rat)} {j r : Nat} (h : pivQ M j r = none) : ∀ i, r ≤ i → i < M.length → qel M i j = 0 := by
  unfold pivQ at h
  rw [List.find?_eq_none] at h
  intro i hr hi
  have := h i (List.mem_range.2 hi)
  simp [hr] at this
  exact this
theorem pivQ_here {M : List (List Rat)} {j r : Nat} (hr : r < M.length) (h : qel M r j ≠ 0) : pivQ M j r = some r := by
  unfold pivQ
  rw [List.find?_range_eq_some]
  refine ⟨by simp [h], List.mem_range.2 hr, fun i hi => ?_⟩
  simp; omega
theorem pivQ_no {M : List (List Rat)} {j r : Nat} (h : ∀ i, r ≤ i → i < M.length → qel M i j = 0) : pivQ M j r = none := by
  unfold pivQ
  rw [List.find?_eq_none]
  intro i hi
  by_cases hr : r ≤ i
  · simp [h i hr (List.mem_range.1 hi)]
  · simp [hr]
/-- The reduced form, as far as column j. -/
structure RRef (n w j : Nat) (M : List (List Rat)) (ps : List Nat) : Prop where
  good : matGood n w M
  len : ps.length ≤ n
  srt : ps.Pairwise (· < ·)
  lt : ∀ p ∈ ps, p < j
  one : ∀ k, k < ps.length → ∀ i, i < n → qel M i (ps.getD k 0) = if i = k then 1 else 0
  zer : ∀ i, i < n → ∀ c, c < j → (i < ps.length → c < ps.getD i 0) → qel M i c = 0
theorem getD_mem {ps : List Nat} {k : Nat} (h : k < ps.length) : ps.getD k 0 ∈ ps := by rw [List.getD_eq_getElem?_getD, List.getElem?_eq_getElem h]; exact List.getElem_mem h
theorem getD_snoc (ps : List Nat) (j k : Nat) : (ps ++ [j]).getD k 0 = if k < ps.length then ps.getD k 0 else if k = ps.length then j else 0 := by
  rw [List.getD_eq_getElem?_getD]
  by_cases h : k < ps.length
  · rw [if_pos h, List.getElem?_append_left h, ← List.getD_eq_getElem?_getD]
  · rw [if_neg h, List.getElem?_append_right (by omega)]
    by_cases e : k = ps.length
    · rw [if_pos e, e, Nat.sub_self]; rfl
    · rw [if_neg e, List.getElem?_eq_none (by simp; omega)]; rfl
theorem RRef.start {n w : Nat} {M : List (List Rat)} (h : matGood n w M) : RRef n w 0 M [] :=
  ⟨h, Nat.zero_le _, List.Pairwise.nil, fun p hp => (by cases hp), fun k hk => (by cases hk), fun i _ c hc => by omega⟩
theorem RRef.step {n w j : Nat} {M : List (List Rat)} {ps : List Nat} (h : RRef n w j M ps) (hj : j < w) {z : List (List Rat) × List Nat} (he : colStep j (M, ps) = some z) : RRef n w (j + 1) z.1 z.2 ∧ ∀ v, NullV n w z.1 v ↔ NullV n w M v := by
  have hl := h.good.2.2
  unfold colStep at he
  simp only at he
  cases hp : pivQ M j ps.length with
  | none =>
    rw [hp] at he
    simp only [Option.some.injEq] at he
    subst he
    have h0 := pivQ_none hp
    show RRef n w (j + 1) M ps ∧ _
    refine ⟨⟨h.good, h.len, h.srt, fun p hp => by have := h.lt p hp; omega, h.one, fun i hi c hc hcl => ?_⟩, fun _ => Iff.rfl⟩
    by_cases e : c = j
    · subst e
      by_cases hil : i < ps.length
      · have := hcl hil
        have := h.lt _ (getD_mem hil)
        omega
      · exact h0 i (by omega) (by omega)
    · exact h.zer i hi c (by omega) hcl
  | some i0 =>
    rw [hp] at he
    obtain ⟨p1, p2, p3⟩ := pivQ_some hp
    rw [hl] at p1
    have hr : ps.length < n := by omega
    simp only at he
    cases hc : clearQ (swapL M i0 ps.length) j ps.length with
    | none => rw [hc] at he; cases he
    | some Y =>
      rw [hc] at he
      cases he
      have hG := h.good.swap p1 hr
      have hsw : ∀ a b, qel (swapL M i0 ps.length) a b = if a = ps.length then qel M i0 b else if a = i0 then qel M ps.length b else qel M a b := fun a b => qel_swap (by omega) (by omega) a b
      have hd : qel (swapL M i0 ps.length) ps.length j ≠ 0 := by rw [hsw, if_pos rfl]; exact p3
      obtain ⟨hY, hs⟩ := clear_spec hG hr hd hj hc
      refine ⟨⟨hY, by simp; omega, ?_, fun p hp => ?_, fun k hk i hi => ?_, fun i hi c hc hcl => ?_⟩, fun v => ?_⟩
      · rw [List.pairwise_append]
        exact ⟨h.srt, by simp, fun a ha b hb => by simp at hb; subst hb; exact h.lt a ha⟩
      · simp at hp
        rcases hp with hp | rfl
        · have := h.lt p hp; omega
        · omega
      · rw [getD_snoc]
        by_cases hkl : k < ps.length
        · rw [if_pos hkl]
          have hpj := h.lt _ (getD_mem hkl)
          have o := h.one k hkl
          have z1 : qel (swapL M i0 ps.length) ps.length (ps.getD k 0) = 0 := by rw [hsw, if_pos rfl, o i0 p1, if_neg (by omega)]
          rw [hs i _ hi (by omega), z1]
          by_cases e1 : i = ps.length
          · rw [if_pos e1, if_neg (by omega)]; grind
          · rw [if_neg e1, hsw, if_neg e1]
            by_cases e2 : i = i0
            · rw [if_pos e2, o _ hr, if_neg (by omega), if_neg (by omega)]; grind
            · rw [if_neg e2, o i hi]; grind
        · have hk2 : k = ps.length := by simp at hk; omega
          rw [if_neg hkl, if_pos hk2, hs i j hi hj]
          by_cases e1 : i = ps.length
          · rw [if_pos e1, if_pos (by omega)]; grind
          · rw [if_neg e1, if_neg (by omega)]; grind
      · have hcj : c < j ∨ c = j := by omega
        have zr : c < j → qel (swapL M i0 ps.length) ps.length c = 0 := fun hc => by
          rw [hsw, if_pos rfl]; exact h.zer i0 p1 c hc (fun h => by omega)
        rw [hs i c hi (by omega)]
        by_cases e1 : i = ps.length
        · have : c < j := by
            have := hcl (by simp; omega)
            rw [getD_snoc, if_neg (by omega), if_pos e1] at this
            exact this
          rw [if_pos e1, zr this]; grind
        · rw [if_neg e1]
          rcases hcj with hcj | hcj
          · rw [zr hcj, hsw, if_neg e1]
            have hz : i ≠ i0 → qel M i c = 0 := fun hne => h.zer i hi c hcj fun hil => by
              have := hcl (by simp; omega)
              rwa [getD_snoc, if_pos hil] at this
            by_cases e2 : i = i0
            · rw [if_pos e2, h.zer _ hr c hcj (fun h => by omega)]; grind
            · rw [if_neg e2, hz e2]; grind
          · subst hcj
            have : ¬ i < ps.length := fun hil => by
              have h1 := hcl (by simp; omega)
              rw [getD_snoc, if_pos hil] at h1
              have := h.lt _ (getD_mem hil)
              omega
            grind
      · rw [null_clear hr hd hs v, null_swap hl p1 hr v]
theorem cols_rref {n w : Nat} {M0 : List (List Rat)} (h : matGood n w M0) : ∀ {j : Nat} {z : List (List Rat) × List Nat}, j ≤ w → iterO colStep j (M0, []) = some z → RRef n w j z.1 z.2 ∧ ∀ v, NullV n w z.1 v ↔ NullV n w M0 v
  | 0, z, _, he => by cases he; exact ⟨.start h, fun _ => Iff.rfl⟩
  | j + 1, z, hj, he => by
    rw [iterO_succ] at he
    cases hm : iterO colStep j (M0, []) with
    | none => rw [hm] at he; cases he
    | some u =>
      rw [hm] at he
      obtain ⟨h1, h2⟩ := cols_rref h (by omega) hm
      obtain ⟨h3, h4⟩ := h1.step (by omega) (show colStep j (u.1, u.2) = some z from he)
      exact ⟨h3, fun v => (h4 v).trans (h2 v)⟩
/-- The reduced form is reduced. -/
theorem divQ_one {q : Rat} (h : Good q) : divQ q 1 = some q := by
  unfold divQ
  have n1 : (1 : Rat).num = 1 := rfl
  have d1 : (1 : Rat).den = 1 := rfl
  rw [n1, d1, if_pos]
  · congr 1; grind
  · unfold fits
    have h1 := h.1
    have h2 := h.2
    generalize B128 = b at *
    simp only [Bool.and_eq_true, decide_eq_true_eq]
    constructor <;> omega
theorem div_row {row : List Rat} (h : rowGood row) : ∀ n, n ≤ row.length → iterO (divStep 1) n row = some row
  | 0, _ => rfl
  | n + 1, hn => by
    rw [iterO_succ, div_row h n (by omega)]
    show rowStep (fun q _ => divQ q 1) n row = some row
    show Option.map (row.set n) (divQ (qat row n) 1) = some row
    rw [divQ_one (h _ (by unfold qat; rw [List.getD_eq_getElem?_getD, List.getElem?_eq_getElem (by omega)]; exact List.getElem_mem _))]
    show some (row.set n (qat row n)) = some row
    congr 1
    unfold qat
    rw [List.getD_eq_getElem?_getD, List.getElem?_eq_getElem (by omega)]
    exact List.set_getElem_self _
theorem elim_none {r j : Nat} {M : List (List Rat)} (h : ∀ i, i ≠ r → qel M i j = 0) : ∀ n, iterO (elimStep r j) n M = some M
  | 0 => rfl
  | n + 1 => by
    rw [iterO_succ, elim_none h n]
    show elimStep r j n M = some M
    unfold elimStep
    by_cases e : n = r
    · rw [if_pos (.inl e)]
    · rw [if_pos (.inr (h n e))]
theorem cnt_range {ps : List Nat} (h : ps.Pairwise (· < ·)) (j : Nat) : ps.filter (· < j) = ps.take (ps.filter (· < j)).length := by
  induction ps with
  | nil => rfl
  | cons p l ih =>
    rw [List.pairwise_cons] at h
    by_cases e : p < j
    · rw [List.filter_cons_of_pos (by simp [e]), List.length_cons, List.take_succ_cons, ← ih h.2]
    · have : l.filter (· < j) = [] := by
        rw [List.filter_eq_nil_iff]
        intro a ha
        have := h.1 a ha
        simp; omega
      rw [List.filter_cons_of_neg (by simp [e]), this]; rfl
theorem RRef.again {n w : Nat} {Y : List (List Rat)} {ps : List Nat} (h : RRef n w w Y ps) : ∀ j, j ≤ w → iterO colStep j (Y, []) = some (Y, ps.filter (· < j))
  | 0, _ => by
    show some (Y, []) = _
    rw [show ps.filter (· < 0) = [] by rw [List.filter_eq_nil_iff]; intro a _; simp]
  | j + 1, hj => by
    rw [iterO_succ, h.again j (by omega)]
    show colStep j (Y, ps.filter (· < j)) = some (Y, ps.filter (· < j + 1))
    have hc := cnt_range h.srt j
    have hl := h.good.2.2
    generalize hr : (ps.filter (· < j)).length = r at *
    have hrl : r ≤ ps.length := by rw [← hr]; exact List.length_filter_le _ _
    have hlt : ∀ k, k < r → ps.getD k 0 < j := fun k hk => by
      have : ps.getD k 0 ∈ ps.filter (· < j) := by
        rw [hc, List.getD_eq_getElem?_getD, ← List.getElem?_take_of_lt hk, ← List.getD_eq_getElem?_getD]
        exact getD_mem (by rw [List.length_take]; omega)
      simpa using (List.mem_filter.1 this).2
    have hge : ∀ k, r ≤ k → k < ps.length → j ≤ ps.getD k 0 := fun k hk hk2 => by
      rcases Nat.lt_or_ge (ps.getD k 0) j with hh | hh
      · exfalso
        have hm : ps.getD k 0 ∈ ps.filter (· < j) := List.mem_filter.2 ⟨getD_mem hk2, by simpa using hh⟩
        rw [hc] at hm
        obtain ⟨i, hi, e⟩ := List.mem_iff_getElem.1 hm
        rw [List.length_take] at hi
        rw [List.getElem_take] at e
        have e2 : ps.getD i 0 = ps.getD k 0 := by rw [List.getD_eq_getElem?_getD, List.getElem?_eq_getElem (by omega)]; exact e
        have := getD_lt h.srt (i := i) (j := k) (by omega) hk2
        omega
      · exact hh
    unfold colStep
    simp only [hr]
    by_cases hjr : r < ps.length ∧ ps.getD r 0 = j
    · obtain ⟨h1, h2⟩ := hjr
      have ho := h.one r h1
      rw [h2] at ho
      have hrn : r < n := Nat.lt_of_lt_of_le h1 h.len
      rw [pivQ_here (by omega) (by rw [ho r hrn, if_pos rfl]; decide)]
      simp only
      have hsw : swapL Y r r = Y := by
        unfold swapL
        rw [mrow_eq (by omega), List.set_getElem_self, List.set_getElem_self]
      rw [hsw]
      have hcl : clearQ Y j r = some Y := by
        unfold clearQ
        rw [ho r hrn, if_pos rfl, div_row (h.good.row hrn).1 _ (Nat.le_refl _)]
        show iterO (elimStep r j) Y.length (Y.set r (mrow Y r)) = some Y
        rw [mrow_eq (by omega), List.set_getElem_self]
        refine elim_none (fun i hi => ?_) _
        by_cases hin : i < n
        · rw [ho i hin, if_neg hi]
        · unfold qel qat mrow
          rw [List.getD_eq_getElem?_getD (l := Y), List.getElem?_eq_none (by omega)]; rfl
      rw [hcl]
      show some (Y, ps.filter (· < j) ++ [j]) = _
      congr 2
      have h3 := cnt_range h.srt (j + 1)
      have h4 : (ps.filter (· < j + 1)).length = r + 1 := by
        have : ps.filter (· < j + 1) = ps.take (r + 1) := by
          conv => lhs; rw [← List.take_append_drop (r + 1) ps]
          rw [List.filter_append]
          have e1 : (ps.take (r + 1)).filter (· < j + 1) = ps.take (r + 1) := by
            rw [List.filter_eq_self]
            intro a ha
            obtain ⟨i, hi, e⟩ := List.mem_iff_getElem.1 ha
            rw [List.length_take] at hi
            rw [List.getElem_take] at e
            have e2 : ps.getD i 0 = a := by rw [List.getD_eq_getElem?_getD, List.getElem?_eq_getElem (by omega)]; exact e
            by_cases hir : i < r
            · have := hlt i hir; simp; omega
            · have : i = r := by omega
              subst this; simp; omega
          have e2 : (ps.drop (r + 1)).filter (· < j + 1) = [] := by
            rw [List.filter_eq_nil_iff]
            intro a ha
            obtain ⟨i, hi, e⟩ := List.mem_iff_getElem.1 ha
            rw [List.length_drop] at hi
            rw [List.getElem_drop] at e
            have e2 : ps.getD (r + 1 + i) 0 = a := by rw [List.getD_eq_getElem?_getD, List.getElem?_eq_getElem (by omega)]; exact e
            have := getD_lt h.srt (i := r) (j := r + 1 + i) (by omega) (by omega)
            simp; omega
          rw [e1, e2, List.append_nil]
        rw [this, List.length_take]; omega
      rw [h3, h4, hc, List.take_add_one, List.getElem?_eq_getElem h1]
      rw [List.getD_eq_getElem?_getD, List.getElem?_eq_getElem h1] at h2
      rw [show ps[r] = j from h2]; rfl
    · have hno : j ∉ ps := fun hm => by
        obtain ⟨k, hk, e⟩ := List.mem_iff_getElem.1 hm
        have e2 : ps.getD k 0 = j := by rw [List.getD_eq_getElem?_getD, List.getElem?_eq_getElem hk]; exact e
        by_cases hkr : k < r
        · have := hlt k hkr; omega
        · rcases Nat.lt_or_eq_of_le (show r ≤ k by omega) with h1 | h1
          · have := getD_lt h.srt h1 hk
            have := hge r (Nat.le_refl _) (by omega)
            omega
          · subst h1; exact hjr ⟨hk, e2⟩
      rw [pivQ_no (fun i hi hin => h.zer i (by omega) j (by omega) fun hil => by
        have := hge i hi hil
        rcases Nat.lt_or_eq_of_le this with h1 | h1
        · exact h1
        · exact absurd (h1 ▸ getD_mem hil) hno)]
      show some (Y, ps.filter (· < j)) = _
      congr 2
      apply List.filter_congr
      intro a ha
      have : a ≠ j := fun e => hno (e ▸ ha)
      simp; omega
end Go.Av
end
section
namespace Go.Av
open Go.Proofs
/-- A vector of zeros: nothing, or a block. -/
def ZerV (n : Nat) (v : AV) (M : Mem) : Prop := (n = 0 ∧ v = .nil ∧ M = Mem.emp) ∨ ∃ b, v = .osl b 4 0 n ∧ M = Mem.emp.set b ⟨36, 4, rrs (List.replicate n (ofQ 0))⟩
/-- A list that grows, alone in memory. -/
structure LstO (M : Mem) (ty : TypeId) (z : Nat) (ov : AV) (ob : List Nat) (l : List AV) : Prop where
  lst : LstV M ty z ov ob l
  only : OnlyM M ob
section
variable {M : Mem} {ov : AV} {ty : TypeId} {z : Nat} {ob : List Nat} {l : List AV}
theorem LstO.start (ty : TypeId) (z : Nat) : LstO Mem.emp ty z .nil [] [] := ⟨.inl ⟨rfl, rfl, rfl⟩, fun _ h => absurd rfl h⟩
theorem LstO.ones (h : LstO M ty z ov ob l) (hl : ∀ v ∈ l, v.cells.all AV.one = true) : OnesM M := by
  intro b y hy
  have hb := h.only b (by rw [hy]; simp)
  rcases h.lst with ⟨_, h1, _⟩ | ⟨b', h1, _, h3⟩
  · rw [h1] at hb; cases hb
  · rw [h1] at hb
    simp at hb
    subst hb
    rw [h3] at hy; cases hy
    exact hl
theorem LstO.push0 (h : LstO M ty z .nil [] []) (b : Nat) (v : AV) : LstO (M.set b ⟨ty, z, [v]⟩) ty z (.osl b z 0 1) [b] [v] :=
  ⟨.inr ⟨b, rfl, rfl, by simp⟩, (h.only.sub fun a ha => by cases ha).set (by simp) _⟩
theorem LstO.push1 {b0 : Nat} (h : LstO M ty z (.osl b0 z 0 l.length) [b0] l) (b : Nat) (v : AV) : LstO ((M.del b0).set b ⟨ty, z, l ++ [v]⟩) ty z (.osl b z 0 (l.length + 1)) [b] (l ++ [v]) := by
  refine ⟨.inr ⟨b, rfl, by simp, by simp⟩, OnlyM.set (l := [b]) (fun a ha => ?_) (by simp) _⟩
  by_cases h1 : a = b0
  · subst h1; exact absurd (if_pos rfl) ha
  · have e : (M.del b0) a = M a := if_neg h1
    rw [e] at ha
    have := h.only a ha
    simp at this
    exact absurd this h1
end
structure KerS7 where
  M : Mem
  ov : AV
  ob : List Nat
def InvK7 (Y : List (List Rat)) (ps : List Nat) (w j : Nat) (s : KerS7) : Prop := LstO s.M 42 1 s.ov s.ob ((emb (kerP Y ps w j)).map rowAV)
theorem rowAV_ones (X : List (List Rat)) : ∀ v ∈ (emb X).map rowAV, v.cells.all AV.one = true := by
  intro v hv
  obtain ⟨r, _, rfl⟩ := List.mem_map.1 hv
  rfl
end Go.Av
end
section
namespace Go.Av
open Go.Proofs
def entStep (r : List Rat) (b : List (List Rat)) (j k : Nat) (s : Rat) : Option Rat := (mulQ (qat r k) (qel b k j)).bind (addQ s)
def entQ (r : List Rat) (b : List (List Rat)) (j : Nat) : Option Rat := iterO (entStep r b j) b.length 0
def tmCol (r : List Rat) (b : List (List Rat)) (j : Nat) (acc : List Rat) : Option (List Rat) := (entQ r b j).map fun x => acc ++ [x]
def tmStep (a b : List (List Rat)) (w i : Nat) (acc : List (List Rat)) : Option (List (List Rat)) := (iterO (tmCol (mrow a i) b) w []).map fun r => acc ++ [r]
def timesQ (a b : List (List Rat)) : Option (List (List Rat)) := iterO (tmStep a b (mrow b 0).length) a.length []
noncomputable def timR (a b : List (List RR)) : Int × List (List Rat) :=
  if chk a ≠ 0 then (chk a, []) else if chk b ≠ 0 then (chk b, []) else if (mrow a 0).length ≠ b.length then (1, []) else
  match timesQ (unq a) (unq b) with
  | none => (2, [])
  | some Y => (0, Y)
theorem ent_good {r : List Rat} {b : List (List Rat)} {j : Nat} : ∀ {k : Nat} {q : Rat}, iterO (entStep r b j) k 0 = some q → Good q
  | 0, q, h => by cases h; exact good_zero
  | k + 1, q, h => by
    rw [iterO_succ] at h
    cases hs : iterO (entStep r b j) k 0 with
    | none => rw [hs] at h; cases h
    | some s =>
      rw [hs] at h
      replace h : (mulQ (qat r k) (qel b k j)).bind (addQ s) = some q := h
      cases hm : mulQ (qat r k) (qel b k j) with
      | none => rw [hm] at h; cases h
      | some m => rw [hm] at h; exact good_add h
theorem tmCol_keep {r : List Rat} {b : List (List Rat)} : ∀ {j : Nat} {acc : List Rat}, iterO (tmCol r b) j [] = some acc → acc.length = j ∧ rowGood acc
  | 0, acc, h => by cases h; exact ⟨rfl, fun q hq => (by cases hq)⟩
  | j + 1, acc, h => by
    rw [iterO_succ] at h
    cases hs : iterO (tmCol r b) j [] with
    | none => rw [hs] at h; cases h
    | some a0 =>
      rw [hs] at h
      obtain ⟨h1, h2⟩ := tmCol_keep hs
      replace h : (entQ r b j).map (fun x => a0 ++ [x]) = some acc := h
      cases he : entQ r b j with
      | none => rw [he] at h; cases h
      | some x =>
        rw [he] at h
        cases h
        refine ⟨by simp [h1], fun q hq => ?_⟩
        rcases List.mem_append.1 hq with hq | hq
        · exact h2 q hq
        · simp at hq; subst hq; exact ent_good he
theorem tm_keep {a b : List (List Rat)} {w : Nat} : ∀ {i : Nat} {Y : List (List Rat)}, iterO (tmStep a b w) i [] = some Y → matGood i w Y
  | 0, Y, h => by cases h; exact ⟨fun r hr => (by cases hr), fun i hi => (by cases hi), rfl⟩
  | i + 1, Y, h => by
    rw [iterO_succ] at h
    cases hs : iterO (tmStep a b w) i [] with
    | none => rw [hs] at h; cases h
    | some Y0 =>
      rw [hs] at h
      obtain ⟨h1, h2, h3⟩ := tm_keep hs
      replace h : (iterO (tmCol (mrow a i) b) w []).map (fun r => Y0 ++ [r]) = some Y := h
      cases he : iterO (tmCol (mrow a i) b) w [] with
      | none => rw [he] at h; cases h
      | some r =>
        rw [he] at h
        cases h
        obtain ⟨k1, k2⟩ := tmCol_keep he
        refine ⟨fun x hx => ?_, fun i hi => ?_, by simp [h3]⟩
        · rcases List.mem_append.1 hx with hx | hx
          · exact h1 x hx
          · simp at hx; subst hx; exact k2
        · rw [mrow_snoc Y0 r i (by simpa using hi)]
          split
          · exact h2 i (by assumption)
          · exact k1
theorem rr_app {acc : List Rat} {j n : Nat} (h : acc.length = j) (hn : j < n) : rr ((acc ++ List.replicate (n - j) 0).map ofQ) j = ofQ 0 := by
  rw [rr_map (by simp; omega)]
  congr 1
  unfold qat
  rw [List.getD_eq_getElem?_getD, List.getElem?_append_right (by omega), h, Nat.sub_self, List.getElem?_replicate, if_pos (by omega)]
  rfl
theorem app_set {acc : List Rat} {j n : Nat} (h : acc.length = j) (hn : j < n) (q : Rat) : (acc ++ List.replicate (n - j) 0).set j q = acc ++ [q] ++ List.replicate (n - (j + 1)) 0 := by
  rw [List.set_append_right _ _ (by omega), h, Nat.sub_self, show n - j = (n - (j + 1)) + 1 by omega, List.replicate_succ, List.set_cons_zero, List.append_assoc]
  rfl
theorem set_rr {v : List RR} {j : Nat} (h : j < v.length) : v.set j (rr v j) = v := by rw [rr_eq h, List.set_getElem_self]
/-- The memory while a row is computed. -/
def TM (M : Mem) (c B bv : Nat) (x : AV) (v : List RR) (H : List AV) : Mem := ((M.set c ⟨61, 1, [x]⟩).set bv ⟨36, 4, rrs v⟩).set B ⟨42, 1, H⟩
section
variable {M : Mem} {c B bv : Nat} {x x' : AV} {v v' : List RR} {H : List AV}
theorem TM_c (h1 : c ≠ B) (h2 : c ≠ bv) : (TM M c B bv x v H).set c ⟨61, 1, [x']⟩ = TM M c B bv x' v H := by
  unfold TM; funext k; simp only [set_at]
  by_cases e : k = c
  · subst e; simp [h1, h2]
  · simp [e]
theorem TM_v (h1 : bv ≠ B) : (TM M c B bv x v H).set bv ⟨36, 4, rrs v'⟩ = TM M c B bv x v' H := by
  unfold TM; funext k; simp only [set_at]
  by_cases e : k = bv
  · subst e; simp [h1]
  · simp [e]
theorem TM_cell (h1 : c ≠ B) (h2 : c ≠ bv) (h3 : bv ≠ B) : TM M c B bv x v H = ((M.set bv ⟨36, 4, rrs v⟩).set B ⟨42, 1, H⟩).set c ⟨61, 1, [x]⟩ := by
  unfold TM; funext k; simp only [set_at]
  by_cases e : k = c
  · subst e; simp [h1, h2]
  · simp [e]
theorem TM_at (h1 : c ≠ B) (h2 : c ≠ bv) (h3 : bv ≠ B) : TM M c B bv x v H c = some ⟨61, 1, [x]⟩ ∧ TM M c B bv x v H bv = some ⟨36, 4, rrs v⟩ ∧ TM M c B bv x v H B = some ⟨42, 1, H⟩ := by
  unfold TM; simp [h1, h2, h3]
end
structure TimS where
  M : Mem
  bs : List Nat
  Y : List (List Rat)
  x : AV
def InvT (c B : Nat) (a b : List (List Rat)) (w n i : Nat) (s : TimS) : Prop :=
  iterO (tmStep a b w) i [] = some s.Y ∧ MatP s.M B s.bs (emb s.Y) (n - i) ∧ s.M c = none ∧ isE s.x 0
set_option maxHeartbeats 1000000
theorem timesL_call (a b : List (List RR)) (ha : LbM a) (hb : LbM b) : ACall Tryz.prog 36 [matAV a, matAV b] Mem.emp fun v mm => v = .tup [matAV (emb (timR a b).2), .int .i64 (timR a b).1] ∧ mm = Mem.emp := by
  have hca := check_call a ha
  have hcb := check_call b hb
  have hwa := width_call a
  have hwb := width_call b
  by_cases h0 : chk a = 0
  · rw [h0] at hca
    by_cases h1 : chk b = 0
    · rw [h1] at hcb
      by_cases h2 : (mrow a 0).length = b.length
      · have hT : timR a b = match timesQ (unq a) (unq b) with
          | none => (2, [])
          | some Y => (0, Y) := by unfold timR; rw [if_neg (by simp [h0]), if_neg (by simp [h1]), if_neg (by simp [h2])] <;> rfl
        rw [hT]
        clear hT
        obtain ⟨a1, a2, a3, a4, a5⟩ := chk_emb ha h0
        obtain ⟨b1, b2, b3, b4, b5⟩ := chk_emb hb h1
        have hla := unq_length a
        have hlb := unq_length b
        have ea : (mrow (unq a) 0).length = (mrow a 0).length := by rw [unq_row, List.length_map]
        have eb : (mrow (unq b) 0).length = (mrow b 0).length := by rw [unq_row, List.length_map]
        have hq : timesQ (unq a) (unq b) = iterO (tmStep (unq a) (unq b) (mrow b 0).length) a.length [] := by unfold timesQ; rw [eb, hla]
        rw [ea] at a3 a5
        rw [eb] at b3 b5
        rw [h2] at hwa a3
        rw [hq]
        generalize (mrow b 0).length = w at *
        generalize unq a = A at *
        generalize unq b = N at *
        subst a1 b1
        rw [emb_length] at *
        generalize hn : A.length = n at *
        generalize hm : N.length = m at *
        have hz := vector_call w (by omega)
        refine acall_S Tryz.func36 rfl rfl 101 rfl (Nat.le_of_ble_eq_true rfl) ?_
        (repeat refine AW.seq_k fun K hK => ?_)
        refine AW.rg ?_
        simp [argsL]
        try (refine hK _ rfl ?_; clear hK; clear K)
        (repeat refine AW.seq_k fun K hK => ?_)
        refine AW.rg ?_
        simp
        try (refine hK _ rfl ?_; clear hK; clear K)
        refine CallK.val hca ?_
        simp
        refine hK _ rfl ?_
        clear hK
        clear K
        (repeat refine AW.seq_k fun K hK => ?_)
        refine AW.rg ?_
        simp
        try (refine hK _ rfl ?_; clear hK; clear K)
        refine AW.no ?_ rfl
        refine AW.skip ?_
        try simp
        refine hK _ rfl ?_
        clear hK
        clear K
        (repeat refine AW.seq_k fun K hK => ?_)
        refine AW.rg ?_
        simp
        try (refine hK _ rfl ?_; clear hK; clear K)
        refine CallK.val hcb ?_
        simp
        refine hK _ rfl ?_
        clear hK
        clear K
        (repeat refine AW.seq_k fun K hK => ?_)
        refine AW.rg ?_
        simp
        try (refine hK _ rfl ?_; clear hK; clear K)
        refine AW.no ?_ rfl
        refine AW.skip ?_
        try simp
        refine hK _ rfl ?_
        clear hK
        clear K
        (repeat refine AW.seq_k fun K hK => ?_)
        refine AW.rg ?_
        simp
        try (refine hK _ rfl ?_; clear hK; clear K)
        refine CallK.val hwa ?_
        simp [emb_length, hm]
        refine hK _ rfl ?_
        clear hK
        clear K
        refine AW.no ?_ rfl
        refine AW.skip ?_
        try simp
        refine hK _ rfl ?_
        clear hK
        clear K
        (repeat refine AW.seq_k fun K hK => ?_)
        refine AW.rg ?_
        simp
        try (refine hK _ rfl ?_; clear hK; clear K)
        refine Fresh.intro fun c _ => ?_
        refine hK _ rfl ?_
        clear hK
        clear K
        (repeat refine AW.seq_k fun K hK => ?_)
        refine AW.rg ?_
        simp [emb_length, hn]
        try (refine hK _ rfl ?_; clear hK; clear K)
        refine ⟨by omega, Fresh.intro fun B hB => ?_⟩
        refine hK _ rfl ?_
        clear hK
        clear K
        have hcB : c ≠ B := by rintro rfl; simp at hB
        refine AW.seq_ex (ι := TimS) (fun s => [(9, .osl B 1 0 n)]) (fun s => s.M.set c ⟨61, 1, [s.x]⟩) (fun s => InvT c B A N w n n s) ?_ ?_
        · (repeat refine AW.seq_k fun K hK => ?_)
          refine AW.rg ?_
          simp [emb_length, hn]
          try (refine hK _ rfl ?_; clear hK; clear K)
          refine AW.block (AW.loopS (ι := Nat × TimS) (fun z => [(0, matAV (emb A)), (1, matAV (emb N)), (8, .ptr c 1 0 0), (9, .osl B 1 0 n), (34, .int .i64 (n : Nat)), (35, .int .i64 (z.1 : Nat))]) (fun z => z.2.M.set c ⟨61, 1, [z.2.x]⟩) (fun z => z.1 ≤ n ∧ InvT c B A N w n z.1 z.2) (fun z => n - z.1) (0, ⟨Mem.emp.set B ⟨42, 1, List.replicate n .nil⟩, [], [], .agg [.int .i64 0]⟩) ⟨by simp, rfl, ⟨by simp [hdrs, emb], rfl, fun i hi => (by simp [emb] at hi), by simp, by simp, fun b hb => by
            simp only [set_at, emp_at] at hb
            by_cases h : b = B
            · simp [h]
            · simp [h] at hb⟩, by simp [hcB], rfl⟩ ?_ (by simp) ?_)
          · simp only
            funext k
            simp only [set_at]
            by_cases e : k = c
            · subst e; simp [hcB]
            · simp [e]
          rintro ⟨i, M, bs, Y, x⟩ ⟨g1, g2, g3, g4, g5⟩
          simp only at g1 g2 g3 g4 g5
          simp only
          (repeat refine AW.seq_k fun K hK => ?_)
          refine AW.rg ?_
          simp
          try (refine hK _ rfl ?_; clear hK; clear K)
          (repeat refine AW.seq ?_)
          refine AW.cs (fun hi => ?_) (fun hi => ?_) rfl <;> (try simp at hi)
          · refine AW.skip ?_
            try simp
            have w1 : IntKind.i64.wrap ((i + 1 : Nat) : Int) = ((i + 1 : Nat) : Int) := wi (by omega)
            have hst : iterO (tmStep A N w) (i + 1) [] = (iterO (tmCol (mrow A i) N) w []).map fun r => Y ++ [r] := by rw [iterO_succ, g2]; rfl
            obtain ⟨_, _, hYl⟩ := tm_keep g2
            refine AW.seq_ex (ι := TimS) (fun s => [(0, matAV (emb A)), (1, matAV (emb N)), (8, .ptr c 1 0 0), (9, .osl B 1 0 n), (34, .int .i64 (n : Nat)), (35, .int .i64 (i : Nat))]) (fun s => s.M.set c ⟨61, 1, [s.x]⟩) (fun s => InvT c B A N w n (i + 1) s) ?_ ?_
            · (repeat refine AW.seq ?_)
              refine AW.block ?_
              (repeat refine AW.seq_k fun K hK => ?_)
              refine AW.rg ?_
              simp
              try (refine hK _ rfl ?_; clear hK; clear K)
              (repeat refine AW.seq_k fun K hK => ?_)
              refine AW.rg ?_
              simp
              try (refine hK _ rfl ?_; clear hK; clear K)
              refine CallK.val hwb ?_
              simp
              refine CallK.make hz ?_
              rintro bv _ _ ⟨rfl, rfl⟩ hbv _
              simp only [set_none2, emp_at, and_true] at hbv
              obtain ⟨⟨v1, v2⟩, v3⟩ := hbv
              have hbB : bv ≠ B := by rintro rfl; rw [g3.top] at v3; cases v3
              have hhl : (hdrs bs (emb Y)).length = i := by rw [hdrs_length g3.len, emb_length, hYl]
              have htop := g3.top
              have hni : n - i = n - (i + 1) + 1 := by omega
              have hH0 : (hdrs bs (emb Y) ++ List.replicate (n - i) AV.nil)[i]? = some .nil := by
                rw [List.getElem?_append_right (by omega), hhl, Nat.sub_self, List.getElem?_replicate, if_pos (by omega)]
              have hH : ((hdrs bs (emb Y) ++ List.replicate (n - i) AV.nil).set i (.osl bv 4 0 w))[i]? = some (.osl bv 4 0 w) := by
                rw [List.getElem?_set_self (by simp [hhl]; omega)]
              have hstep : ∀ r : List RR, r.length = w → MatP ((M.set bv ⟨36, 4, rrs r⟩).set B ⟨42, 1, (hdrs bs (emb Y) ++ List.replicate (n - i) AV.nil).set i (.osl bv 4 0 w)⟩) B (bs ++ [bv]) (emb Y ++ [r]) (n - (i + 1)) := by
                intro r hr
                rw [hni] at g3 ⊢
                have := g3.step v3 r
                rw [emb_length, hYl, hr] at this
                exact this
              generalize hdrs bs (emb Y) ++ List.replicate (n - i) AV.nil = H0 at *
              simp [hi, hcB, Ne.symm hcB, hbB, Ne.symm hbB, htop, hH0]
              refine hK _ rfl ?_
              clear hK
              clear K
              generalize H0.set i (.osl bv 4 0 w) = H at *
              change AW _ _ _ (S 101 _ (TM M c B bv x (List.replicate w (ofQ 0)) H))
              have v2' : c ≠ bv := v2
              have hai : i < A.length := by omega
              have hra : (mrow A i).length = m := by rw [a3 i hai]
              have hraE : (mrow (emb A) i).length = m := by rw [emb_row, List.length_map, hra]
              refine AW.seq_ex (ι := AV × Int × List RR) (fun _ => [(0, matAV (emb A)), (1, matAV (emb N)), (8, .ptr c 1 0 0), (9, .osl B 1 0 n), (10, .int .i64 (i : Nat)), (34, .int .i64 (n : Nat)), (35, .int .i64 (i : Nat))]) (fun z => TM M c B bv z.1 z.2.2 H) (fun z => isE z.1 z.2.1 ∧ (∀ y ∈ z.2.2, y.Lb) ∧ z.2.2.length = w ∧ VMode z.2.1 z.2.2 (iterO (tmCol (mrow A i) N) w [])) ?_ ?_
              · (repeat refine AW.seq_k fun K hK => ?_)
                refine AW.rg ?_
                simp [hi, (TM_at hcB v2' hbB).2.2, hH]
                try (refine hK _ rfl ?_; clear hK; clear K)
                refine AW.block (AW.loopS (ι := Nat × AV × Int × List RR) (fun z => [(0, matAV (emb A)), (1, matAV (emb N)), (8, .ptr c 1 0 0), (9, .osl B 1 0 n), (10, .int .i64 (i : Nat)), (34, .int .i64 (n : Nat)), (35, .int .i64 (i : Nat)), (48, .int .i64 w), (49, .int .i64 (z.1 : Nat))]) (fun z => TM M c B bv z.2.1 z.2.2.2 H) (fun z => z.1 ≤ w ∧ isE z.2.1 z.2.2.1 ∧ (∀ y ∈ z.2.2.2, y.Lb) ∧ z.2.2.2.length = w ∧ VMode z.2.2.1 z.2.2.2 ((iterO (tmCol (mrow A i) N) z.1 []).map fun acc => acc ++ List.replicate (w - z.1) 0)) (fun z => w - z.1) (0, x, 0, List.replicate w (ofQ 0)) ⟨by simp, g5, ?_, by simp, rfl, by simp [iterO], ?_⟩ rfl (by simp) ?_)
                · intro y hy; rw [List.eq_of_mem_replicate hy]; exact ofQ_lb 0
                · intro q hq
                  simp [iterO] at hq
                  rw [hq.2]; exact good_zero
                rintro ⟨j, x, e, v⟩ ⟨q1, q2, q3, q4, q5⟩
                simp only at q1 q2 q3 q4 q5
                simp only
                (repeat refine AW.seq_k fun K hK => ?_)
                refine AW.rg ?_
                simp
                try (refine hK _ rfl ?_; clear hK; clear K)
                (repeat refine AW.seq ?_)
                refine AW.cs (fun hj => ?_) (fun hj => ?_) rfl <;> (try simp at hj)
                · refine AW.skip ?_
                  try simp
                  have w2 : IntKind.i64.wrap ((j + 1 : Nat) : Int) = ((j + 1 : Nat) : Int) := wi (by omega)
                  have hj1 : iterO (tmCol (mrow A i) N) (j + 1) [] = (iterO (tmCol (mrow A i) N) j []).bind (tmCol (mrow A i) N j) := rfl
                  generalize hZ : iterO (tmCol (mrow A i) N) j [] = Z at *
                  have hZl : ∀ acc, Z = some acc → acc.length = j := fun acc h => by rw [h] at hZ; exact (tmCol_keep hZ).1
                  refine AW.seq_ex (ι := AV × Int × RR) (fun _ => [(0, matAV (emb A)), (1, matAV (emb N)), (8, .ptr c 1 0 0), (9, .osl B 1 0 n), (10, .int .i64 (i : Nat)), (34, .int .i64 (n : Nat)), (35, .int .i64 (i : Nat)), (48, .int .i64 w), (49, .int .i64 (j : Nat))]) (fun z => TM M c B bv z.1 (v.set j z.2.2) H) (fun z => isE z.1 z.2.1 ∧ z.2.2.Lb ∧ OneM z.2.1 z.2.2 (Z.bind fun _ => entQ (mrow A i) N j)) ?_ ?_
                  · (repeat refine AW.seq ?_)
                    refine AW.block ?_
                    (repeat refine AW.seq_k fun K hK => ?_)
                    refine AW.rg ?_
                    simp
                    try (refine hK _ rfl ?_; clear hK; clear K)
                    (repeat refine AW.seq_k fun K hK => ?_)
                    refine AW.rg ?_
                    simp [emb_length, hm]
                    try (refine hK _ rfl ?_; clear hK; clear K)
                    refine AW.block (AW.loopS (ι := Nat × AV × Int × RR) (fun z => [(0, matAV (emb A)), (1, matAV (emb N)), (8, .ptr c 1 0 0), (9, .osl B 1 0 n), (10, .int .i64 (i : Nat)), (34, .int .i64 (n : Nat)), (35, .int .i64 (i : Nat)), (11, .int .i64 (j : Nat)), (48, .int .i64 w), (49, .int .i64 (j : Nat)), (53, .int .i64 m), (54, .int .i64 (z.1 : Nat))]) (fun z => TM M c B bv z.2.1 (v.set j z.2.2.2) H) (fun z => z.1 ≤ m ∧ isE z.2.1 z.2.2.1 ∧ z.2.2.2.Lb ∧ OneM z.2.2.1 z.2.2.2 (Z.bind fun _ => iterO (entStep (mrow A i) N j) z.1 0)) (fun z => m - z.1) (0, x, e, rr v j) ⟨by simp, q2, rr_lb q3 j, ?_⟩ ?_ (by simp) ?_)
                    · cases Z with
                      | none => exact q5
                      | some acc =>
                        obtain ⟨m1, m2, m3⟩ : e = 0 ∧ v = List.map ofQ (acc ++ List.replicate (w - j) (0 : Rat)) ∧ rowGood (acc ++ List.replicate (w - j) 0) := q5
                        exact ⟨m1, by rw [m2]; exact rr_app (hZl acc rfl) hj, good_zero⟩
                    · simp only
                      rw [set_rr (by omega)]
                    rintro ⟨k, x, e, s⟩ ⟨k1, k2, k3, k4⟩
                    simp only at k1 k2 k3 k4
                    simp only
                    (repeat refine AW.seq_k fun K hK => ?_)
                    refine AW.rg ?_
                    simp
                    try (refine hK _ rfl ?_; clear hK; clear K)
                    (repeat refine AW.seq ?_)
                    refine AW.cs (fun hk => ?_) (fun hk => ?_) rfl <;> (try simp at hk)
                    · refine AW.skip ?_
                      try simp
                      have w3 : IntKind.i64.wrap ((k + 1 : Nat) : Int) = ((k + 1 : Nat) : Int) := wi (by omega)
                      (repeat refine AW.seq ?_)
                      refine AW.block ?_
                      (repeat refine AW.seq_k fun K hK => ?_)
                      refine AW.rg ?_
                      simp
                      try (refine hK _ rfl ?_; clear hK; clear K)
                      have hkr : k < (mrow A i).length := by omega
                      have hkN : k < N.length := by omega
                      have hkE : k < (emb N).length := by rw [emb_length]; exact hkN
                      have hiE : i < (emb A).length := by rw [emb_length]; exact hai
                      have hlk : (mrow (emb N) k).length = w := by rw [emb_row, List.length_map]; exact b3 k hkN
                      have hjl : j < (mrow N k).length := by rw [b3 k hkN]; exact hj
                      have e1 : rr (mrow (emb A) i) k = ofQ (qat (mrow A i) k) := by rw [emb_row, rr_map hkr]
                      have e2 : rr (mrow (emb N) k) j = ofQ (qel N k j) := by rw [emb_row, rr_map hjl]; rfl
                      have y1 : Good (qat (mrow A i) k) := a2.at hkr
                      have y2 : Good (qel N k j) := b2.at hjl
                      have hvl : (v.set j s).length = w := by rw [List.length_set]; exact q4
                      have e3 : rr (v.set j s) j = s := by
                        unfold rr; rw [List.getD_eq_getElem?_getD, List.getElem?_set_self (by omega)]; rfl
                      obtain ⟨t1, t2, t3⟩ := TM_at (M := M) (x := x) (v := v.set j s) (H := H) hcB v2' hbB
                      (repeat refine AW.seq_k fun K hK => ?_)
                      refine AW.rdT [] [] [] [B, bv] [0, 1, 2, 3, 4, 5, 6, 7, 8, 9, 10, 11, 12, 13, 14, 15, 16, 17, 18, 19, 20, 21, 22, 23, 24, 25, 26, 27, 28, 29, 30, 31] mix (by simp [hi, hj, hk, t1, t2, t3, hH, hiE, hraE, hkE, hlk, e1, e2, hvl, e3]) (by simp [hi, hj, hk, t1, t2, t3, hH, hiE, hraE, hkE, hlk, e1, e2, hvl, e3]) (by simp [hi, hj, hk, t1, t2, t3, hH, hiE, hraE, hkE, hlk, e1, e2, hvl, e3]) (by simp [hi, hj, hk, t1, t2, t3, hH, hiE, hraE, hkE, hlk, e1, e2, hvl, e3]) (by simp [hi, hj, hk, t1, t2, t3, hH, hiE, hraE, hkE, hlk, e1, e2, hvl, e3]) ?_
                      simp [hi, hj, hk, t1, t2, t3, hH, hiE, hraE, hkE, hlk, e1, e2, hvl, e3]
                      try (refine hK _ rfl ?_; clear hK; clear K)
                      refine nmul_K (a := ofQ (qat (mrow A i) k)) (b := ofQ (qel N k j)) (x := x) (e := e) t1 (by simp [hcB, v2']) k2 (ofQ_lb _) (ofQ_lb _) (fun he => ⟨ofQ_ok y1, ofQ_ok y2⟩) ?_
                      intro x1 hx1
                      have hplb : (nOut e (ofQ (qat (mrow A i) k)) (mulQ (ofQ (qat (mrow A i) k)).q (ofQ (qel N k j)).q)).2.Lb := nOut_lb (ofQ_lb _)
                      have hds := dot_step k4 (fun _ => ⟨ofQ_q _, ofQ_q _⟩) (a := ofQ (qat (mrow A i) k)) (b := ofQ (qel N k j)) (e1 := (nOut e (ofQ (qat (mrow A i) k)) (mulQ (ofQ (qat (mrow A i) k)).q (ofQ (qel N k j)).q)).1) (p := (nOut e (ofQ (qat (mrow A i) k)) (mulQ (ofQ (qat (mrow A i) k)).q (ofQ (qel N k j)).q)).2) rfl
                      generalize (nOut e (ofQ (qat (mrow A i) k)) (mulQ (ofQ (qat (mrow A i) k)).q (ofQ (qel N k j)).q)) = ep at *
                      obtain ⟨e1', p⟩ := ep
                      simp only at hx1 hplb hds
                      rw [TM_c hcB v2']
                      obtain ⟨t4, t5, t6⟩ := TM_at (M := M) (x := x1) (v := v.set j s) (H := H) hcB v2' hbB
                      simp
                      refine nadd_K (a := s) (b := p) (x := x1) (e := e1') t4 (by simp [hcB, v2']) hx1 k3 hplb (fun he => ⟨k4.ok (hds.2 he).1, (hds.2 he).2⟩) ?_
                      intro x2 hx2
                      have hslb : (nOut e1' s (addQ s.q p.q)).2.Lb := nOut_lb k3
                      replace hds := hds.1
                      generalize nOut e1' s (addQ s.q p.q) = ep at *
                      obtain ⟨e2', s2⟩ := ep
                      simp only at hx2 hslb hds
                      rw [TM_c hcB v2']
                      obtain ⟨t7, t8, t9⟩ := TM_at (M := M) (x := x2) (v := v.set j s) (H := H) hcB v2' hbB
                      simp [hj, hk, t7, t8, t9, hH, hvl]
                      (repeat refine AW.seq_k fun K hK => ?_)
                      refine AW.rg ?_
                      simp [-Int.natCast_add, w3]
                      try (refine hK _ rfl ?_; clear hK; clear K)
                      refine ⟨k + 1, x2, e2', s2, ⟨hk, hx2, hslb, ?_⟩, by omega, ?_, rfl⟩
                      · cases Z with
                        | none => exact hds
                        | some acc =>
                          show OneM e2' s2 (iterO (entStep (mrow A i) N j) (k + 1) 0)
                          rw [iterO_succ]
                          exact hds
                      · rw [TM_v hbB]
                    · refine AW.exit ?_
                      try simp
                      have : k = m := by omega
                      subst this
                      refine ⟨x, e, s, ⟨k2, k3, ?_⟩, rfl⟩
                      unfold entQ
                      rw [hm]
                      exact k4
                  rintro ⟨x', e', s⟩ ⟨k2, k3, k4⟩
                  simp only at k2 k3 k4
                  simp only
                  (repeat refine AW.seq_k fun K hK => ?_)
                  refine AW.rg ?_
                  simp [-Int.natCast_add, w2]
                  try (refine hK _ rfl ?_; clear hK; clear K)
                  refine ⟨j + 1, x', e', v.set j s, ⟨hj, k2, lb_set q3 j k3, by rw [List.length_set]; exact q4, ?_⟩, by omega, rfl, rfl⟩
                  rw [hj1]
                  cases Z with
                  | none => exact k4
                  | some acc =>
                    obtain ⟨m1, m2, m3⟩ : e = 0 ∧ v = List.map ofQ (acc ++ List.replicate (w - j) (0 : Rat)) ∧ rowGood (acc ++ List.replicate (w - j) 0) := q5
                    replace k4 : OneM e' s (entQ (mrow A i) N j) := k4
                    show VMode e' (v.set j s) ((tmCol (mrow A i) N j acc).map _)
                    unfold tmCol
                    cases hen : entQ (mrow A i) N j with
                    | none => rw [hen] at k4; exact k4
                    | some z =>
                      rw [hen] at k4
                      obtain ⟨p1, rfl, p3⟩ : e' = 0 ∧ s = ofQ z ∧ Good z := k4
                      refine ⟨p1, ?_, ?_⟩
                      · rw [m2, ← List.map_set, app_set (hZl acc rfl) hj]
                      · have := good_set m3 j p3
                        rw [app_set (hZl acc rfl) hj] at this
                        exact this
                · refine AW.exit ?_
                  try simp
                  have : j = w := by omega
                  subst this
                  refine ⟨x, e, v, ⟨q2, q3, q4, q5.to ?_⟩, rfl⟩
                  simp
              rintro ⟨x, e, v⟩ ⟨q2, q3, q4, q5⟩
              simp only at q2 q3 q4 q5
              simp only
              have hxc : x.cells = [.int .i64 e] := q2
              cases hq : iterO (tmCol (mrow A i) N) w [] with
              | none =>
                rw [hq] at q5 hst
                have he : e = 2 := q5
                subst he
                have hX := iterO_none' hst (m := n) (by omega)
                rw [hX]
                (repeat refine AW.seq_k fun K hK => ?_)
                refine AW.rg ?_
                simp [(TM_at hcB v2' hbB).1, hxc]
                try (refine hK _ rfl ?_; clear hK; clear K)
                refine AW.yes ?_ rfl
                (repeat refine AW.seq_k fun K hK => ?_)
                refine AW.rdA c [0, 1, 2, 3, 4, 5] mix (by simp [(TM_at hcB v2' hbB).1, hxc]) ?_
                simp [(TM_at hcB v2' hbB).1, hxc]
                try (refine hK _ rfl ?_; clear hK; clear K)
                exact AW.ret (ret_views [matAV [], .int .i64 2] rfl ⟨.nilsl 1, .same _, trivial⟩ ⟨rfl, rfl⟩)
              | some r =>
                rw [hq] at q5 hst
                obtain ⟨q6, q7, q8⟩ : e = 0 ∧ v = r.map ofQ ∧ rowGood r := q5
                subst q6
                (repeat refine AW.seq_k fun K hK => ?_)
                refine AW.rg ?_
                simp [(TM_at hcB v2' hbB).1, hxc]
                try (refine hK _ rfl ?_; clear hK; clear K)
                refine AW.no ?_ rfl
                refine AW.skip ?_
                try simp
                refine ⟨⟨(M.set bv ⟨36, 4, rrs v⟩).set B ⟨42, 1, H⟩, bs ++ [bv], Y ++ [r], x⟩, ⟨hst, ?_, ?_, q2⟩, ?_⟩
                · have := hstep v q4
                  rw [q7] at this ⊢
                  rw [show emb (Y ++ [r]) = emb Y ++ [r.map ofQ] by simp [emb]]
                  exact this
                · simp [hcB, v2', g4]
                · exact TM_cell hcB v2' hbB
            rintro ⟨M, bs, Y, x⟩ hs
            (repeat refine AW.seq_k fun K hK => ?_)
            refine AW.rg ?_
            simp [-Int.natCast_add, w1]
            try (refine hK _ rfl ?_; clear hK; clear K)
            exact ⟨i + 1, ⟨M, bs, Y, x⟩, ⟨hi, hs⟩, by omega, by simp⟩
          · refine AW.exit ?_
            try simp
            have : i = n := by omega
            subst this
            exact ⟨⟨M, bs, Y, x⟩, ⟨g2, g3, g4, g5⟩, by simp⟩
        rintro ⟨M, bs, Y, x⟩ ⟨g2, g3, g4, g5⟩
        simp only at g2 g3 g4 g5
        simp only
        rw [g2]
        (repeat refine AW.seq_k fun K hK => ?_)
        refine AW.rg ?_
        simp
        try (refine hK _ rfl ?_; clear hK; clear K)
        rw [Nat.sub_self] at g3
        obtain ⟨k1, k2⟩ := g3.full
        have hcb' : c ∉ bs := fun hm => by
          obtain ⟨k, hk, e⟩ := List.mem_iff_getElem.1 hm
          rw [← nb_eq hk] at e
          have := k1.row k (by rw [← k1.len]; exact hk)
          rw [e, g4] at this; cases this
        have hv := (k1.other hcB hcb' ⟨61, 1, [x]⟩).view
        have hYl : (emb Y).length = n := by rw [emb_length]; exact (tm_keep g2).2.2
        rw [hYl] at hv
        exact AW.ret (ret_views [matAV (emb Y), .int .i64 0] rfl ⟨hv, .same _, trivial⟩ ⟨rfl, rfl⟩)
      · have hT : timR a b = (1, []) := by unfold timR; rw [if_neg (by simp [h0]), if_neg (by simp [h1]), if_pos h2]
        rw [hT]
        refine acall_S Tryz.func36 rfl rfl 101 rfl (Nat.le_of_ble_eq_true rfl) ?_
        (repeat refine AW.seq_k fun K hK => ?_)
        refine AW.rg ?_
        simp [argsL]
        try (refine hK _ rfl ?_; clear hK; clear K)
        (repeat refine AW.seq_k fun K hK => ?_)
        refine AW.rg ?_
        simp
        try (refine hK _ rfl ?_; clear hK; clear K)
        refine CallK.val hca ?_
        simp
        refine hK _ rfl ?_
        clear hK
        clear K
        (repeat refine AW.seq_k fun K hK => ?_)
        refine AW.rg ?_
        simp
        try (refine hK _ rfl ?_; clear hK; clear K)
        refine AW.no ?_ rfl
        refine AW.skip ?_
        try simp
        refine hK _ rfl ?_
        clear hK
        clear K
        (repeat refine AW.seq_k fun K hK => ?_)
        refine AW.rg ?_
        simp
        try (refine hK _ rfl ?_; clear hK; clear K)
        refine CallK.val hcb ?_
        simp
        refine hK _ rfl ?_
        clear hK
        clear K
        (repeat refine AW.seq_k fun K hK => ?_)
        refine AW.rg ?_
        simp
        try (refine hK _ rfl ?_; clear hK; clear K)
        refine AW.no ?_ rfl
        refine AW.skip ?_
        try simp
        refine hK _ rfl ?_
        clear hK
        clear K
        (repeat refine AW.seq_k fun K hK => ?_)
        refine AW.rg ?_
        simp
        try (refine hK _ rfl ?_; clear hK; clear K)
        refine CallK.val hwa ?_
        simp
        refine hK _ rfl ?_
        clear hK
        clear K
        refine AW.yes ?_ (by simp [h2])
        (repeat refine AW.seq_k fun K hK => ?_)
        refine AW.rg ?_
        simp
        try (refine hK _ rfl ?_; clear hK; clear K)
        exact AW.ret (ret_views [matAV [], .int .i64 1] rfl ⟨.nilsl 1, .same _, trivial⟩ ⟨rfl, rfl⟩)
    · have hT : timR a b = (chk b, []) := by unfold timR; rw [if_neg (by simp [h0]), if_pos h1]
      rw [hT]
      generalize chk b = e at *
      refine acall_S Tryz.func36 rfl rfl 101 rfl (Nat.le_of_ble_eq_true rfl) ?_
      (repeat refine AW.seq_k fun K hK => ?_)
      refine AW.rg ?_
      simp [argsL]
      try (refine hK _ rfl ?_; clear hK; clear K)
      (repeat refine AW.seq_k fun K hK => ?_)
      refine AW.rg ?_
      simp
      try (refine hK _ rfl ?_; clear hK; clear K)
      refine CallK.val hca ?_
      simp
      refine hK _ rfl ?_
      clear hK
      clear K
      (repeat refine AW.seq_k fun K hK => ?_)
      refine AW.rg ?_
      simp
      try (refine hK _ rfl ?_; clear hK; clear K)
      refine AW.no ?_ rfl
      refine AW.skip ?_
      try simp
      refine hK _ rfl ?_
      clear hK
      clear K
      (repeat refine AW.seq_k fun K hK => ?_)
      refine AW.rg ?_
      simp
      try (refine hK _ rfl ?_; clear hK; clear K)
      refine CallK.val hcb ?_
      simp
      refine hK _ rfl ?_
      clear hK
      clear K
      (repeat refine AW.seq_k fun K hK => ?_)
      refine AW.rg ?_
      simp [h1]
      try (refine hK _ rfl ?_; clear hK; clear K)
      refine AW.yes ?_ rfl
      (repeat refine AW.seq_k fun K hK => ?_)
      refine AW.rg ?_
      simp
      try (refine hK _ rfl ?_; clear hK; clear K)
      exact AW.ret (ret_views [matAV [], .int .i64 e] rfl ⟨.nilsl 1, .same _, trivial⟩ ⟨rfl, rfl⟩)
  · have hT : timR a b = (chk a, []) := by unfold timR; rw [if_pos h0]
    rw [hT]
    generalize chk a = e at *
    refine acall_S Tryz.func36 rfl rfl 101 rfl (Nat.le_of_ble_eq_true rfl) ?_
    (repeat refine AW.seq_k fun K hK => ?_)
    refine AW.rg ?_
    simp [argsL]
    try (refine hK _ rfl ?_; clear hK; clear K)
    (repeat refine AW.seq_k fun K hK => ?_)
    refine AW.rg ?_
    simp
    try (refine hK _ rfl ?_; clear hK; clear K)
    refine CallK.val hca ?_
    simp
    refine hK _ rfl ?_
    clear hK
    clear K
    (repeat refine AW.seq_k fun K hK => ?_)
    refine AW.rg ?_
    simp [h0]
    try (refine hK _ rfl ?_; clear hK; clear K)
    refine AW.yes ?_ rfl
    (repeat refine AW.seq_k fun K hK => ?_)
    refine AW.rg ?_
    simp
    try (refine hK _ rfl ?_; clear hK; clear K)
    exact AW.ret (ret_views [matAV [], .int .i64 e] rfl ⟨.nilsl 1, .same _, trivial⟩ ⟨rfl, rfl⟩)
end Go.Av
end
section
namespace Go.Av
open Go.Proofs
theorem rrs_snoc (r : List RR) (x : RR) : rrs (r ++ [x]) = rrs r ++ [x.av] := by simp [rrs]
/-- A list of rows and a row that is being made. -/
structure TwoL (M : Mem) (ov : AV) (ob : List Nat) (l : List AV) (rv : AV) (rb : List Nat) (r : List AV) : Prop where
  lst : LstV M 42 1 ov ob l
  row : LstV M 36 4 rv rb r
  only : OnlyM M (ob ++ rb)
  dis : ∀ b ∈ ob, b ∉ rb
section
variable {M : Mem} {ov rv : AV} {ob rb : List Nat} {l r : List AV}
theorem lstV_mem {M : Mem} {ty : TypeId} {z : Nat} {ov : AV} {ob : List Nat} {l : List AV} (h : LstV M ty z ov ob l) {b : Nat} (hb : b ∈ ob) : M b = some ⟨ty, z, l⟩ := by
  rcases h with ⟨_, h1, _⟩ | ⟨b', h1, _, h3⟩
  · rw [h1] at hb; cases hb
  · rw [h1] at hb; simp at hb; subst hb; exact h3
theorem TwoL.start {M : Mem} {ov : AV} {ob : List Nat} {l : List AV} (h : LstO M 42 1 ov ob l) : TwoL M ov ob l .nil [] [] :=
  ⟨h.lst, .inl ⟨rfl, rfl, rfl⟩, by simpa using h.only, by simp⟩
theorem TwoL.fresh (h : TwoL M ov ob l rv rb r) {b : Nat} (hb : M b = none) : b ∉ ob ∧ b ∉ rb :=
  ⟨fun h' => (by rw [lstV_mem h.lst h'] at hb; cases hb), fun h' => (by rw [lstV_mem h.row h'] at hb; cases hb)⟩
theorem TwoL.push0 (h : TwoL M ov ob l .nil [] []) {b : Nat} (hb : M b = none) (v : AV) : TwoL (M.set b ⟨36, 4, [v]⟩) ov ob l (.osl b 4 0 1) [b] [v] := by
  obtain ⟨f1, _⟩ := h.fresh hb
  refine ⟨h.lst.keep fun a ha => by simp only [set_at]; rw [if_neg (by rintro rfl; exact f1 ha)], .inr ⟨b, rfl, rfl, by simp⟩, OnlyM.set (h.only.sub fun a ha => by simp at ha ⊢; exact .inl ha) (by simp) _, fun a ha => by simp; rintro rfl; exact f1 ha⟩
theorem TwoL.push1 {b0 : Nat} (h : TwoL M ov ob l (.osl b0 4 0 r.length) [b0] r) {b : Nat} (hb : (M.del b0) b = none) (v : AV) : TwoL ((M.del b0).set b ⟨36, 4, r ++ [v]⟩) ov ob l (.osl b 4 0 (r.length + 1)) [b] (r ++ [v]) := by
  have hd : ∀ a, a ≠ b0 → (M.del b0) a = M a := fun a ha => if_neg ha
  have h0 : ∀ a ∈ ob, a ≠ b0 := fun a ha e => h.dis a ha (by simp [e])
  have hh : TwoL (M.del b0) ov ob l .nil [] [] := by
    refine ⟨h.lst.keep fun a ha => hd a (h0 a ha), .inl ⟨rfl, rfl, rfl⟩, fun a ha => ?_, by simp⟩
    have h1 : a ≠ b0 := by rintro rfl; exact ha (if_pos rfl)
    rw [hd a h1] at ha
    have := h.only a ha
    simp at this ⊢
    exact this.resolve_right h1
  have := hh.push0 hb v
  obtain ⟨f1, _⟩ := hh.fresh hb
  refine ⟨hh.lst.keep fun a ha => by simp only [set_at]; rw [if_neg (by rintro rfl; exact f1 ha)], .inr ⟨b, rfl, by simp, by simp⟩, OnlyM.set (hh.only.sub fun a ha => by simp at ha ⊢; exact .inl ha) (by simp) _, fun a ha => by simp; rintro rfl; exact f1 ha⟩
theorem TwoL.ones (h : TwoL M ov ob l rv rb r) (h1 : ∀ v ∈ l, v.cells.all AV.one = true) (h2 : ∀ v ∈ r, v.cells.all AV.one = true) : OnesM M := by
  intro b y hy
  rcases List.mem_append.1 (h.only b (by rw [hy]; simp)) with hb | hb
  · rw [lstV_mem h.lst hb] at hy; cases hy; exact h1
  · rw [lstV_mem h.row hb] at hy; cases hy; exact h2
/-- The row is done: what is left is the list. -/
theorem TwoL.done (h : TwoL M ov ob l rv rb r) (h1 : ∀ v ∈ l, v.cells.all AV.one = true) : ∃ M', Recast M M' ∧ LstO M' 42 1 ov ob l ∧ View M M' rv (.sl 4 r) ∧ View M M' ov ov := by
  refine ⟨fun b => if b ∈ rb then none else M b, Recast.sub fun b y hy => ?_, ⟨h.lst.keep fun b hb => if_neg (h.dis b hb), fun b hb => ?_⟩, ?_, .same _⟩
  · by_cases hb : b ∈ rb
    · simp [hb] at hy
    · simp [hb] at hy
      refine ⟨hy, ?_⟩
      have := h.only b (by rw [hy]; simp)
      simp [hb] at this
      rw [lstV_mem h.lst this] at hy; cases hy; exact h1
  · by_cases hm : b ∈ rb
    · simp [hm] at hb
    · simp [hm] at hb
      have := h.only b hb
      simpa [hm] using this
  · exact h.row.view fun b hb => if_pos hb
end
end Go.Av
end
section
namespace Go.Av
open Go.Proofs
def entM (b8 b10 : Nat) (s : Rat) : Mem := (Mem.emp.set b8 ⟨36, 4, [.agg [.bool false, .nil, .bool false, .nil]]⟩).set b10 ⟨36, 4, [(ofQ s).av]⟩
set_option maxHeartbeats 1000000
end Go.Av
end
section
namespace Go.Av
open Go.Proofs
structure TS7 where
  M : Mem
  ov : AV
  ob : List Nat
  Y : List (List Rat)
structure TR7 where
  M : Mem
  rv : AV
  rb : List Nat
  r : List Rat
def InvT7 (A N : List (List Rat)) (w i : Nat) (s : TS7) : Prop := iterO (tmStep A N w) i [] = some s.Y ∧ LstO s.M 42 1 s.ov s.ob ((emb s.Y).map rowAV)
set_option maxHeartbeats 1000000
end Go.Av
end
section
namespace Go.Av
open Go.Proofs
theorem kerF_good {Y : List (List Rat)} {ps : List Nat} {j : Nat} {v : List Rat} (hv : ∀ q ∈ v, Good q) (hq : ∀ k, k < ps.length → Good (qel Y k j)) : ∀ k, k ≤ ps.length → ∀ q ∈ kerF Y ps j k v, Good q
  | 0, _ => hv
  | k + 1, h => good_set (kerF_good hv hq k (by omega)) _ (good_neg (hq k h)).2
end Go.Av
end
section
namespace Go.Av
open Go.Proofs
def trRow (X : List (List Rat)) (n j : Nat) : List Rat := (List.range n).map fun i => qel X i j
def trM (X : List (List Rat)) (n w : Nat) : List (List Rat) := (List.range w).map fun j => trRow X n j
theorem trRow_succ (X : List (List Rat)) (n j : Nat) : trRow X (n + 1) j = trRow X n j ++ [qel X n j] := by unfold trRow; rw [List.range_succ, List.map_append]; rfl
theorem trM_succ (X : List (List Rat)) (n w : Nat) : trM X n (w + 1) = trM X n w ++ [trRow X n w] := by unfold trM; rw [List.range_succ, List.map_append]; rfl
theorem tr_good {X : List (List Rat)} {n w : Nat} (h : matGood n w X) : matGood w n (trM X n w) := by
  refine ⟨fun r hr q hq => ?_, fun i hi => ?_, by simp [trM]⟩
  · obtain ⟨j, hj, rfl⟩ := List.mem_map.1 hr
    obtain ⟨i, hi, rfl⟩ := List.mem_map.1 hq
    rw [List.mem_range] at hi hj
    exact h.1.at (by rw [(h.row hi).2]; exact hj)
  · have : mrow (trM X n w) i ∈ trM X n w := by rw [mrow_eq hi]; exact List.getElem_mem hi
    obtain ⟨j, _, e⟩ := List.mem_map.1 this
    rw [← e]; simp [trRow]
structure TrS where
  M : Mem
  rv : AV
  rb : List Nat
set_option maxHeartbeats 1000000
theorem transposed_call (X : List (List Rat)) (n w : Nat) (hX : matGood n w X) (h0 : n = 0 → w = 0) (hn : n ≤ 64) (hw : w ≤ 64) : ACall Tryz.prog 30 [matAV (emb X)] Mem.emp fun v mm => v = matAV (emb (trM X n w)) ∧ mm = Mem.emp := by
  have hXl := hX.2.2
  refine acall_S Tryz.func30 rfl rfl 41 rfl (Nat.le_of_ble_eq_true rfl) ?_
  (repeat refine AW.seq_k fun K hK => ?_)
  refine AW.rg ?_
  simp [argsL]
  try (refine hK _ rfl ?_; clear hK; clear K)
  (repeat refine AW.seq_k fun K hK => ?_)
  refine AW.rg ?_
  simp
  try (refine hK _ rfl ?_; clear hK; clear K)
  refine AW.seq_ex (ι := TrS) (fun s => [(3, s.rv)]) (fun s => s.M) (fun s => LstO s.M 42 1 s.rv s.rb ((emb (trM X n w)).map rowAV)) ?_ ?_
  · (repeat refine AW.seq_k fun K hK => ?_)
    refine AW.rg ?_
    simp
    try (refine hK _ rfl ?_; clear hK; clear K)
    refine AW.block (AW.loopS (ι := Nat × TrS) (fun z => [(0, matAV (emb X)), (3, z.2.rv), (4, .int .i64 (z.1 : Nat))]) (fun z => z.2.M) (fun z => z.1 ≤ w ∧ LstO z.2.M 42 1 z.2.rv z.2.rb ((emb (trM X n z.1)).map rowAV)) (fun z => w - z.1) (0, ⟨Mem.emp, .nil, []⟩) ⟨by simp, LstO.start _ _⟩ rfl (by simp) ?_)
    rintro ⟨j, M, ov, ob⟩ ⟨g1, g2⟩
    simp only at g1 g2
    simp only
    rcases Nat.eq_zero_or_pos n with hn0 | hn0
    · have hw0 := h0 hn0
      subst hw0
      have hj0 : j = 0 := by omega
      subst hj0
      subst hn0
      (repeat refine AW.seq_k fun K hK => ?_)
      refine AW.rg ?_
      simp [emb_length, hXl]
      try (refine hK _ rfl ?_; clear hK; clear K)
      refine AW.no ?_ rfl
      refine AW.exit ?_
      try simp
      exact ⟨⟨M, ov, ob⟩, g2, by simp⟩
    · have hE0 : 0 < (emb X).length := by rw [emb_length, hXl]; exact hn0
      have hl0 : (mrow (emb X) 0).length = w := by rw [emb_row, List.length_map]; exact (hX.row hn0).2
      (repeat refine AW.seq_k fun K hK => ?_)
      refine AW.rg ?_
      simp [hE0, hl0]
      try (refine hK _ rfl ?_; clear hK; clear K)
      (repeat refine AW.seq ?_)
      refine AW.cs (fun hj => ?_) (fun hj => ?_) rfl <;> (try simp at hj)
      · refine AW.skip ?_
        try simp
        refine hK _ rfl ?_
        clear hK
        clear K
        have w1 : IntKind.i64.wrap ((j + 1 : Nat) : Int) = ((j + 1 : Nat) : Int) := wi (by omega)
        have hones := rowAV_ones (trM X n j)
        have hll : ((emb (trM X n j)).map rowAV).length = j := by rw [List.length_map, emb_length]; simp [trM]
        generalize hl : (emb (trM X n j)).map rowAV = l at *
        refine AW.seq_ex (ι := TrS) (fun s => [(0, matAV (emb X)), (3, s.rv), (4, .int .i64 (j : Nat))]) (fun s => s.M) (fun s => LstO s.M 42 1 s.rv s.rb ((emb (trM X n (j + 1))).map rowAV)) ?_ ?_
        · (repeat refine AW.seq ?_)
          refine AW.block ?_
          (repeat refine AW.seq_k fun K hK => ?_)
          refine AW.rg ?_
          simp
          try (refine hK _ rfl ?_; clear hK; clear K)
          refine AW.seq_ex (ι := TrS) (fun s => [(0, matAV (emb X)), (3, ov), (4, .int .i64 (j : Nat)), (5, s.rv)]) (fun s => s.M) (fun s => TwoL s.M ov ob l s.rv s.rb (rrs ((trRow X n j).map ofQ))) ?_ ?_
          · (repeat refine AW.seq_k fun K hK => ?_)
            refine AW.rg ?_
            simp
            try (refine hK _ rfl ?_; clear hK; clear K)
            refine AW.block (AW.loopS (ι := Nat × TrS) (fun z => [(0, matAV (emb X)), (3, ov), (4, .int .i64 (j : Nat)), (5, z.2.rv), (6, .int .i64 (z.1 : Nat))]) (fun z => z.2.M) (fun z => z.1 ≤ n ∧ TwoL z.2.M ov ob l z.2.rv z.2.rb (rrs ((trRow X z.1 j).map ofQ))) (fun z => n - z.1) (0, ⟨M, .nil, []⟩) ⟨by simp, TwoL.start g2⟩ rfl (by simp) ?_)
            rintro ⟨i, M, rv, rb⟩ ⟨q1, q2⟩
            simp only at q1 q2
            simp only
            (repeat refine AW.seq_k fun K hK => ?_)
            refine AW.rg ?_
            simp [emb_length, hXl]
            try (refine hK _ rfl ?_; clear hK; clear K)
            (repeat refine AW.seq ?_)
            refine AW.cs (fun hi => ?_) (fun hi => ?_) rfl <;> (try simp at hi)
            · refine AW.skip ?_
              try simp
              refine hK _ rfl ?_
              clear hK
              clear K
              have w2 : IntKind.i64.wrap ((i + 1 : Nat) : Int) = ((i + 1 : Nat) : Int) := wi (by omega)
              have hiE : i < (emb X).length := by rw [emb_length, hXl]; exact hi
              have hli : (mrow (emb X) i).length = w := by rw [emb_row, List.length_map]; exact (hX.row hi).2
              have hjl : j < (mrow X i).length := by rw [(hX.row hi).2]; exact hj
              have e1 : rr (mrow (emb X) i) j = ofQ (qel X i j) := by rw [emb_row, rr_map hjl]; rfl
              refine AW.seq_ex (ι := TrS) (fun s => [(0, matAV (emb X)), (3, ov), (4, .int .i64 (j : Nat)), (5, s.rv), (6, .int .i64 (i : Nat))]) (fun s => s.M) (fun s => TwoL s.M ov ob l s.rv s.rb (rrs ((trRow X (i + 1) j).map ofQ))) ?_ ?_
              · (repeat refine AW.seq ?_)
                refine AW.block ?_
                have hfin : ∀ s : TrS, TwoL s.M ov ob l s.rv s.rb (rrs ((trRow X i j).map ofQ) ++ [(ofQ (qel X i j)).av]) → TwoL s.M ov ob l s.rv s.rb (rrs ((trRow X (i + 1) j).map ofQ)) := by
                  intro s h2
                  rw [trRow_succ, List.map_append, List.map_singleton, rrs_snoc]
                  exact h2
                have hl2 : (rrs ((trRow X i j).map ofQ)).length = i := by rw [rrs_length, List.length_map]; simp [trRow]
                generalize rrs ((trRow X i j).map ofQ) = l2 at *
                rcases q2.row with ⟨z1, z2, z3⟩ | ⟨b0, z2, z3, z4⟩
                · subst z1 z2 z3
                  (repeat refine AW.seq_k fun K hK => ?_)
                  refine AW.rgR [34] ?_
                  simp [hiE, hli, hj, e1]
                  try (refine hK _ rfl ?_; clear hK; clear K)
                  exact ⟨by unfold maxLen; omega, Fresh.intro fun b hb => ⟨⟨_, _, [b]⟩, hfin _ (q2.push0 hb _), rfl, rfl⟩⟩
                · subst z2 z3
                  (repeat refine AW.seq_k fun K hK => ?_)
                  refine AW.rgR [34] ?_
                  simp [hiE, hli, hj, e1, z4]
                  try (refine hK _ rfl ?_; clear hK; clear K)
                  exact ⟨by omega, by unfold maxLen; omega, Fresh.intro fun b hb => ⟨⟨_, _, [b]⟩, hfin _ (q2.push1 hb _), rfl, rfl⟩⟩
              rintro ⟨M, rv, rb⟩ hs
              (repeat refine AW.seq_k fun K hK => ?_)
              refine AW.rg ?_
              simp [-Int.natCast_add, w2]
              try (refine hK _ rfl ?_; clear hK; clear K)
              exact ⟨i + 1, ⟨M, rv, rb⟩, ⟨hi, hs⟩, by omega, by simp⟩
            · refine AW.exit ?_
              try simp
              have : i = n := by omega
              subst this
              exact ⟨⟨M, rv, rb⟩, q2, by simp⟩
          rintro ⟨M, rv, rb⟩ q2
          simp only at q2
          simp only
          obtain ⟨M', t1, t2, t3, t4⟩ := q2.done hones
          refine AW.turn [(0, matAV (emb X)), (3, ov), (4, .int .i64 (j : Nat)), (5, rowAV ((trRow X n j).map ofQ))] M' t1 ?_ ?_
          · simp
            exact t3
          have hfin : ∀ s : TrS, LstO s.M 42 1 s.rv s.rb (l ++ [rowAV ((trRow X n j).map ofQ)]) → LstO s.M 42 1 s.rv s.rb ((emb (trM X n (j + 1))).map rowAV) := by
            intro s h2
            rw [trM_succ, show (emb (trM X n j ++ [trRow X n j])).map rowAV = (emb (trM X n j)).map rowAV ++ [rowAV ((trRow X n j).map ofQ)] by simp [emb], hl]
            exact h2
          rcases t2.lst with ⟨z1, z2, z3⟩ | ⟨b0, z2, z3, z4⟩
          · subst z1 z2 z3
            (repeat refine AW.seq_k fun K hK => ?_)
            refine AW.rgR [38] ?_
            simp
            try (refine hK _ rfl ?_; clear hK; clear K)
            exact ⟨by unfold maxLen; omega, Fresh.intro fun b hb => ⟨⟨_, _, [b]⟩, hfin _ (t2.push0 b _), rfl, rfl⟩⟩
          · subst z2 z3
            (repeat refine AW.seq_k fun K hK => ?_)
            refine AW.rgR [38] ?_
            simp [z4]
            try (refine hK _ rfl ?_; clear hK; clear K)
            exact ⟨by omega, by unfold maxLen; omega, Fresh.intro fun b hb => ⟨⟨_, _, [b]⟩, hfin _ (t2.push1 b _), rfl, rfl⟩⟩
        rintro ⟨M, ov, ob⟩ hs
        (repeat refine AW.seq_k fun K hK => ?_)
        refine AW.rg ?_
        simp [-Int.natCast_add, w1]
        try (refine hK _ rfl ?_; clear hK; clear K)
        exact ⟨j + 1, ⟨M, ov, ob⟩, ⟨hj, hs⟩, by omega, by simp⟩
      · refine AW.exit ?_
        try simp
        have : j = w := by omega
        subst this
        exact ⟨⟨M, ov, ob⟩, g2, by simp⟩
  rintro ⟨M, ov, ob⟩ g2
  simp only at g2
  simp only
  (repeat refine AW.seq_k fun K hK => ?_)
  refine AW.rg ?_
  simp
  try (refine hK _ rfl ?_; clear hK; clear K)
  have hv := g2.lst.view (M' := Mem.emp) (fun _ _ => rfl)
  exact AW.ret (ret_views [matAV (emb (trM X n w))] rfl ⟨hv, trivial⟩ ⟨rfl, rfl⟩)
end Go.Av
end
section
namespace Go.Av
open Go.Proofs
theorem dot_set {w p : Nat} (R : Nat → Rat) {v : List Rat} (hp : p < w) (hv : p < v.length) (x : Rat) : dotV w R (qat (v.set p x)) = dotV w R (qat v) + R p * (x - qat v p) := by
  have e1 : dotV w R (qat (v.set p x)) = sumN w (fun l => R l * qat v l + if l = p then R p * (x - qat v p) else 0) := sumN_congr fun l _ => by
    show R l * qat (v.set p x) l = _
    rw [qat_set hv]
    by_cases e : l = p
    · subst e; rw [if_pos rfl, if_pos rfl]; grind
    · rw [if_neg e, if_neg e]; grind
  rw [e1, sumN_add]
  congr 1
  rw [sumN_single hp fun i _ hne => if_neg hne, if_pos rfl]
/-- Places that are set one after the other. -/
theorem ker_other {Y : List (List Rat)} {ps : List Nat} {j : Nat} {v : List Rat} (hl : ∀ p ∈ ps, p < v.length) {p : Nat} : ∀ k, k ≤ ps.length → (∀ i, i < k → ps.getD i 0 ≠ p) → qat (kerF Y ps j k v) p = qat v p
  | 0, _, _ => rfl
  | k + 1, h, hp => by
    show qat ((kerF Y ps j k v).set (ps.getD k 0) (-(qel Y k j))) p = qat v p
    rw [qat_set (by rw [kerF_length]; exact hl _ (getD_mem (by omega))), if_neg (Ne.symm (hp k (by omega)))]
    exact ker_other hl k (by omega) fun i hi => hp i (by omega)
theorem ker_dot {Y : List (List Rat)} {ps : List Nat} {j w : Nat} {v : List Rat} (R : Nat → Rat) (hv : v.length = w) (hs : ps.Pairwise (· < ·)) (hl : ∀ p ∈ ps, p < w) (hz : ∀ p ∈ ps, qat v p = 0) :
    ∀ k, k ≤ ps.length → dotV w R (qat (kerF Y ps j k v)) = dotV w R (qat v) - sumN k fun i => R (ps.getD i 0) * qel Y i j
  | 0, _ => by show dotV w R (qat v) = dotV w R (qat v) - 0; grind
  | k + 1, h => by
    show dotV w R (qat ((kerF Y ps j k v).set (ps.getD k 0) (-(qel Y k j)))) = _
    have hm := getD_mem (ps := ps) (k := k) (by omega)
    rw [dot_set R (hl _ hm) (by rw [kerF_length, hv]; exact hl _ hm), ker_dot R hv hs hl hz k (by omega), sumN_succ,
      ker_other (fun p hp => by rw [hv]; exact hl p hp) k (by omega) (fun i hi => by have := getD_lt hs hi (show k < ps.length by omega); omega), hz _ hm]
    grind
theorem RRef.ker {n w : Nat} {Y : List (List Rat)} {ps : List Nat} (h : RRef n w w Y ps) {j : Nat} (hj : j < w) (hn : j ∉ ps) : NullV n w Y (qat (kerV Y ps w j)) := by
  intro i hi
  have hv : ((List.replicate w (0 : Rat)).set j 1).length = w := by simp
  have h0 : ∀ p, qat ((List.replicate w (0 : Rat)).set j 1) p = if p = j then 1 else 0 := fun p => by
    rw [qat_set (by simpa using hj)]
    split
    · rfl
    · unfold qat
      by_cases e : p < w
      · rw [List.getD_eq_getElem?_getD, List.getElem?_replicate, if_pos e]; rfl
      · rw [List.getD_eq_getElem?_getD, List.getElem?_replicate, if_neg e]; rfl
  have h1 : dotV w (qel Y i) (qat ((List.replicate w (0 : Rat)).set j 1)) = qel Y i j := by
    unfold dotV
    rw [sumN_single hj fun l _ hne => by rw [h0, if_neg hne]; grind, h0, if_pos rfl]; grind
  unfold kerV
  rw [ker_dot _ hv h.srt (fun p hp => h.lt p hp) (fun p hp => by rw [h0, if_neg (fun e => hn (by rw [← e]; exact hp))]) _ (Nat.le_refl _), h1]
  by_cases hil : i < ps.length
  · rw [sumN_single hil fun k hk hne => by rw [h.one k hk i hi, if_neg (Ne.symm hne)]; grind, h.one i hil i hi, if_pos rfl]; grind
  · rw [sumN_zero fun k hk => by rw [h.one k hk i hi, if_neg (by omega)]; grind, h.zer i hi j hj (fun h => absurd h hil)]; grind
theorem filt_succ {ps : List Nat} (h : ps.Pairwise (· < ·)) (j : Nat) : (ps.filter (· < j + 1)).length = (ps.filter (· < j)).length + if j ∈ ps then 1 else 0 := by
  induction ps with
  | nil => rfl
  | cons p l ih =>
    rw [List.pairwise_cons] at h
    have ih := ih h.2
    rcases Nat.lt_trichotomy p j with e | e | e
    · rw [List.filter_cons_of_pos (by simp; omega), List.filter_cons_of_pos (by simp; omega), List.length_cons, List.length_cons, ih]
      have : (j ∈ p :: l) ↔ j ∈ l := by rw [List.mem_cons]; exact ⟨fun h => h.resolve_left (by omega), .inr⟩
      simp only [this]; omega
    · subst e
      have hn : p ∉ l := fun hm => by have := h.1 p hm; omega
      rw [if_neg hn] at ih
      rw [List.filter_cons_of_pos (by simp), List.filter_cons_of_neg (by simp), List.length_cons, ih, if_pos (by simp)]
    · rw [List.filter_cons_of_neg (by simp; omega), List.filter_cons_of_neg (by simp; omega), ih]
      have : (j ∈ p :: l) ↔ j ∈ l := by rw [List.mem_cons]; exact ⟨fun h => h.resolve_left (by omega), .inr⟩
      simp only [this]
theorem ker_count {Y : List (List Rat)} {ps : List Nat} {w : Nat} (h : ps.Pairwise (· < ·)) : ∀ j, (kerP Y ps w j).length + (ps.filter (· < j)).length = j
  | 0 => by
    rw [show ps.filter (· < 0) = [] by rw [List.filter_eq_nil_iff]; intro a _; simp]; rfl
  | j + 1 => by
    have ih := ker_count (Y := Y) (w := w) h j
    rw [kerP_succ, filt_succ h]
    by_cases e : j ∈ ps
    · rw [if_pos e, if_pos e]; omega
    · rw [if_neg e, if_neg e, List.length_append, List.length_singleton]; omega
theorem RRef.count {n w : Nat} {Y : List (List Rat)} {ps : List Nat} (h : RRef n w w Y ps) : (kerP Y ps w w).length + ps.length = w := by
  have := ker_count (Y := Y) (w := w) h.srt w
  rwa [List.filter_eq_self.2 fun p hp => by simpa using h.lt p hp] at this
theorem kerP_row {Y : List (List Rat)} {ps : List Nat} {w t : Nat} (h : t < (kerP Y ps w w).length) : ∃ j, j < w ∧ j ∉ ps ∧ mrow (kerP Y ps w w) t = kerV Y ps w j := by
  have : mrow (kerP Y ps w w) t ∈ kerP Y ps w w := by rw [mrow_eq h]; exact List.getElem_mem h
  unfold kerP at this
  obtain ⟨j, hj, e⟩ := List.mem_map.1 this
  rw [List.mem_filter] at hj
  exact ⟨j, by simpa using hj.1, by simpa using hj.2, e.symm⟩
/-- Products. -/
theorem qat_snoc {l : List Rat} {x : Rat} (i : Nat) : qat (l ++ [x]) i = if i < l.length then qat l i else if i = l.length then x else 0 := by
  unfold qat
  rw [List.getD_eq_getElem?_getD]
  by_cases h : i < l.length
  · rw [if_pos h, List.getElem?_append_left h, ← List.getD_eq_getElem?_getD]
  · rw [if_neg h, List.getElem?_append_right (by omega)]
    by_cases e : i = l.length
    · rw [if_pos e, e, Nat.sub_self]; rfl
    · rw [if_neg e, List.getElem?_eq_none (by simp; omega)]; rfl
theorem ent_eq {r : List Rat} {b : List (List Rat)} {j : Nat} : ∀ {k : Nat} {s : Rat}, iterO (entStep r b j) k 0 = some s → s = sumN k fun t => qat r t * qel b t j
  | 0, s, h => by cases h; rfl
  | k + 1, s, h => by
    rw [iterO_succ] at h
    cases hs : iterO (entStep r b j) k 0 with
    | none => rw [hs] at h; cases h
    | some q =>
      rw [hs] at h
      replace h : (mulQ (qat r k) (qel b k j)).bind (addQ q) = some s := h
      cases hm : mulQ (qat r k) (qel b k j) with
      | none => rw [hm] at h; cases h
      | some m => rw [hm] at h; rw [addQ_eq h, mulQ_eq hm, ent_eq hs]; rfl
theorem col_eq {r : List Rat} {b : List (List Rat)} : ∀ {j : Nat} {acc : List Rat}, iterO (tmCol r b) j [] = some acc → ∀ t, t < j → qat acc t = sumN b.length fun k => qat r k * qel b k t
  | 0, acc, h, t, ht => by omega
  | j + 1, acc, h, t, ht => by
    rw [iterO_succ] at h
    cases hs : iterO (tmCol r b) j [] with
    | none => rw [hs] at h; cases h
    | some a0 =>
      rw [hs] at h
      replace h : (entQ r b j).map (fun x => a0 ++ [x]) = some acc := h
      cases he : entQ r b j with
      | none => rw [he] at h; cases h
      | some x =>
        rw [he] at h
        cases h
        rw [qat_snoc, (tmCol_keep hs).1]
        by_cases e : t < j
        · rw [if_pos e]; exact col_eq hs t e
        · have : t = j := by omega
          subst this
          rw [if_neg e, if_pos rfl]
          exact ent_eq he
theorem mrow_snoc' {l : List (List Rat)} {x : List Rat} (i : Nat) : mrow (l ++ [x]) i = if i < l.length then mrow l i else if i = l.length then x else [] := by
  unfold mrow
  rw [List.getD_eq_getElem?_getD]
  by_cases h : i < l.length
  · rw [if_pos h, List.getElem?_append_left h, ← List.getD_eq_getElem?_getD]
  · rw [if_neg h, List.getElem?_append_right (by omega)]
    by_cases e : i = l.length
    · rw [if_pos e, e, Nat.sub_self]; rfl
    · rw [if_neg e, List.getElem?_eq_none (by simp; omega)]; rfl
theorem tm_eq {a b : List (List Rat)} {w : Nat} : ∀ {i : Nat} {Z : List (List Rat)}, iterO (tmStep a b w) i [] = some Z → ∀ s t, s < i → t < w → qel Z s t = sumN b.length fun k => qel a s k * qel b k t
  | 0, Z, h, s, t, hs, ht => by omega
  | i + 1, Z, h, s, t, hs, ht => by
    rw [iterO_succ] at h
    cases hu : iterO (tmStep a b w) i [] with
    | none => rw [hu] at h; cases h
    | some Y0 =>
      rw [hu] at h
      replace h : (iterO (tmCol (mrow a i) b) w []).map (fun r => Y0 ++ [r]) = some Z := h
      cases he : iterO (tmCol (mrow a i) b) w [] with
      | none => rw [he] at h; cases h
      | some r =>
        rw [he] at h
        cases h
        unfold qel
        rw [mrow_snoc', (tm_keep hu).2.2]
        by_cases e : s < i
        · rw [if_pos e]; exact tm_eq hu s t e ht
        · have : s = i := by omega
          subst this
          rw [if_neg e, if_pos rfl]
          exact col_eq he t ht
theorem times_eq {a b Z : List (List Rat)} (h : timesQ a b = some Z) {s t : Nat} (hs : s < a.length) (ht : t < (mrow b 0).length) : qel Z s t = sumN b.length fun k => qel a s k * qel b k t := tm_eq h s t hs ht
theorem qel_tr {X : List (List Rat)} {n w i j : Nat} (hi : i < w) (hj : j < n) : qel (trM X n w) i j = qel X j i := by
  unfold qel mrow trM
  rw [List.getD_eq_getElem?_getD, List.getElem?_map, List.getElem?_range hi]
  show qat (trRow X n i) j = _
  unfold trRow qat
  rw [List.getD_eq_getElem?_getD, List.getElem?_map, List.getElem?_range hj]
  rfl
theorem row_tr {X : List (List Rat)} {n w i : Nat} (hi : i < w) : (mrow (trM X n w) i).length = n := by
  unfold mrow trM
  rw [List.getD_eq_getElem?_getD, List.getElem?_map, List.getElem?_range hi]
  show (trRow X n i).length = n
  unfold trRow
  simp
/-- The kernel is mapped to zero. -/
theorem ker_zero {n w : Nat} {X Y Z : List (List Rat)} {ps : List Nat} (hX : matGood n w X) (h : RRef n w w Y ps) (hN : ∀ v, NullV n w Y v ↔ NullV n w X v) (hw : 0 < w) (hZ : timesQ X (trM (kerP Y ps w w) (kerP Y ps w w).length w) = some Z) {s t : Nat} (hs : s < n) (ht : t < (kerP Y ps w w).length) : qel Z s t = 0 := by
  have hl : (trM (kerP Y ps w w) (kerP Y ps w w).length w).length = w := by unfold trM; simp
  rw [times_eq hZ (by rw [hX.2.2]; exact hs) (by rw [row_tr hw]; exact ht), hl]
  obtain ⟨j, hj, hn, e⟩ := kerP_row ht
  have := (hN _).1 (h.ker hj hn) s hs
  rw [← this]
  unfold dotV
  refine sumN_congr fun k hk => ?_
  rw [qel_tr hk ht]
  unfold qel
  rw [e]
theorem reduce_rref {n w : Nat} {X : List (List Rat)} (hX : matGood n w X) (hw : (mrow X 0).length = w) {z : List (List Rat) × List Nat} (h : reduceQ X = some z) : RRef n w w z.1 z.2 ∧ ∀ v, NullV n w z.1 v ↔ NullV n w X v := by
  unfold reduceQ at h
  rw [hw] at h
  exact cols_rref hX (Nat.le_refl _) h
theorem RRef.reduce {n w : Nat} {Y : List (List Rat)} {ps : List Nat} (h : RRef n w w Y ps) (hw : (mrow Y 0).length = w) : reduceQ Y = some (Y, ps) := by
  unfold reduceQ
  rw [hw, h.again w (Nat.le_refl _), List.filter_eq_self.2 fun p hp => by simpa using h.lt p hp]
end Go.Av
end
section
namespace Go.Av
open Go.Proofs
def wideP (X : List (List Rat)) (b : List Rat) : Nat → List (List Rat)
  | 0 => X
  | i + 1 => (wideP X b i).set i (mrow X i ++ [qat b i])
def wideQ (X : List (List Rat)) (b : List Rat) : List (List Rat) := wideP X b X.length
def solF (Y : List (List Rat)) (ps : List Nat) (w : Nat) : Nat → List Rat → List Rat
  | 0, v => v
  | k + 1, v => (solF Y ps w k v).set (ps.getD k 0) (qel Y k w)
def solV (Y : List (List Rat)) (ps : List Nat) (w : Nat) : List Rat := solF Y ps w ps.length (List.replicate w 0)
def okV (b : List RR) : Prop := ∀ i, i < b.length → (rr b i).ok = true
open Classical in
/-- The error, is there a solution, the solution. -/
noncomputable def solR (m : List (List RR)) (b : List RR) : Int × Bool × List Rat :=
  if chk m ≠ 0 then (chk m, false, []) else if b.length ≠ m.length then (1, false, []) else if ¬ okV b then (1, false, []) else if (mrow m 0).length = 64 then (2, false, []) else
  match reduceQ (wideQ (unq m) (b.map RR.q)) with
  | none => (2, false, [])
  | some z => if (mrow m 0).length ∈ z.2 then (0, false, []) else (0, true, solV z.1 z.2 (mrow m 0).length)
theorem hdrs_put {bs : List Nat} {rows : List (List RR)} (i : Nat) (b' : Nat) (r : List RR) : hdrs (bs.set i b') (rows.set i r) = (hdrs bs rows).set i (.osl b' 4 0 r.length) := by
  unfold hdrs
  refine List.ext_getElem? fun k => ?_
  rw [List.getElem?_zipWith, List.getElem?_set, List.getElem?_set, List.getElem?_set, List.length_zipWith]
  by_cases e : i = k
  · subst e
    simp only [if_true]
    by_cases h1 : i < bs.length <;> by_cases h2 : i < rows.length <;> simp [h1, h2] <;> omega
  · simp only [if_neg e]
    rw [List.getElem?_zipWith]
theorem RefM.grow {M : Mem} {B : Nat} {bs : List Nat} {X : List (List Rat)} (h : RefM M B bs X) {i : Nat} (hi : i < X.length) {b' : Nat} (hb' : (M.del (nb bs i)) b' = none) (r : List Rat) :
    RefM (((M.del (nb bs i)).set b' ⟨36, 4, rrs (r.map ofQ)⟩).set B ⟨42, 1, (hdrs bs (emb X)).set i (.osl b' 4 0 r.length)⟩) B (bs.set i b') (X.set i r) := by
  have hiE : i < (emb X).length := by rw [emb_length]; exact hi
  have hib : i < bs.length := by rw [h.1.len]; exact hiE
  have hni := h.1.ne hiE
  have hdel : ∀ a, a ≠ nb bs i → (M.del (nb bs i)) a = M a := fun a ha => if_neg ha
  have hB' : B ≠ b' := by
    rintro rfl
    rw [hdel _ (Ne.symm hni), h.1.top] at hb'; cases hb'
  have hk' : ∀ k, k < (emb X).length → k ≠ i → nb bs k ≠ nb bs i ∧ nb bs k ≠ b' := fun k hk hki => by
    have h1 : nb bs k ≠ nb bs i := fun e => hki (nb_inj h.1.nd (by rw [h.1.len]; exact hk) hib e)
    refine ⟨h1, fun e => ?_⟩
    rw [← e, hdel _ h1, h.1.row k hk] at hb'; cases hb'
  refine ⟨⟨?_, ?_, fun k hk => ?_, ?_, ?_⟩, fun a ha => ?_⟩
  · rw [emb_set, hdrs_put, List.length_map]; simp
  · rw [List.length_set, emb_set, List.length_set]; exact h.1.len
  · rw [emb_set, List.length_set] at hk
    rw [nb_set hib, emb_set, mrow_set hiE]
    simp only [set_at]
    by_cases e : k = i
    · rw [if_pos e, if_pos e, if_neg (Ne.symm hB'), if_pos rfl]
    · obtain ⟨h1, h2⟩ := hk' k hk e
      rw [if_neg e, if_neg e, if_neg (h.1.ne hk), if_neg h2, hdel _ h1]
      exact h.1.row k hk
  · unfold List.Nodup
    rw [List.pairwise_iff_getElem]
    intro x y hx hy hxy
    rw [← nb_eq hx, ← nb_eq hy, nb_set hib, nb_set hib]
    rw [List.length_set, h.1.len] at hx hy
    by_cases e1 : x = i
    · rw [if_pos e1, if_neg (by omega)]
      exact Ne.symm (hk' y hy (by omega)).2
    · rw [if_neg e1]
      by_cases e2 : y = i
      · rw [if_pos e2]; exact (hk' x hx e1).2
      · rw [if_neg e2]
        intro e
        have := nb_inj h.1.nd (by rw [h.1.len]; exact hx) (by rw [h.1.len]; exact hy) e
        omega
  · intro hm
    rcases List.mem_or_eq_of_mem_set hm with hm | e
    · exact h.1.nB hm
    · exact hB' e
  · simp only [set_at] at ha
    by_cases e1 : a = B
    · simp [e1]
    · rw [if_neg e1] at ha
      by_cases e2 : a = b'
      · rw [e2]
        refine List.mem_cons_of_mem _ ?_
        have := nb_mem (bs := bs.set i b') (i := i) (by rw [List.length_set]; exact hib)
        rwa [nb_set hib, if_pos rfl] at this
      · rw [if_neg e2] at ha
        have e3 : a ≠ nb bs i := by rintro rfl; exact ha (if_pos rfl)
        rw [hdel _ e3] at ha
        have := h.2 a ha
        rcases List.mem_cons.1 this with e4 | hm
        · exact absurd e4 e1
        · obtain ⟨k, hk, e⟩ := List.mem_iff_getElem.1 hm
          have hki : k ≠ i := by
            rintro rfl
            exact e3 (by rw [← e, nb_eq hk])
          refine List.mem_cons_of_mem _ ?_
          have := nb_mem (bs := bs.set i b') (i := k) (by rw [List.length_set]; exact hk)
          rwa [nb_set hib, if_neg hki, nb_eq hk, e] at this
end Go.Av
end
section
namespace Go.Av
open Go.Proofs
theorem RefM.swap {M : Mem} {B : Nat} {bs : List Nat} {X : List (List Rat)} (h : RefM M B bs X) {i r : Nat} (hi : i < X.length) (hr : r < X.length) :
    RefM (M.set B ⟨42, 1, ((hdrs bs (emb X)).set i (.osl (nb bs r) 4 0 (mrow (emb X) r).length)).set r (.osl (nb bs i) 4 0 (mrow (emb X) i).length)⟩) B (swapB bs i r) (swapL X i r) := by
  have hiE : i < (emb X).length := by rw [emb_length]; exact hi
  have hrE : r < (emb X).length := by rw [emb_length]; exact hr
  have hb : ∀ b, b ∈ swapB bs i r ↔ b ∈ bs := fun b => swapB_mem (by rw [h.1.len]; exact hiE) (by rw [h.1.len]; exact hrE) b
  refine ⟨by rw [emb_swap]; exact h.1.swap hiE hrE, fun b hb' => ?_⟩
  have := (h.2.set (by simp) _) b hb'
  simpa [hb] using this
def D2 (M : Mem) (b6 b2 : Nat) (d : Rat) : Mem := (M.set b6 ⟨36, 4, [(ofQ d).av]⟩).set b2 ⟨36, 4, [.agg [.bool false, .nil, .bool false, .nil]]⟩
section
variable {M : Mem} {B b6 b2 : Nat} {d : Rat}
end
theorem RefM.fresh {M : Mem} {B : Nat} {bs : List Nat} {X : List (List Rat)} (h : RefM M B bs X) {b : Nat} (hb : M b = none) : b ∉ B :: bs := by
  intro hm
  rcases List.mem_cons.1 hm with rfl | hm
  · rw [h.1.top] at hb; cases hb
  · obtain ⟨k, hk, e⟩ := List.mem_iff_getElem.1 hm
    rw [← nb_eq hk] at e
    have := h.1.row k (by rw [← h.1.len]; exact hk)
    rw [e, hb] at this; cases this
def OffL (b : Nat) (l : List Nat) : Prop := b ∉ l
structure DS7 where
  X : List (List Rat)
  d : Rat
  M : Mem
  bs : List Nat
def InvD7 (n : Nat) (X0 : List (List Rat)) (B b6 b2 j : Nat) (s : DS7) : Prop :=
  detIter n X0 j = some (some (s.X, s.d)) ∧ matGood n n s.X ∧ Good s.d ∧ RefM s.M B s.bs s.X ∧ OffL b6 (B :: s.bs) ∧ OffL b2 (B :: s.bs)
set_option maxHeartbeats 1000000
end Go.Av
end
section
namespace Go.Av
open Go.Proofs
structure SolS where
  M : Mem
  bs : List Nat
def InvSo (B : Nat) (X : List (List Rat)) (b : List RR) (i : Nat) (s : SolS) : Prop :=
  RefM s.M B s.bs (wideP X (b.map RR.q) i) ∧ ∀ k, k < i → (rr b k).ok = true
def solOut (Z : Int × Bool × List Rat) : AV := .tup [rowAV (Z.2.2.map ofQ), .bool Z.2.1, .int .i64 Z.1]
set_option maxHeartbeats 1000000
end Go.Av
end
section
namespace Go.Av
open Go.Proofs
theorem redR_emb {W : List (List Rat)} (h : chk (emb W) = 0) : redR (emb W) = match reduceQ W with
    | none => (2, [], [])
    | some z => (0, z.1, z.2) := by
  unfold redR; rw [if_neg (by simp [h]), unq_emb] <;> rfl
set_option maxHeartbeats 1000000
end Go.Av
end
section
namespace Go.Av
open Go.Proofs
theorem redR_two {m : List (List RR)} (h0 : chk m = 0) : (redR m).1 = 0 ∨ (redR m).1 = 2 := by
  unfold redR
  rw [if_neg (by simp [h0])]
  cases reduceQ (unq m) with
  | none => exact .inr rfl
  | some z => exact .inl rfl
theorem kerR_one {m : List (List RR)} : (kerR m).1 = (redR m).1 := by
  unfold kerR
  by_cases h : (redR m).1 = 0
  · rw [if_neg (by simp [h]), h]
  · rw [if_pos h]
/-- What a matrix without an error has. -/
theorem mat_facts {m : List (List RR)} (hm : LbM m) (h0 : chk m = 0) (hl : 0 < m.length) : ∃ (X : List (List Rat)) (n w : Nat), m = emb X ∧ unq m = X ∧ matGood n w X ∧ (mrow X 0).length = w ∧ 0 < n ∧ n ≤ 64 ∧ w ≤ 64 := by
  obtain ⟨a1, a2, a3, a4, a5⟩ := chk_emb hm h0
  exact ⟨unq m, m.length, _, a1, rfl, ⟨a2, a3, unq_length m⟩, rfl, hl, a4, a5⟩
theorem red_facts {X : List (List Rat)} {n w : Nat} (hX : matGood n w X) (hw : (mrow X 0).length = w) (hn : 0 < n) (hn' : n ≤ 64) (hw' : w ≤ 64) (h : (redR (emb X)).1 = 0) :
    ∃ Y ps, redR (emb X) = (0, Y, ps) ∧ reduceQ X = some (Y, ps) ∧ RRef n w w Y ps ∧ (∀ v, NullV n w Y v ↔ NullV n w X v) ∧ (mrow Y 0).length = w ∧ kerR (emb X) = (0, kerP Y ps w w) ∧ redR (emb Y) = (0, Y, ps) := by
  have hc := chk_good hX hw hn' hw'
  have hr := redR_emb hc
  cases hq : reduceQ X with
  | none => rw [hq] at hr; rw [hr] at h; exact absurd h (by simp)
  | some z =>
    rw [hq] at hr
    obtain ⟨r1, r2⟩ := reduce_rref hX hw hq
    have hy : (mrow z.1 0).length = w := (r1.good.row hn).2
    have hr' : redR (emb X) = (0, z.1, z.2) := hr
    refine ⟨z.1, z.2, hr', rfl, r1, r2, hy, ?_, ?_⟩
    · unfold kerR
      rw [hr', if_neg (by simp), emb_row, List.length_map, hw]
    · rw [redR_emb (chk_good r1.good hy hn' hw'), r1.reduce hy]
theorem kerP_good {n w : Nat} {Y : List (List Rat)} {ps : List Nat} (h : RRef n w w Y ps) : matGood (kerP Y ps w w).length w (kerP Y ps w w) := by
  refine ⟨?_, ?_, rfl⟩
  · intro r hr
    unfold kerP at hr
    obtain ⟨j, hj, rfl⟩ := List.mem_map.1 hr
    have hjw : j < w := by simpa using (List.mem_filter.1 hj).1
    unfold kerV
    refine kerF_good (good_set (fun q hq => ?_) _ good_one) (fun k hk => ?_) _ (Nat.le_refl _)
    · rw [List.eq_of_mem_replicate hq]; exact good_zero
    · exact (h.good.row (Nat.lt_of_lt_of_le hk h.len)).1.at (by rw [(h.good.row (Nat.lt_of_lt_of_le hk h.len)).2]; exact hjw)
  · intro i hi
    obtain ⟨j, _, _, e⟩ := kerP_row hi
    rw [e, kerV_length]
theorem times_cases {A B : List (List Rat)} {n m w : Nat} (hA : matGood n m A) (hB : matGood m w B) (hn : 0 < n) (hm : 0 < m) (h1 : n ≤ 64) (h2 : m ≤ 64) (h3 : w ≤ 64) : timR (emb A) (emb B) = (2, []) ∨ ∃ Z, timR (emb A) (emb B) = (0, Z) ∧ timesQ A B = some Z ∧ matGood n w Z := by
  have wa : (mrow A 0).length = m := (hA.row hn).2
  have wb : (mrow B 0).length = w := (hB.row hm).2
  unfold timR
  rw [if_neg (by rw [chk_good hA wa h1 h2]; simp), if_neg (by rw [chk_good hB wb h2 h3]; simp), if_neg (by rw [emb_row, List.length_map, wa, emb_length, hB.2.2]; simp), unq_emb, unq_emb]
  cases hq : timesQ A B with
  | none => exact .inl rfl
  | some Z =>
    refine .inr ⟨Z, rfl, rfl, ?_⟩
    have := tm_keep hq
    rwa [wb, hA.2.2] at this
/-- All entries are compared with zero. -/
theorem lawNullity (m : List (List RR)) (hm : LbM m) : ACall Tryz.prog 9 [matAV m] Mem.emp fun v mm => v = .bool true ∧ mm = Mem.emp := by
  have hla := large_call m hm
  have hck := check2_call m hm
  have hwk := works_call
  have h1 := reduceL_call m hm
  have h3 := kernelL_call m hm
  refine acall_S Tryz.func9 rfl rfl 137 rfl (Nat.le_of_ble_eq_true rfl) ?_
  (repeat refine AW.seq_k fun K hK => ?_)
  refine AW.rg ?_
  simp [argsL]
  try (refine hK _ rfl ?_; clear hK; clear K)
  (repeat refine AW.seq_k fun K hK => ?_)
  refine AW.rg ?_
  simp
  try (refine hK _ rfl ?_; clear hK; clear K)
  refine CallK.val hck ?_
  simp
  generalize hL : isLarge m = lg at hla
  by_cases h0 : chk m = 0
  · simp [h0]
    refine CallK.val hla ?_
    cases lg
    · simp
      by_cases hl : m = []
      · simp [hl]
        refine hK _ rfl ?_
        clear hK
        clear K
        refine AW.yes ?_ (by simp [hl])
        (repeat refine AW.seq_k fun K hK => ?_)
        refine AW.rg ?_
        simp
        try (refine hK _ rfl ?_; clear hK; clear K)
        refine CallK.val hwk ?_
        simp
        refine hK _ rfl ?_
        clear hK
        clear K
        exact AW.ret (ret_views (vs := [.bool true]) [.bool true] (by simp) (by simp) ⟨rfl, rfl⟩)
      · simp [hl]
        refine hK _ rfl ?_
        clear hK
        clear K
        refine AW.no ?_ (by simp [hl])
        obtain ⟨X, n, w, rfl, hu, hX, hw, hn, hn', hw'⟩ := mat_facts hm h0 (List.length_pos_iff.2 hl)
        have hXl : (emb X).length = n := by rw [emb_length, hX.2.2]
        refine AW.skip ?_
        try simp
        refine hK _ rfl ?_
        clear hK
        clear K
        rcases redR_two h0 with he | he
        · obtain ⟨Y, ps, f1, f2, f3, f4, f5, f6, f7⟩ := red_facts hX hw hn hn' hw' he
          rw [f1] at h1
          rw [f6] at h3
          simp only at h1 h3
          have hY := lb_emb Y
          have h4 := reduceL_call (emb Y) hY
          rw [f7] at h4
          simp only at h4
          have hs1 := rows_same f3.good hn' hw'
          have hs2 := ints_same ps (by have := f3.len; omega)
          have hc := f3.count
          have hKg := kerP_good f3
          have hcase : 0 < (kerP Y ps w w).length → timR (emb X) (emb (trM (kerP Y ps w w) (kerP Y ps w w).length w)) = (2, []) ∨ ∃ Z, timR (emb X) (emb (trM (kerP Y ps w w) (kerP Y ps w w).length w)) = (0, Z) ∧ matGood n (kerP Y ps w w).length Z ∧ ∀ s t, s < n → t < (kerP Y ps w w).length → qel Z s t = 0 := fun hd => by
            rcases times_cases hX (tr_good hKg) hn (by omega) hn' hw' (by omega) with h | ⟨Z, z1, z2, z3⟩
            · exact .inl h
            · exact .inr ⟨Z, z1, z3, fun s t hs ht => ker_zero hX f3 f4 (by omega) z2 hs ht⟩
          generalize kerP Y ps w w = N at *
          have hNl : (emb N).length = N.length := emb_length N
          have he0 : emb N = [] ↔ N.length = 0 := by rw [← hNl, List.length_eq_zero_iff]
          have hr0 : (mrow (emb X) 0).length = w := by rw [emb_row, List.length_map, hw]
          have hsum : (ps.length : Int) + (N.length : Int) = (w : Int) := by omega
          have ws : IntKind.i64.wrap ((ps.length + N.length : Nat) : Int) = (w : Int) := by rw [Int.natCast_add, hsum]; exact wi (by omega)
          (repeat refine AW.seq_k fun K hK => ?_)
          refine AW.rg ?_
          simp
          try (refine hK _ rfl ?_; clear hK; clear K)
          refine CallK.val h1 ?_
          simp
          refine hK _ rfl ?_
          clear hK
          clear K
          (repeat refine AW.seq_k fun K hK => ?_)
          refine AW.rg ?_
          simp
          try (refine hK _ rfl ?_; clear hK; clear K)
          refine CallK.val h3 ?_
          simp
          refine hK _ rfl ?_
          clear hK
          clear K
          (repeat refine AW.seq_k fun K hK => ?_)
          refine AW.rg ?_
          simp
          try (refine hK _ rfl ?_; clear hK; clear K)
          refine AW.no ?_ rfl
          refine AW.skip ?_
          try simp
          refine hK _ rfl ?_
          clear hK
          clear K
          (repeat refine AW.seq_k fun K hK => ?_)
          refine AW.rg ?_
          simp
          try (refine hK _ rfl ?_; clear hK; clear K)
          refine CallK.val h4 ?_
          simp
          refine hK _ rfl ?_
          clear hK
          clear K
          (repeat refine AW.seq_k fun K hK => ?_)
          refine AW.rg ?_
          simp
          try (refine hK _ rfl ?_; clear hK; clear K)
          refine CallK.val hwk ?_
          simp
          refine CallK.val hs1 ?_
          simp
          refine CallK.val hs2 ?_
          simp [-Int.natCast_add, hNl, hXl, hr0, ws, hn]
          refine hK _ rfl ?_
          clear hK
          clear K
          (repeat refine AW.seq_k fun K hK => ?_)
          refine AW.rg ?_
          simp
          try (refine hK _ rfl ?_; clear hK; clear K)
          by_cases hd : N.length = 0
          · refine AW.yes ?_ (by simp [he0, hd])
            (repeat refine AW.seq_k fun K hK => ?_)
            refine AW.rg ?_
            simp
            try (refine hK _ rfl ?_; clear hK; clear K)
            exact AW.ret (ret_views (vs := [.bool true]) [.bool true] (by simp) (by simp) ⟨rfl, rfl⟩)
          · refine AW.no ?_ (by simp [he0, hd])
            refine AW.skip ?_
            try simp
            refine hK _ rfl ?_
            clear hK
            clear K
            have ht := transposed_call N N.length w hKg (fun h => absurd h hd) (by omega) hw'
            have hp := timesL_call (emb X) (emb (trM N N.length w)) (lb_emb _) (lb_emb _)
            rcases hcase (by omega) with hz | ⟨Z, hz, hZ, h00⟩
            · rw [hz] at hp
              simp only at hp
              (repeat refine AW.seq_k fun K hK => ?_)
              refine AW.rg ?_
              simp
              try (refine hK _ rfl ?_; clear hK; clear K)
              refine CallK.val ht ?_
              simp
              refine CallK.val hp ?_
              simp
              refine hK _ rfl ?_
              clear hK
              clear K
              (repeat refine AW.seq_k fun K hK => ?_)
              refine AW.rg ?_
              simp
              try (refine hK _ rfl ?_; clear hK; clear K)
              refine AW.yes ?_ rfl
              (repeat refine AW.seq_k fun K hK => ?_)
              refine AW.rg ?_
              simp
              try (refine hK _ rfl ?_; clear hK; clear K)
              exact AW.ret (ret_views (vs := [.bool true]) [.bool true] (by simp) (by simp) ⟨rfl, rfl⟩)
            · rw [hz] at hp
              simp only at hp
              have hw0 := wholeW_call 0 (by omega) (by omega)
              have hsm := (same_call (ofQ (intQ 0)) (ofQ (intQ 0)) (short_good good_zero)).mono fun v m (h : saysEq _ v ∧ m = Mem.emp) => show v = .bool true ∧ m = Mem.emp from by
                obtain ⟨⟨t, rfl, ht⟩, h2⟩ := h
                exact ⟨by rw [ht.2 rfl], h2⟩
              have hZl : (emb Z).length = n := by rw [emb_length, hZ.2.2]
              (repeat refine AW.seq_k fun K hK => ?_)
              refine AW.rg ?_
              simp
              try (refine hK _ rfl ?_; clear hK; clear K)
              refine CallK.val ht ?_
              simp
              refine CallK.val hp ?_
              simp
              refine hK _ rfl ?_
              clear hK
              clear K
              (repeat refine AW.seq_k fun K hK => ?_)
              refine AW.rg ?_
              simp
              try (refine hK _ rfl ?_; clear hK; clear K)
              refine AW.no ?_ rfl
              refine AW.skip ?_
              try simp
              refine hK _ rfl ?_
              clear hK
              clear K
              refine AW.seq_ex (ι := Unit) (fun _ => [(0, matAV (emb X)), (11, .bool true), (12, matAV (emb Z))]) (fun _ => Mem.emp) (fun _ => True) ?_ ?_
              · (repeat refine AW.seq_k fun K hK => ?_)
                refine AW.rg ?_
                simp
                try (refine hK _ rfl ?_; clear hK; clear K)
                refine AW.block (AW.loopS (ι := Nat) (fun i => [(0, matAV (emb X)), (11, .bool true), (12, matAV (emb Z)), (14, .int .i64 (i : Nat))]) (fun _ => Mem.emp) (fun i => i ≤ n) (fun i => n - i) 0 (Nat.zero_le _) rfl (by simp) ?_)
                rintro i hi0
                (repeat refine AW.seq_k fun K hK => ?_)
                refine AW.rg ?_
                simp [hZl]
                try (refine hK _ rfl ?_; clear hK; clear K)
                (repeat refine AW.seq ?_)
                refine AW.cs (fun hi => ?_) (fun hi => ?_) rfl <;> (try simp at hi)
                · refine AW.skip ?_
                  try simp
                  refine hK _ rfl ?_
                  clear hK
                  clear K
                  have w1 : IntKind.i64.wrap ((i + 1 : Nat) : Int) = ((i + 1 : Nat) : Int) := wi (by omega)
                  have hiE : i < (emb Z).length := by rw [hZl]; exact hi
                  have hli : (mrow (emb Z) i).length = N.length := by rw [emb_row, List.length_map]; exact (hZ.row hi).2
                  refine AW.seq_ex (ι := Unit) (fun _ => [(0, matAV (emb X)), (11, .bool true), (12, matAV (emb Z)), (14, .int .i64 (i : Nat))]) (fun _ => Mem.emp) (fun _ => True) ?_ ?_
                  · (repeat refine AW.seq ?_)
                    refine AW.block ?_
                    (repeat refine AW.seq_k fun K hK => ?_)
                    refine AW.rg ?_
                    simp
                    try (refine hK _ rfl ?_; clear hK; clear K)
                    refine AW.block (AW.loopS (ι := Nat) (fun j => [(0, matAV (emb X)), (11, .bool true), (12, matAV (emb Z)), (14, .int .i64 (i : Nat)), (15, .int .i64 (j : Nat))]) (fun _ => Mem.emp) (fun j => j ≤ N.length) (fun j => N.length - j) 0 (Nat.zero_le _) rfl (by simp) ?_)
                    rintro j hj0
                    (repeat refine AW.seq_k fun K hK => ?_)
                    refine AW.rg ?_
                    simp [hiE, hli]
                    try (refine hK _ rfl ?_; clear hK; clear K)
                    (repeat refine AW.seq ?_)
                    refine AW.cs (fun hj => ?_) (fun hj => ?_) rfl <;> (try simp at hj)
                    · refine AW.skip ?_
                      try simp
                      refine hK _ rfl ?_
                      clear hK
                      clear K
                      have w2 : IntKind.i64.wrap ((j + 1 : Nat) : Int) = ((j + 1 : Nat) : Int) := wi (by omega)
                      have hjl : j < (mrow Z i).length := by rw [(hZ.row hi).2]; exact hj
                      have e1 : rr (mrow (emb Z) i) j = ofQ (intQ 0) := by rw [emb_row, rr_map hjl, show qat (mrow Z i) j = 0 from h00 i j hi hj]; rfl
                      refine AW.seq_ex (ι := Unit) (fun _ => [(0, matAV (emb X)), (11, .bool true), (12, matAV (emb Z)), (14, .int .i64 (i : Nat)), (15, .int .i64 (j : Nat))]) (fun _ => Mem.emp) (fun _ => True) ?_ ?_
                      · (repeat refine AW.seq ?_)
                        refine AW.block ?_
                        refine AW.rdR [126, 127] [0,1,2,3,4,5,6,7,8,9,10,11,12] mix ?_
                        simp [hiE, hli, hj, e1]
                        refine CallK.val hw0 ?_
                        simp
                        refine CallK.val hsm ?_
                        simp
                      rintro _ _
                      (repeat refine AW.seq_k fun K hK => ?_)
                      refine AW.rg ?_
                      simp [-Int.natCast_add, w2]
                      try (refine hK _ rfl ?_; clear hK; clear K)
                      exact ⟨hj, by omega⟩
                    · refine AW.exit ?_
                      try simp
                  rintro _ _
                  (repeat refine AW.seq_k fun K hK => ?_)
                  refine AW.rg ?_
                  simp [-Int.natCast_add, w1]
                  try (refine hK _ rfl ?_; clear hK; clear K)
                  exact ⟨hi, by omega⟩
                · refine AW.exit ?_
                  try simp
              rintro _ _
              (repeat refine AW.seq_k fun K hK => ?_)
              refine AW.rg ?_
              simp [hZl, hXl]
              try (refine hK _ rfl ?_; clear hK; clear K)
              exact AW.ret (ret_views (vs := [.bool true]) [.bool true] (by simp) (by simp) ⟨rfl, rfl⟩)
        · have he' := (kerR_one (m := emb X)).trans he
          rw [he] at h1
          rw [he'] at h3
          (repeat refine AW.seq_k fun K hK => ?_)
          refine AW.rg ?_
          simp
          try (refine hK _ rfl ?_; clear hK; clear K)
          refine CallK.val h1 ?_
          simp
          refine hK _ rfl ?_
          clear hK
          clear K
          (repeat refine AW.seq_k fun K hK => ?_)
          refine AW.rg ?_
          simp
          try (refine hK _ rfl ?_; clear hK; clear K)
          refine CallK.val h3 ?_
          simp
          refine hK _ rfl ?_
          clear hK
          clear K
          (repeat refine AW.seq_k fun K hK => ?_)
          refine AW.rg ?_
          simp
          try (refine hK _ rfl ?_; clear hK; clear K)
          refine AW.yes ?_ rfl
          (repeat refine AW.seq_k fun K hK => ?_)
          refine AW.rg ?_
          simp
          try (refine hK _ rfl ?_; clear hK; clear K)
          refine CallK.val hwk ?_
          simp
          refine hK _ rfl ?_
          clear hK
          clear K
          exact AW.ret (ret_views (vs := [.bool true]) [.bool true] (by simp) (by simp) ⟨rfl, rfl⟩)
    · simp
      refine hK _ rfl ?_
      clear hK
      clear K
      refine AW.yes ?_ rfl
      (repeat refine AW.seq_k fun K hK => ?_)
      refine AW.rg ?_
      simp
      try (refine hK _ rfl ?_; clear hK; clear K)
      refine CallK.val hwk ?_
      simp
      refine hK _ rfl ?_
      clear hK
      clear K
      exact AW.ret (ret_views (vs := [.bool true]) [.bool true] (by simp) (by simp) ⟨rfl, rfl⟩)
  · simp [h0]
    refine hK _ rfl ?_
    clear hK
    clear K
    refine AW.yes ?_ (by simp [h0])
    (repeat refine AW.seq_k fun K hK => ?_)
    refine AW.rg ?_
    simp
    try (refine hK _ rfl ?_; clear hK; clear K)
    refine CallK.val hwk ?_
    simp
    refine hK _ rfl ?_
    clear hK
    clear K
    exact AW.ret (ret_views (vs := [.bool true]) [.bool true] (by simp) (by simp) ⟨rfl, rfl⟩)
end Go.Av
end
