/- A part of the proof. -/
import Derived.Test.YtkcdcfcojmlnnaaGreatP4
import Derived.ProofKit
import Derived.OpenShut
import Derived.Deep.Slices
set_option linter.all false
set_option exponentiation.threshold 5000
set_option maxRecDepth 10000
section
namespace Go.Av
open Go.Proofs
/-- A function that says whether two values are the same. -/
def saysEq (p : Prop) (v : AV) : Prop := ∃ t : Bool, v = .bool t ∧ (t = true ↔ p)
theorem list_ext_nth {a b : List Nat} (h : a.length = b.length) (he : ∀ k, k < a.length → nth a k = nth b k) : a = b := by
  refine List.ext_getElem h fun k h1 h2 => ?_
  have := he k h1
  unfold nth at this
  rwa [List.getD_eq_getElem?_getD, List.getD_eq_getElem?_getD, List.getElem?_eq_getElem h1, List.getElem?_eq_getElem h2] at this
theorem ints2_call (n1 n2 : Bool) (l1 l2 : List Nat) (h1 : l1.length < 2^40) : ACall Tryz.prog 62 [.agg [.bool n1, lim l1], .agg [.bool n2, lim l2]] Mem.emp fun v m => saysEq (n1 = n2 ∧ l1 = l2) v ∧ m = Mem.emp := by
  by_cases hn : n1 = n2
  · subst hn
    by_cases hl : l1.length = l2.length
    · refine acall_S Tryz.func62 rfl rfl 38 rfl (Nat.le_of_ble_eq_true rfl) ?_
      (repeat refine AW.seq_k fun K hK => ?_)
      refine AW.rgR [2,3] ?_
      simp [argsL]
      try (refine hK _ rfl ?_; clear hK; clear K)
      (repeat refine AW.seq_k fun K hK => ?_)
      refine AW.rg ?_
      simp [hl]
      try (refine hK _ rfl ?_; clear hK; clear K)
      refine AW.no ?_ (by simp)
      refine AW.skip ?_
      try simp
      refine hK _ rfl ?_
      clear hK
      clear K
      refine AW.seq_ex (ι := Unit) (fun _ => []) (fun _ => Mem.emp) (fun _ => l1 = l2) ?_ ?_
      · (repeat refine AW.seq_k fun K hK => ?_)
        refine AW.rg ?_
        simp
        try (refine hK _ rfl ?_; clear hK; clear K)
        refine AW.block (AW.loopS (ι := Nat) (fun i => [(2, .rptr [.bool n1, lim l1]), (3, .rptr [.bool n1, lim l2]), (5, .int .i64 (i : Nat))]) (fun _ => Mem.emp) (fun i => i ≤ l1.length ∧ ∀ k, k < i → nth l1 k = nth l2 k) (fun i => l1.length - i) 0 ⟨by simp, by simp⟩ rfl (by simp) ?_)
        rintro i ⟨g1, g2⟩
        (repeat refine AW.seq_k fun K hK => ?_)
        refine AW.rg ?_
        simp
        try (refine hK _ rfl ?_; clear hK; clear K)
        (repeat refine AW.seq ?_)
        refine AW.cs (fun hi => ?_) (fun hi => ?_) rfl <;> (try simp at hi)
        · refine AW.skip ?_
          try simp
          refine hK _ rfl ?_
          clear hK
          clear K
          have hi2 : i < l2.length := by omega
          have w1 : IntKind.i64.wrap ((i + 1 : Nat) : Int) = ((i + 1 : Nat) : Int) := wi (by omega)
          refine AW.seq_ex (ι := Unit) (fun _ => [(2, .rptr [.bool n1, lim l1]), (3, .rptr [.bool n1, lim l2]), (5, .int .i64 (i : Nat))]) (fun _ => Mem.emp) (fun _ => nth l1 i = nth l2 i) ?_ ?_
          · (repeat refine AW.seq ?_)
            refine AW.block ?_
            (repeat refine AW.seq_k fun K hK => ?_)
            refine AW.rd [0, 1, 2, 3, 4, 5, 6, 7, 8, 9, 10] mix ?_
            simp [hi, hi2]
            try (refine hK _ rfl ?_; clear hK; clear K)
            by_cases h0 : nth l1 i = nth l2 i
            · refine AW.no ?_ (by simp [h0])
              exact AW.skip ⟨(), h0, by simp⟩
            · refine AW.yes ?_ (by simp [h0])
              (repeat refine AW.seq_k fun K hK => ?_)
              refine AW.rg ?_
              simp
              try (refine hK _ rfl ?_; clear hK; clear K)
              exact AW.ret (ret_views (vs := [.bool false]) [.bool false] (by simp) (by simp) ⟨⟨false, rfl, by simp; intro h; exact h0 (by rw [h])⟩, rfl⟩)
          rintro _ h0
          (repeat refine AW.seq_k fun K hK => ?_)
          refine AW.rg ?_
          simp [-Int.natCast_add, w1]
          try (refine hK _ rfl ?_; clear hK; clear K)
          refine ⟨⟨hi, fun k hk => ?_⟩, by omega⟩
          rcases Nat.lt_succ_iff_lt_or_eq.1 hk with h | rfl
          · exact g2 k h
          · exact h0
        · refine AW.exit ?_
          try simp
          exact list_ext_nth hl fun k hk => g2 k (by omega)
      rintro _ rfl
      (repeat refine AW.seq_k fun K hK => ?_)
      refine AW.rg ?_
      simp
      try (refine hK _ rfl ?_; clear hK; clear K)
      exact AW.ret (ret_views (vs := [.bool true]) [.bool true] (by simp) (by simp) ⟨⟨true, rfl, by simp⟩, rfl⟩)
    · refine acall_S Tryz.func62 rfl rfl 38 rfl (Nat.le_of_ble_eq_true rfl) ?_
      (repeat refine AW.seq_k fun K hK => ?_)
      refine AW.rgR [2,3] ?_
      simp [argsL]
      try (refine hK _ rfl ?_; clear hK; clear K)
      (repeat refine AW.seq_k fun K hK => ?_)
      refine AW.rg ?_
      simp [hl]
      try (refine hK _ rfl ?_; clear hK; clear K)
      refine AW.yes ?_ (by simp)
      (repeat refine AW.seq_k fun K hK => ?_)
      refine AW.rg ?_
      simp
      try (refine hK _ rfl ?_; clear hK; clear K)
      exact AW.ret (ret_views (vs := [.bool false]) [.bool false] (by simp) (by simp) ⟨⟨false, rfl, by simp; intro h; exact hl (by rw [h])⟩, rfl⟩)
  · refine acall_S Tryz.func62 rfl rfl 38 rfl (Nat.le_of_ble_eq_true rfl) ?_
    (repeat refine AW.seq_k fun K hK => ?_)
    refine AW.rgR [2,3] ?_
    simp [argsL]
    try (refine hK _ rfl ?_; clear hK; clear K)
    (repeat refine AW.seq_k fun K hK => ?_)
    refine AW.rg ?_
    simp [hn]
    try (refine hK _ rfl ?_; clear hK; clear K)
    refine AW.yes ?_ (by simp)
    (repeat refine AW.seq_k fun K hK => ?_)
    refine AW.rg ?_
    simp
    try (refine hK _ rfl ?_; clear hK; clear K)
    exact AW.ret (ret_views (vs := [.bool false]) [.bool false] (by simp) (by simp) ⟨⟨false, rfl, by simp [hn]⟩, rfl⟩)
def shortR (a : RR) : Prop := a.l1.length < 2^40 ∧ a.l2.length < 2^40
theorem same_call (a b : RR) (h : shortR a) : ACall Tryz.prog 26 [a.av, b.av] Mem.emp fun v m => saysEq (a = b) v ∧ m = Mem.emp := by
  have i1 := ints2_call a.n1 b.n1 a.l1 b.l1 h.1
  have i2 := ints2_call a.n2 b.n2 a.l2 b.l2 h.2
  have hab : a = b ↔ (a.n1 = b.n1 ∧ a.l1 = b.l1) ∧ (a.n2 = b.n2 ∧ a.l2 = b.l2) := by
    obtain ⟨x1, x2, x3, x4⟩ := a
    obtain ⟨y1, y2, y3, y4⟩ := b
    simp only [RR.mk.injEq, and_assoc]
  unfold RR.av
  refine acall_S Tryz.func26 rfl rfl 17 rfl (Nat.le_of_ble_eq_true rfl) ?_
  (repeat refine AW.seq_k fun K hK => ?_)
  refine AW.rgR [2,3] ?_
  simp [argsL]
  try (refine hK _ rfl ?_; clear hK; clear K)
  (repeat refine AW.seq_k fun K hK => ?_)
  refine AW.rg ?_
  simp
  try (refine hK _ rfl ?_; clear hK; clear K)
  refine CallK.pure i1 ?_
  rintro _ ⟨t1, rfl, h1⟩
  simp
  cases t1
  · simp
    refine hK _ rfl ?_
    clear hK
    clear K
    exact AW.ret (ret_views (vs := [.bool false]) [.bool false] (by simp) (by simp) ⟨⟨false, rfl, by simp only [Bool.false_eq_true, false_iff]; intro h; have := h1.2 (hab.1 h).1; cases this⟩, rfl⟩)
  · simp
    refine CallK.pure i2 ?_
    rintro _ ⟨t2, rfl, h2⟩
    simp
    refine hK _ rfl ?_
    clear hK
    clear K
    exact AW.ret (ret_views (vs := [.bool t2]) [.bool t2] (by simp) (by simp) ⟨⟨t2, rfl, by rw [h2, hab]; exact ⟨fun h => ⟨h1.1 rfl, h⟩, fun h => h.2⟩⟩, rfl⟩)
theorem list_ext_rr {a b : List RR} (h : a.length = b.length) (he : ∀ k, k < a.length → rr a k = rr b k) : a = b := by
  refine List.ext_getElem h fun k h1 h2 => ?_
  have := he k h1
  rwa [rr_eq h1, rr_eq h2] at this
theorem list_ext_row {α : Type} {a b : List (List α)} (h : a.length = b.length) (he : ∀ k, k < a.length → mrow a k = mrow b k) : a = b := by
  refine List.ext_getElem h fun k h1 h2 => ?_
  have := he k h1
  rwa [mrow_eq h1, mrow_eq h2] at this
theorem row_call (a b : List RR) (h : ∀ x ∈ a, shortR x) (hl : a.length < 2^40) : ACall Tryz.prog 44 [rowAV a, rowAV b] Mem.emp fun v m => saysEq (a = b) v ∧ m = Mem.emp := by
  by_cases hab : a.length = b.length
  · refine acall_S Tryz.func44 rfl rfl 27 rfl (Nat.le_of_ble_eq_true rfl) ?_
    (repeat refine AW.seq_k fun K hK => ?_)
    refine AW.rg ?_
    simp [argsL]
    try (refine hK _ rfl ?_; clear hK; clear K)
    (repeat refine AW.seq_k fun K hK => ?_)
    refine AW.rg ?_
    simp
    try (refine hK _ rfl ?_; clear hK; clear K)
    refine AW.no ?_ (by simp [hab])
    refine AW.skip ?_
    try simp
    refine hK _ rfl ?_
    clear hK
    clear K
    refine AW.seq_ex (ι := Unit) (fun _ => []) (fun _ => Mem.emp) (fun _ => a = b) ?_ ?_
    · (repeat refine AW.seq_k fun K hK => ?_)
      refine AW.rg ?_
      simp
      try (refine hK _ rfl ?_; clear hK; clear K)
      refine AW.block (AW.loopS (ι := Nat) (fun i => [(0, rowAV a), (1, rowAV b), (5, .int .i64 (i : Nat))]) (fun _ => Mem.emp) (fun i => i ≤ a.length ∧ ∀ k, k < i → rr a k = rr b k) (fun i => a.length - i) 0 ⟨by simp, by simp⟩ rfl (by simp) ?_)
      rintro i ⟨g1, g2⟩
      (repeat refine AW.seq_k fun K hK => ?_)
      refine AW.rg ?_
      simp
      try (refine hK _ rfl ?_; clear hK; clear K)
      (repeat refine AW.seq ?_)
      refine AW.cs (fun hi => ?_) (fun hi => ?_) rfl <;> (try simp at hi)
      · refine AW.skip ?_
        try simp
        refine hK _ rfl ?_
        clear hK
        clear K
        have hi2 : i < b.length := by omega
        have w1 : IntKind.i64.wrap ((i + 1 : Nat) : Int) = ((i + 1 : Nat) : Int) := wi (by omega)
        have hs := same_call (rr a i) (rr b i) (h _ (by rw [rr_eq hi]; exact List.getElem_mem hi))
        refine AW.seq_ex (ι := Unit) (fun _ => [(0, rowAV a), (1, rowAV b), (5, .int .i64 (i : Nat))]) (fun _ => Mem.emp) (fun _ => rr a i = rr b i) ?_ ?_
        · (repeat refine AW.seq ?_)
          refine AW.block ?_
          (repeat refine AW.seq_k fun K hK => ?_)
          refine AW.rd [0, 1, 2, 3, 4, 5, 6, 7, 8, 9] mix ?_
          simp [hi, hi2]
          try (refine hK _ rfl ?_; clear hK; clear K)
          refine CallK.pure hs ?_
          rintro _ ⟨t, rfl, ht⟩
          simp
          refine hK _ rfl ?_
          clear hK
          clear K
          cases t
          · refine AW.yes ?_ rfl
            (repeat refine AW.seq_k fun K hK => ?_)
            refine AW.rg ?_
            simp
            try (refine hK _ rfl ?_; clear hK; clear K)
            exact AW.ret (ret_views (vs := [.bool false]) [.bool false] (by simp) (by simp) ⟨⟨false, rfl, by simp only [Bool.false_eq_true, false_iff]; intro h; have := ht.2 (by rw [h]); cases this⟩, rfl⟩)
          · refine AW.no ?_ rfl
            exact AW.skip ⟨(), ht.1 rfl, by simp⟩
        rintro _ h0
        (repeat refine AW.seq_k fun K hK => ?_)
        refine AW.rg ?_
        simp [-Int.natCast_add, w1]
        try (refine hK _ rfl ?_; clear hK; clear K)
        refine ⟨⟨hi, fun k hk => ?_⟩, by omega⟩
        rcases Nat.lt_succ_iff_lt_or_eq.1 hk with h | rfl
        · exact g2 k h
        · exact h0
      · refine AW.exit ?_
        try simp
        exact list_ext_rr hab fun k hk => g2 k (by omega)
    rintro _ rfl
    (repeat refine AW.seq_k fun K hK => ?_)
    refine AW.rg ?_
    simp
    try (refine hK _ rfl ?_; clear hK; clear K)
    exact AW.ret (ret_views (vs := [.bool true]) [.bool true] (by simp) (by simp) ⟨⟨true, rfl, by simp⟩, rfl⟩)
  · refine acall_S Tryz.func44 rfl rfl 27 rfl (Nat.le_of_ble_eq_true rfl) ?_
    (repeat refine AW.seq_k fun K hK => ?_)
    refine AW.rg ?_
    simp [argsL]
    try (refine hK _ rfl ?_; clear hK; clear K)
    (repeat refine AW.seq_k fun K hK => ?_)
    refine AW.rg ?_
    simp
    try (refine hK _ rfl ?_; clear hK; clear K)
    refine AW.yes ?_ (by simp [hab])
    (repeat refine AW.seq_k fun K hK => ?_)
    refine AW.rg ?_
    simp
    try (refine hK _ rfl ?_; clear hK; clear K)
    exact AW.ret (ret_views (vs := [.bool false]) [.bool false] (by simp) (by simp) ⟨⟨false, rfl, by simp; intro h; exact hab (by rw [h])⟩, rfl⟩)
theorem rows_call (a b : List (List RR)) (h : ∀ r ∈ a, ∀ x ∈ r, shortR x) (hl : a.length < 2^40) (hr : ∀ r ∈ a, r.length < 2^40) : ACall Tryz.prog 21 [matAV a, matAV b] Mem.emp fun v m => saysEq (a = b) v ∧ m = Mem.emp := by
  by_cases hab : a.length = b.length
  · refine acall_S Tryz.func21 rfl rfl 27 rfl (Nat.le_of_ble_eq_true rfl) ?_
    (repeat refine AW.seq_k fun K hK => ?_)
    refine AW.rg ?_
    simp [argsL]
    try (refine hK _ rfl ?_; clear hK; clear K)
    (repeat refine AW.seq_k fun K hK => ?_)
    refine AW.rg ?_
    simp
    try (refine hK _ rfl ?_; clear hK; clear K)
    refine AW.no ?_ (by simp [hab])
    refine AW.skip ?_
    try simp
    refine hK _ rfl ?_
    clear hK
    clear K
    refine AW.seq_ex (ι := Unit) (fun _ => []) (fun _ => Mem.emp) (fun _ => a = b) ?_ ?_
    · (repeat refine AW.seq_k fun K hK => ?_)
      refine AW.rg ?_
      simp
      try (refine hK _ rfl ?_; clear hK; clear K)
      refine AW.block (AW.loopS (ι := Nat) (fun i => [(0, matAV a), (1, matAV b), (5, .int .i64 (i : Nat))]) (fun _ => Mem.emp) (fun i => i ≤ a.length ∧ ∀ k, k < i → mrow a k = mrow b k) (fun i => a.length - i) 0 ⟨by simp, by simp⟩ rfl (by simp) ?_)
      rintro i ⟨g1, g2⟩
      (repeat refine AW.seq_k fun K hK => ?_)
      refine AW.rg ?_
      simp
      try (refine hK _ rfl ?_; clear hK; clear K)
      (repeat refine AW.seq ?_)
      refine AW.cs (fun hi => ?_) (fun hi => ?_) rfl <;> (try simp at hi)
      · refine AW.skip ?_
        try simp
        refine hK _ rfl ?_
        clear hK
        clear K
        have hi2 : i < b.length := by omega
        have w1 : IntKind.i64.wrap ((i + 1 : Nat) : Int) = ((i + 1 : Nat) : Int) := wi (by omega)
        have hm : mrow a i ∈ a := by rw [mrow_eq hi]; exact List.getElem_mem hi
        have hs := row_call (mrow a i) (mrow b i) (h _ hm) (hr _ hm)
        refine AW.seq_ex (ι := Unit) (fun _ => [(0, matAV a), (1, matAV b), (5, .int .i64 (i : Nat))]) (fun _ => Mem.emp) (fun _ => mrow a i = mrow b i) ?_ ?_
        · (repeat refine AW.seq ?_)
          refine AW.block ?_
          (repeat refine AW.seq_k fun K hK => ?_)
          refine AW.rd [0, 1, 2, 3, 4, 5, 6, 7, 8, 9] mix ?_
          simp [hi, hi2]
          try (refine hK _ rfl ?_; clear hK; clear K)
          refine CallK.pure hs ?_
          rintro _ ⟨t, rfl, ht⟩
          simp
          refine hK _ rfl ?_
          clear hK
          clear K
          cases t
          · refine AW.yes ?_ rfl
            (repeat refine AW.seq_k fun K hK => ?_)
            refine AW.rg ?_
            simp
            try (refine hK _ rfl ?_; clear hK; clear K)
            exact AW.ret (ret_views (vs := [.bool false]) [.bool false] (by simp) (by simp) ⟨⟨false, rfl, by simp only [Bool.false_eq_true, false_iff]; intro h; have := ht.2 (by rw [h]); cases this⟩, rfl⟩)
          · refine AW.no ?_ rfl
            exact AW.skip ⟨(), ht.1 rfl, by simp⟩
        rintro _ h0
        (repeat refine AW.seq_k fun K hK => ?_)
        refine AW.rg ?_
        simp [-Int.natCast_add, w1]
        try (refine hK _ rfl ?_; clear hK; clear K)
        refine ⟨⟨hi, fun k hk => ?_⟩, by omega⟩
        rcases Nat.lt_succ_iff_lt_or_eq.1 hk with h | rfl
        · exact g2 k h
        · exact h0
      · refine AW.exit ?_
        try simp
        exact list_ext_row hab fun k hk => g2 k (by omega)
    rintro _ rfl
    (repeat refine AW.seq_k fun K hK => ?_)
    refine AW.rg ?_
    simp
    try (refine hK _ rfl ?_; clear hK; clear K)
    exact AW.ret (ret_views (vs := [.bool true]) [.bool true] (by simp) (by simp) ⟨⟨true, rfl, by simp⟩, rfl⟩)
  · refine acall_S Tryz.func21 rfl rfl 27 rfl (Nat.le_of_ble_eq_true rfl) ?_
    (repeat refine AW.seq_k fun K hK => ?_)
    refine AW.rg ?_
    simp [argsL]
    try (refine hK _ rfl ?_; clear hK; clear K)
    (repeat refine AW.seq_k fun K hK => ?_)
    refine AW.rg ?_
    simp
    try (refine hK _ rfl ?_; clear hK; clear K)
    refine AW.yes ?_ (by simp [hab])
    (repeat refine AW.seq_k fun K hK => ?_)
    refine AW.rg ?_
    simp
    try (refine hK _ rfl ?_; clear hK; clear K)
    exact AW.ret (ret_views (vs := [.bool false]) [.bool false] (by simp) (by simp) ⟨⟨false, rfl, by simp; intro h; exact hab (by rw [h])⟩, rfl⟩)
end Go.Av
end
section
namespace Go.Av
open Go.Proofs
theorem wholeW_call (n : Int) (h1 : -9223372036854775808 ≤ n) (h2 : n < 9223372036854775808) : ACall Tryz.prog 37 [.int .i64 n] Mem.emp fun v m => v = (ofQ (intQ n)).av ∧ m = Mem.emp := by
  have ho := of2_call n 1 h1 h2 (by omega) (by omega) (by omega)
  have e : Rat.divInt n 1 = intQ n := rfl
  rw [e, resQ] at ho
  generalize intQ n = q at *
  unfold qAV at ho
  unfold RR.av ofQ
  simp only
  refine acall_S Tryz.func37 rfl rfl 11 rfl (Nat.le_of_ble_eq_true rfl) ?_
  (repeat refine AW.seq_k fun K hK => ?_)
  refine AW.rg ?_
  simp [argsL]
  try (refine hK _ rfl ?_; clear hK; clear K)
  refine Fresh.intro fun b2 hb2 => ?_
  refine hK _ rfl ?_
  clear hK
  clear K
  (repeat refine AW.seq_k fun K hK => ?_)
  refine AW.rg ?_
  simp
  try (refine hK _ rfl ?_; clear hK; clear K)
  refine CallK.val ho ?_
  simp
  refine Fresh.intro fun b3 hb3 => ?_
  simp only [set_none2, emp_at, and_true] at hb3
  try simp [hb3]
  refine hK _ rfl ?_
  clear hK
  clear K
  (repeat refine AW.seq_k fun K hK => ?_)
  refine AW.rg ?_
  simp [hb3]
  try (refine hK _ rfl ?_; clear hK; clear K)
  exact AW.ret (ret_views (vs := [.agg [.bool (decide (q.num < 0)), lim (dig q.num.natAbs), .bool false, lim (dig q.den)]]) [.agg [.bool (decide (q.num < 0)), lim (dig q.num.natAbs), .bool false, lim (dig q.den)]] (by simp [hb3]) (by simp) ⟨rfl, rfl⟩)
end Go.Av
end
section
namespace Go.Av
open Go.Proofs
theorem unq_emb (X : List (List Rat)) : unq (emb X) = X := by
  unfold unq emb
  rw [List.map_map]
  conv => rhs; rw [← List.map_id X]
  refine List.map_congr_left fun r _ => ?_
  show (r.map ofQ).map RR.q = r
  rw [List.map_map]
  conv => rhs; rw [← List.map_id r]
  exact List.map_congr_left fun q _ => ofQ_q q
theorem chk_good {n w : Nat} {X : List (List Rat)} (h : matGood n w X) (hw : (mrow X 0).length = w) (h1 : n ≤ 64) (h2 : w ≤ 64) : chk (emb X) = 0 := by
  refine chk_ok ?_ ?_
  · rintro (h' | ⟨k, hk, h'⟩)
    · rw [emb_length, h.2.2] at h'; omega
    · rw [emb_length, h.2.2] at hk
      rw [emb_row, List.length_map, (h.row hk).2] at h'; omega
  · intro k hk
    rw [emb_length, h.2.2] at hk
    rw [emb_row, emb_row, List.length_map, List.length_map, (h.row hk).2, hw]
    refine ⟨rfl, fun j hj => ?_⟩
    have hjl : j < (mrow X k).length := by rw [(h.row hk).2]; exact hj
    rw [rr_map hjl]
    exact ofQ_ok ((h.row hk).1.at hjl)
def exK : List (List Rat) := [[intQ 0, intQ 2, intQ 4], [intQ 1, intQ 1, intQ 1]]
def exD : List (List Rat) := [[intQ 1, intQ 2], [intQ 3, intQ 4]]
def exS : List (List Rat) := [[intQ 1, intQ 2], [intQ 2, intQ 1]]
theorem exK_good : matGood 2 3 exK := ⟨by unfold GoodM Good; decide +kernel, by unfold dimM; decide +kernel, rfl⟩
theorem exD_good : matGood 2 2 exD := ⟨by unfold GoodM Good; decide +kernel, by unfold dimM; decide +kernel, rfl⟩
theorem exS_good : matGood 2 2 exS := ⟨by unfold GoodM Good; decide +kernel, by unfold dimM; decide +kernel, rfl⟩
theorem exK_red : reduceQ exK = some ([[intQ 1, intQ 0, intQ (-1)], [intQ 0, intQ 1, intQ 2]], [0, 1]) := by decide +kernel
theorem exK_ker : kerP [[intQ 1, intQ 0, intQ (-1)], [intQ 0, intQ 1, intQ 2]] [0, 1] 3 3 = [[intQ 1, intQ (-2), intQ 1]] := by decide +kernel
theorem exK_R : kerR (emb exK) = (0, [[intQ 1, intQ (-2), intQ 1]]) := by
  have hc := chk_good exK_good rfl (by omega) (by omega)
  have hr : redR (emb exK) = (0, [[intQ 1, intQ 0, intQ (-1)], [intQ 0, intQ 1, intQ 2]], [0, 1]) := by
    unfold redR
    rw [if_neg (by simp [hc]), unq_emb, exK_red]
  unfold kerR
  rw [hr, if_neg (by simp)]
  exact congrArg _ exK_ker
theorem exD_det : detQ 2 exD = some (intQ (-2)) := by decide +kernel
theorem exD_R : detR (emb exD) = (0, ofQ (intQ (-2))) := by
  have hc := chk_good exD_good rfl (by omega) (by omega)
  unfold detR
  rw [if_neg (by simp [hc]), unq_emb, if_neg (by simp [emb, exD, mrow]), show (emb exD).length = 2 from rfl, exD_det]
theorem exS_sq : sqIter 2 exS 2 = .vec [intQ (-2), intQ 1] := by
  have : (match sqIter 2 exS 2 with | .vec v => decide (v = [intQ (-2), intQ 1]) | _ => false) = true := by decide +kernel
  revert this
  cases sqIter 2 exS 2 <;> simp
theorem exS_R : sqR (emb exS) = ⟨0, [], [], [intQ (-2), intQ 1]⟩ := by
  have hc := chk_good exS_good rfl (by omega) (by omega)
  unfold sqR
  rw [if_neg (by simp [hc]), unq_emb, show (emb exS).length = 2 from rfl, if_pos ⟨rfl, by unfold symm; decide +kernel⟩, exS_sq]
  rfl
set_option maxHeartbeats 1000000
theorem works_call : ACall Tryz.prog 16 [] Mem.emp fun v m => v = .bool true ∧ m = Mem.emp := by
  have hw := fun (n : Int) (h1 : -9223372036854775808 ≤ n) (h2 : n < 9223372036854775808) => wholeW_call n h1 h2
  have hk := kernelL_call (emb exK) (lb_emb _)
  rw [exK_R] at hk
  have hd := detL_call (emb exD) (lb_emb _)
  rw [exD_R] at hd
  have hs := squaresL_call (emb exS) (lb_emb _)
  rw [exS_R] at hs
  have sh : ∀ q, Good q → shortR (ofQ q) := fun q h => short_good h
  have g1 : Good (intQ 1) := intQ_good (by decide)
  have g2 : Good (intQ (-2)) := intQ_good (by decide)
  have hrows := rows_call (emb [[intQ 1, intQ (-2), intQ 1]]) (emb [[intQ 1, intQ (-2), intQ 1]]) (by
    intro r hr x hx
    simp [emb] at hr
    subst hr
    simp at hx
    rcases hx with rfl | rfl | rfl
    · exact sh _ g1
    · exact sh _ g2
    · exact sh _ g1) (by decide) (by
    intro r hr
    simp [emb] at hr
    subst hr
    decide)
  have hrow := row_call ([intQ (-2), intQ 1].map ofQ) ([intQ (-2), intQ 1].map ofQ) (by
    intro x hx
    simp at hx
    rcases hx with rfl | rfl
    · exact sh _ g2
    · exact sh _ g1) (by decide)
  have hsame := same_call (ofQ (intQ (-2))) (ofQ (intQ (-2))) (sh _ g2)
  refine acall_S Tryz.func16 rfl rfl 79 rfl (Nat.le_of_ble_eq_true rfl) ?_
  (repeat refine AW.seq_k fun K hK => ?_)
  refine AW.rg ?_
  simp [argsL]
  try (refine hK _ rfl ?_; clear hK; clear K)
  (repeat refine AW.seq_k fun K hK => ?_)
  refine AW.rgR [13,17,18] ?_
  simp
  try (refine hK _ rfl ?_; clear hK; clear K)
  refine CallK.val (hw 0 (by omega) (by omega)) ?_
  simp
  refine CallK.val (hw 2 (by omega) (by omega)) ?_
  simp
  refine CallK.val (hw 4 (by omega) (by omega)) ?_
  simp
  refine CallK.val (hw 1 (by omega) (by omega)) ?_
  simp
  refine CallK.val (hw 1 (by omega) (by omega)) ?_
  simp
  refine CallK.val (hw 1 (by omega) (by omega)) ?_
  simp
  refine hK _ rfl ?_
  clear hK
  clear K
  (repeat refine AW.seq_k fun K hK => ?_)
  refine AW.rg ?_
  simp
  try (refine hK _ rfl ?_; clear hK; clear K)
  refine CallK.val hk ?_
  simp
  refine hK _ rfl ?_
  clear hK
  clear K
  (repeat refine AW.seq_k fun K hK => ?_)
  refine AW.rgR [27,30,31] ?_
  simp
  try (refine hK _ rfl ?_; clear hK; clear K)
  refine CallK.val (hw 1 (by omega) (by omega)) ?_
  simp
  refine CallK.val (hw 2 (by omega) (by omega)) ?_
  simp
  refine CallK.val (hw 3 (by omega) (by omega)) ?_
  simp
  refine CallK.val (hw 4 (by omega) (by omega)) ?_
  simp
  refine CallK.val hd ?_
  simp
  refine Fresh.intro fun b4 _ => ?_
  refine hK _ rfl ?_
  clear hK
  clear K
  refine AW.toEmp [(2, matAV (emb [[intQ 1, intQ (-2), intQ 1]])), (3, .int .i64 0), (4, .rptr [.bool (ofQ (intQ (-2))).n1, lim (ofQ (intQ (-2))).l1, .bool (ofQ (intQ (-2))).n2, lim (ofQ (intQ (-2))).l2]), (5, .int .i64 0)] (by simp; exact view_temp rfl) ?_
  (repeat refine AW.seq_k fun K hK => ?_)
  refine AW.rgR [38,41,42] ?_
  simp
  try (refine hK _ rfl ?_; clear hK; clear K)
  refine CallK.val (hw 1 (by omega) (by omega)) ?_
  simp
  refine CallK.val (hw 2 (by omega) (by omega)) ?_
  simp
  refine CallK.val (hw 2 (by omega) (by omega)) ?_
  simp
  refine CallK.val (hw 1 (by omega) (by omega)) ?_
  simp
  refine CallK.val hs ?_
  simp [sqAV]
  refine hK _ rfl ?_
  clear hK
  clear K
  have yes : ∀ {p : Prop} {v : AV} {m : Mem}, p → saysEq p v ∧ m = Mem.emp → v = .bool true ∧ m = Mem.emp := by
    rintro p v m hp ⟨⟨t, rfl, h⟩, h2⟩
    exact ⟨by rw [h.2 hp], h2⟩
  replace hrows := hrows.mono fun v m h => yes rfl h
  replace hrow := hrow.mono fun v m h => yes rfl h
  replace hsame := hsame.mono fun v m h => yes rfl h
  refine AW.seq_k fun K hK => ?_
  refine AW.rdR [55, 56, 76] [0,1,2,3,4,5,6,7,8,9,10,11,12,13,14,15,16,17,18,19,20,21,22,23,24,25,26,27,28,29,30,31] mix ?_
  simp
  refine CallK.val (hw 1 (by omega) (by omega)) ?_
  simp
  refine CallK.val (hw (-2) (by omega) (by omega)) ?_
  simp
  refine CallK.val (hw 1 (by omega) (by omega)) ?_
  simp
  refine CallK.val hrows ?_
  simp
  refine CallK.val (hw (-2) (by omega) (by omega)) ?_
  simp
  refine CallK.val hsame ?_
  simp
  refine CallK.val (hw (-2) (by omega) (by omega)) ?_
  simp
  refine CallK.val (hw 1 (by omega) (by omega)) ?_
  simp
  refine CallK.val hrow ?_
  simp
  refine hK _ rfl ?_
  clear hK
  clear K
  exact AW.ret (ret_views (vs := [.bool true]) [.bool true] (by simp) (by simp) ⟨rfl, rfl⟩)
end Go.Av
end
section
namespace Go.Av
open Go.Proofs
def pivI (o : Option Nat) : Int := match o with
  | some i => i
  | none => -1
end Go.Av
end
section
namespace Go.Av
open Go.Proofs
def twoM (bi br : Nat) (a b : List Rat) : Mem := (Mem.emp.set bi ⟨36, 4, rrs (a.map ofQ)⟩).set br ⟨36, 4, rrs (b.map ofQ)⟩
def subOut (bi br : Nat) (by_ : List Rat) (X : Option (List Rat)) (v : AV) (M : Mem) : Prop :=
  match X with
  | some row => v = .int .i64 0 ∧ M = twoM bi br row by_
  | none => v = .int .i64 2 ∧ OnesM M ∧ ∀ b, M b ≠ none → b = bi ∨ b = br
end Go.Av
end
section
namespace Go.Av
open Go.Proofs
/-- A matrix of the reference in memory. -/
def RefM (M : Mem) (B : Nat) (bs : List Nat) (X : List (List Rat)) : Prop := MatM M B bs (emb X) ∧ OnlyM M (B :: bs)
theorem RefM.ones {M : Mem} {B : Nat} {bs : List Nat} {X : List (List Rat)} (h : RefM M B bs X) : OnesM M := h.1.ones (l := []) h.2 (by simp)
theorem RefM.setRow {M : Mem} {B : Nat} {bs : List Nat} {X : List (List Rat)} (h : RefM M B bs X) {i : Nat} (hi : i < X.length) {r : List Rat} (hr : r.length = (mrow X i).length) : RefM (M.set (nb bs i) ⟨36, 4, rrs (r.map ofQ)⟩) B bs (X.set i r) := by
  refine ⟨?_, h.2.set ?_ _⟩
  · rw [emb_set]
    exact h.1.setRow (by rw [emb_length]; exact hi) _ (by rw [emb_row, List.length_map, List.length_map, hr])
  · exact List.mem_cons_of_mem _ (nb_mem (by rw [h.1.len, emb_length]; exact hi))
def clearOut (B : Nat) (bs : List Nat) (Z : Option (List (List Rat))) (v : AV) (M : Mem) : Prop :=
  match Z with
  | some Y => v = .int .i64 0 ∧ RefM M B bs Y
  | none => v = .int .i64 2 ∧ OnesM M
set_option maxHeartbeats 1000000
end Go.Av
end
section
namespace Go.Av
open Go.Proofs
/-- A matrix whose rows are appended one after the other. -/
def CopM (M : Mem) (ov : AV) (bs : List Nat) (rows : List (List RR)) : Prop :=
  (rows = [] ∧ bs = [] ∧ ov = .nil ∧ M = Mem.emp) ∨ ∃ B, ov = .osl B 1 0 rows.length ∧ MatM M B bs rows ∧ OnlyM M (B :: bs)
theorem MatM.snoc {M' : Mem} {B : Nat} {bs : List Nat} {rows : List (List RR)} {b : Nat} {r : List RR} (hl : bs.length = rows.length) (htop : M' B = some ⟨42, 1, hdrs bs rows ++ [.osl b 4 0 r.length]⟩) (hrow : ∀ i, i < rows.length → M' (nb bs i) = some ⟨36, 4, rrs (mrow rows i)⟩) (hb : M' b = some ⟨36, 4, rrs r⟩) (hnd : bs.Nodup) (hbb : b ∉ bs) (hB : B ∉ bs) (hBb : B ≠ b) : MatM M' B (bs ++ [b]) (rows ++ [r]) := by
  refine ⟨by rw [hdrs_snoc hl]; exact htop, by simp [hl], fun i hi => ?_, ?_, ?_⟩
  · have hi' : i < rows.length + 1 := by simpa using hi
    rw [nb_snoc bs b i (by rw [hl]; exact hi'), mrow_snoc rows r i hi', hl]
    by_cases hlt : i < rows.length
    · rw [if_pos hlt, if_pos hlt]; exact hrow i hlt
    · rw [if_neg hlt, if_neg hlt]; exact hb
  · rw [List.nodup_append]
    exact ⟨hnd, by simp, fun x hx y hy => by simp at hy; subst hy; exact fun e => hbb (e ▸ hx)⟩
  · simp only [List.mem_append, List.mem_singleton, not_or]
    exact ⟨hB, hBb⟩
theorem del_none {m : Mem} {b : Nat} (h : m b = none) : m.del b = m := by
  funext k
  show (if k = b then none else m k) = m k
  split
  · rename_i e; rw [e, h]
  · rfl
end Go.Av
end
section
namespace Go.Av
open Go.Proofs
structure RefP (M : Mem) (B : Nat) (bs : List Nat) (X : List (List Rat)) (pv : AV) (pb ps : List Nat) : Prop where
  mat : MatM M B bs (emb X)
  piv : PivV M pv pb ps
  npb : ∀ b ∈ pb, b ∉ B :: bs
  ones : OnesM M
section
variable {M : Mem} {B : Nat} {bs : List Nat} {X : List (List Rat)} {pv : AV} {pb ps : List Nat}
theorem RefP.back (h : RefP M B bs X pv pb ps) {g : Mem} {X' : List (List Rat)} (hg : RefM g B bs X') : RefP (M.back (B :: bs) g) B bs X' pv pb ps :=
  ⟨hg.1.back _, h.piv.keep fun b hb => back_out (hg.2.none (h.npb b hb)) (h.npb b hb), h.npb, back_ones h.ones hg.ones⟩
theorem RefP.swap (h : RefP M B bs X pv pb ps) {i r : Nat} (hi : i < X.length) (hr : r < X.length) :
    RefP (M.set B ⟨42, 1, ((hdrs bs (emb X)).set i (.osl (nb bs r) 4 0 (mrow (emb X) r).length)).set r (.osl (nb bs i) 4 0 (mrow (emb X) i).length)⟩) B (swapB bs i r) (swapL X i r) pv pb ps := by
  have hiE : i < (emb X).length := by rw [emb_length]; exact hi
  have hrE : r < (emb X).length := by rw [emb_length]; exact hr
  have hb : ∀ b, b ∈ swapB bs i r ↔ b ∈ bs := fun b => swapB_mem (by rw [h.mat.len]; exact hiE) (by rw [h.mat.len]; exact hrE) b
  refine ⟨by rw [emb_swap]; exact h.mat.swap hiE hrE, h.piv.keep fun b hb' => ?_, fun b hb' => ?_, OnesM.set h.ones B fun v hv => ?_⟩
  · simp only [set_at]; rw [if_neg (by rintro rfl; exact h.npb _ hb' (by simp))]
  · have := h.npb b hb'; simpa [hb] using this
  · rcases List.mem_or_eq_of_mem_set hv with hv | rfl
    · rcases List.mem_or_eq_of_mem_set hv with hv | rfl
      · exact hdrs_ones bs (emb X) v hv
      · rfl
    · rfl
theorem RefP.fresh (h : RefP M B bs X pv pb ps) {b : Nat} (hb : M b = none) : b ∉ B :: bs := by
  intro hm
  rcases List.mem_cons.1 hm with rfl | hm
  · rw [h.mat.top] at hb; cases hb
  · obtain ⟨k, hk, e⟩ := List.mem_iff_getElem.1 hm
    rw [← nb_eq hk] at e
    have := h.mat.row k (by rw [← h.mat.len]; exact hk)
    rw [e, hb] at this; cases this
theorem RefP.push0 (h : RefP M B bs X .nil [] []) {b : Nat} (hb : M b = none) (j : Nat) : RefP (M.set b ⟨3, 1, [.int .i64 (j : Nat)]⟩) B bs X (.osl b 1 0 1) [b] [j] := by
  have hn := h.fresh hb
  have h1 : b ≠ B := fun e => hn (by simp [e])
  have h2 : b ∉ bs := fun e => hn (by simp [e])
  exact ⟨h.mat.other h1 h2 _, .inr ⟨b, rfl, rfl, by simp [ints]⟩, fun a ha => by simp at ha; subst ha; exact hn, h.ones.set b fun v hv => by simp at hv; subst hv; rfl⟩
theorem RefP.push1 {b0 : Nat} (h : RefP M B bs X (.osl b0 1 0 ps.length) [b0] ps) {b : Nat} (hb : (M.del b0) b = none) (j : Nat) : RefP ((M.del b0).set b ⟨3, 1, ints ps ++ [.int .i64 (j : Nat)]⟩) B bs X (.osl b 1 0 (ps.length + 1)) [b] (ps ++ [j]) := by
  have h0 := h.npb b0 (by simp)
  have hh : RefP (M.del b0) B bs X .nil [] [] := by
    have hdel : ∀ a, a ≠ b0 → (M.del b0) a = M a := fun a ha => if_neg ha
    refine ⟨⟨by rw [hdel B (by rintro rfl; exact h0 (by simp))]; exact h.mat.top, h.mat.len, fun i hi => ?_, h.mat.nd, h.mat.nB⟩, .inl ⟨rfl, rfl, rfl⟩, by simp, h.ones.del b0⟩
    rw [hdel _ (fun e => h0 (e ▸ List.mem_cons_of_mem _ (nb_mem (by rw [h.mat.len]; exact hi))))]
    exact h.mat.row i hi
  have hn := hh.fresh hb
  have h1 : b ≠ B := fun e => hn (by simp [e])
  have h2 : b ∉ bs := fun e => hn (by simp [e])
  refine ⟨hh.mat.other h1 h2 _, .inr ⟨b, rfl, by simp, by simp [ints_snoc]⟩, fun a ha => by simp at ha; subst ha; exact hn, hh.ones.set b fun v hv => ?_⟩
  rcases List.mem_append.1 hv with hv | hv
  · exact ints_one ps v hv
  · simp at hv; subst hv; rfl
end
structure RefS where
  X : List (List Rat)
  ps : List Nat
  M : Mem
  bs : List Nat
  pv : AV
  pb : List Nat
def InvQ (X0 : List (List Rat)) (B w j : Nat) (s : RefS) : Prop :=
  iterO colStep j (X0, []) = some (s.X, s.ps) ∧ matGood X0.length w s.X ∧ s.ps.length ≤ X0.length ∧ RefP s.M B s.bs s.X s.pv s.pb s.ps
set_option maxHeartbeats 1000000
end Go.Av
end
section
namespace Go.Av
open Go.Proofs
theorem ty22 : Tryz.prog.underlying 22 = some (.slice 42) := by kernel_rfl
theorem ty42 : Tryz.prog.underlying 42 = some (.slice 36) := by kernel_rfl
theorem ty32 : Tryz.prog.underlying 32 = some (.slice 87) := by kernel_rfl
theorem ty87 : Tryz.prog.underlying 87 = some (.int .u32) := by kernel_rfl
theorem ty4 : Tryz.prog.underlying 4 = some .bool := by kernel_rfl
theorem cl87 : Tryz.prog.cellsOf 87 = 1 := by kernel_rfl
theorem cl42 : Tryz.prog.cellsOf 42 = 1 := by kernel_rfl
theorem cl36 : Tryz.prog.cellsOf 36 = 4 := by kernel_rfl
theorem cl34 : Tryz.prog.cellsOf 34 = 2 := by kernel_rfl
theorem cl32 : Tryz.prog.cellsOf 32 = 1 := by kernel_rfl
theorem cl4 : Tryz.prog.cellsOf 4 = 1 := by kernel_rfl
noncomputable def flds (t : TypeId) : Array Field := match Tryz.prog.underlying t with
  | some (.struct fs) => fs
  | _ => #[]
noncomputable def fldT (t : TypeId) (i : Nat) : Option (TypeId × Nat) := ((flds t)[i]?).map fun f => (f.type, f.offset)
theorem ty36 : Tryz.prog.underlying 36 = some (.struct (flds 36)) := by kernel_rfl
theorem ty34 : Tryz.prog.underlying 34 = some (.struct (flds 34)) := by kernel_rfl
theorem f36_0 : fldT 36 0 = some (34, 0) := by kernel_rfl
theorem f36_1 : fldT 36 1 = some (34, 2) := by kernel_rfl
theorem f34_0 : fldT 34 0 = some (4, 0) := by kernel_rfl
theorem f34_1 : fldT 34 1 = some (32, 1) := by kernel_rfl
theorem fld_get {t : TypeId} {i : Nat} {p : TypeId × Nat} (h : fldT t i = some p) : ∃ f : Field, (flds t)[i]? = some f ∧ f.type = p.1 ∧ f.offset = p.2 := by
  unfold fldT at h
  cases hf : (flds t)[i]? with
  | none => rw [hf] at h; cases h
  | some f => rw [hf] at h; cases h; exact ⟨f, rfl, rfl, rfl⟩
variable {H : Type} {enc : TypeId × Value → H} {W : World}
theorem cell_lt {a : Addr} {v : Value} (h : W.cell? a = some v) : a.block < W.heap.size := by
  unfold World.cell? at h
  rcases Nat.lt_or_ge a.block W.heap.size with hl | hl
  · exact hl
  · rw [Array.getElem?_eq_none hl] at h
    simp at h
theorem cellAt_u32s {l : List Nat} {i j : Nat} {u : AV} (h : cellAt (u32s l) i j = some u) : j = 0 ∧ i < l.length ∧ u = .int .u32 (nth l i : Nat) := by
  unfold cellAt u32s at h
  rw [List.getElem?_map] at h
  cases hi : l[i]? with
  | none => rw [hi] at h; cases h
  | some y =>
    rw [hi] at h
    have hl := (List.getElem?_eq_some_iff.1 hi).1
    cases j with
    | zero =>
      cases h
      refine ⟨rfl, hl, ?_⟩
      unfold nth
      rw [List.getD_eq_getElem?_getD, hi]; rfl
    | succ k => cases h
theorem read_mag {fuel : Nat} {c : Value} {x : DataW H × List MemPlace} (h : DataW.trod enc Tryz.prog W 0 (fun _ => true) true fuel 32 [c] = some x) : ∃ l, Lb l ∧ VR W (fun _ => False) (lim l) c := by
  rcases Go.ChangeShapes.open_ints ty32 ty87 cl87 h with ⟨hc, _⟩ | ⟨a, len, cap, zs, hc, _, hl, hm, hz, _, hcell, hwf⟩
  · simp only [List.cons.injEq, and_true] at hc
    subst hc
    exact ⟨[], fun y hy => (by cases hy), .sl0 1 none 0⟩
  · simp only [List.cons.injEq, and_true] at hc
    subst hc
    simp at hz
    rcases Nat.eq_zero_or_pos len with h0 | h0
    · subst h0
      exact ⟨[], fun y hy => (by cases hy), .sl0 1 (some a) cap⟩
    · have h00 := hcell 0 (by omega)
      have hsp := World.cell?_spot h00
      have hbl := cell_lt h00
      obtain ⟨b, o, sp⟩ := a
      simp [Addr.add] at hsp hbl
      subst hsp
      have hzl : ∀ i, i < len → 0 ≤ zs.getD i 0 ∧ zs.getD i 0 ≤ 4294967295 := fun i hi => by
        have : zs.getD i 0 = zs[i]'(by omega) := by rw [List.getD_eq_getElem?_getD, List.getElem?_eq_getElem (by omega)]; rfl
        rw [this]
        exact Go.bounds_u32 (hwf _ (List.getElem_mem _))
      refine ⟨(List.range len).map fun i => (zs.getD i 0).toNat, fun y hy => ?_, ?_⟩
      · obtain ⟨i, hi, rfl⟩ := List.mem_map.1 hy
        have := hzl i (List.mem_range.1 hi)
        omega
      · have e : ((List.range len).map fun i => (zs.getD i 0).toNat).length = len := by simp
        have := VR.sl (w := W) (F := fun _ => False) 1 (u32s ((List.range len).map fun i => (zs.getD i 0).toNat)) b o cap (fun i _ => .int .u32 (zs.getD i 0)) (by simp) hbl (by simp; exact hl) (by
          intro v hv
          obtain ⟨y, _, rfl⟩ := List.mem_map.1 hv
          rfl) ?_ ?_
        · rw [u32s_length, e] at this
          exact this
        · intro i j u hu
          obtain ⟨rfl, q1, rfl⟩ := cellAt_u32s hu
          rw [e] at q1
          have := hzl i q1
          have hn : nth ((List.range len).map fun i => (zs.getD i 0).toNat) i = (zs.getD i 0).toNat := by
            unfold nth
            rw [List.getD_eq_getElem?_getD, List.getElem?_map, List.getElem?_range q1]
            rfl
          rw [hn, Int.toNat_of_nonneg this.1]
          exact .int _ _
        · intro i j u hu
          obtain ⟨rfl, q1, rfl⟩ := cellAt_u32s hu
          rw [e] at q1
          have := hcell i (by omega)
          rcases Nat.eq_zero_or_pos i with h' | h'
          · subst h'; simpa [Addr.add] using this
          · have h'' : i ≠ 0 := by omega
            simpa [Addr.add, h''] using this
set_option maxRecDepth 100000
theorem read_int {fuel : Nat} {cs : List Value} {x : DataW H × List MemPlace} (h : DataW.trod enc Tryz.prog W 0 (fun _ => true) true fuel 34 cs = some x) : ∃ n l c, cs = [.bool n, c] ∧ Lb l ∧ VR W (fun _ => False) (lim l) c := by
  obtain ⟨xs, n, _, rfl, hl, hlen, hf⟩ := DataW.trod_struct ty34 h
  rw [cl34] at hl
  obtain ⟨c0, c1, rfl⟩ : ∃ c0 c1, cs = [c0, c1] := by
    match cs, hl with
    | [c0, c1], _ => exact ⟨c0, c1, rfl⟩
  obtain ⟨f0, g1, g2, g3⟩ := fld_get f34_0
  obtain ⟨f1, k1, k2, k3⟩ := fld_get f34_1
  have h0 := hf 0 f0 g1
  have h1 := hf 1 f1 k1
  simp only at g2 g3 k2 k3
  rw [g2, g3, cl4] at h0
  rw [k2, k3, cl32] at h1
  have hs : xs.length = 2 := by rw [hlen]; kernel_rfl
  obtain ⟨b, hb, _⟩ := DataW.trod_bool ty4 (h0.trans (List.getElem?_eq_getElem (by omega)))
  obtain ⟨l, hl1, hl2⟩ := read_mag (h1.trans (List.getElem?_eq_getElem (by omega)))
  simp at hb
  exact ⟨b, l, c1, by rw [hb], hl1, hl2⟩
theorem read_rat {fuel : Nat} {cs : List Value} {x : DataW H × List MemPlace} (h : DataW.trod enc Tryz.prog W 0 (fun _ => true) true fuel 36 cs = some x) : ∃ r : RR, r.Lb ∧ cs.length = 4 ∧ ∀ (j : Nat) (u : AV), r.av.cells[j]? = some u → ∃ c, cs[j]? = some c ∧ VR W (fun _ => False) u c := by
  obtain ⟨xs, n, _, rfl, hl, hlen, hf⟩ := DataW.trod_struct ty36 h
  rw [cl36] at hl
  obtain ⟨c0, c1, c2, c3, rfl⟩ : ∃ c0 c1 c2 c3, cs = [c0, c1, c2, c3] := by
    match cs, hl with
    | [c0, c1, c2, c3], _ => exact ⟨c0, c1, c2, c3, rfl⟩
  obtain ⟨f0, g1, g2, g3⟩ := fld_get f36_0
  obtain ⟨f1, k1, k2, k3⟩ := fld_get f36_1
  have h0 := hf 0 f0 g1
  have h1 := hf 1 f1 k1
  simp only at g2 g3 k2 k3
  rw [g2, g3, cl34] at h0
  rw [k2, k3, cl34] at h1
  have hs : xs.length = 2 := by rw [hlen]; kernel_rfl
  obtain ⟨n1, l1, d1, e1, b1, v1⟩ := read_int (h0.trans (List.getElem?_eq_getElem (by omega)))
  obtain ⟨n2, l2, d2, e2, b2, v2⟩ := read_int (h1.trans (List.getElem?_eq_getElem (by omega)))
  simp at e1 e2
  obtain ⟨rfl, rfl⟩ := e1
  obtain ⟨rfl, rfl⟩ := e2
  refine ⟨⟨n1, l1, n2, l2⟩, ⟨b1, b2⟩, rfl, fun j u hu => ?_⟩
  match j, hu with
  | 0, hu => cases hu; exact ⟨_, rfl, .bool _⟩
  | 1, hu => cases hu; exact ⟨_, rfl, v1⟩
  | 2, hu => cases hu; exact ⟨_, rfl, .bool _⟩
  | 3, hu => cases hu; exact ⟨_, rfl, v2⟩
  | k + 4, hu => cases hu
end Go.Av
end
section
namespace Go.Av
open Go.Proofs
variable {H : Type} {enc : TypeId × Value → H} {W : World}
theorem choose_fun {α : Type} [Inhabited α] {n : Nat} {p : Nat → α → Prop} (h : ∀ i, i < n → ∃ a, p i a) : ∃ f : Nat → α, ∀ i, i < n → p i (f i) := by
  classical
  exact ⟨fun i => if hi : i < n then Classical.choose (h i hi) else default, fun i hi => by
    simp only [dif_pos hi]
    exact Classical.choose_spec (h i hi)⟩
theorem addr_add2 (b o i j : Nat) : ((⟨b, o, none⟩ : Addr).add i).add j = ⟨b, o + (i + j), none⟩ := by
  by_cases hi : i = 0
  · subst hi
    by_cases hj : j = 0
    · subst hj; simp [Addr.add]
    · simp [Addr.add, hj]
  · by_cases hj : j = 0
    · subst hj; simp [Addr.add, hi]
    · simp [Addr.add, hi, hj, Nat.add_assoc]
theorem read_row {fuel : Nat} {c : Value} {x : DataW H × List MemPlace} (h : DataW.trod enc Tryz.prog W 0 (fun _ => true) true fuel 42 [c] = some x) : ∃ r : List RR, (∀ y ∈ r, y.Lb) ∧ VR W (fun _ => False) (rowAV r) c := by
  rcases Go.Deep.open_slice ty42 h with ⟨hc, _⟩ | ⟨a, len, cap, m, n, D, Pl, hc, _, hl, hm, hmm, _, hx⟩
  · simp only [List.cons.injEq, and_true] at hc
    subst hc
    exact ⟨[], fun y hy => (by cases hy), .sl0 4 none 0⟩
  · simp only [List.cons.injEq, and_true] at hc
    subst hc
    simp at hmm
    subst hmm
    rcases Nat.eq_zero_or_pos len with h0 | h0
    · subst h0
      exact ⟨[], fun y hy => (by cases hy), .sl0 4 (some a) m⟩
    · rw [cl36] at hx
      obtain ⟨C, hC⟩ := choose_fun (α := List Value) (p := fun i cs => W.cells? 0 (a.add (i * 4)) 4 = some cs ∧ DataW.trod enc Tryz.prog W 0 (fun _ => true) true n 36 cs = some (D i, Pl i)) (n := len) (fun i hi => hx i (by omega))
      obtain ⟨R, hR⟩ := choose_fun (α := RR) (n := len) (fun i hi => read_rat (hC i hi).2)
      have hcell : ∀ i, i < len → ∀ j, j < 4 → W.cell? ((a.add (i * 4)).add j) = (C i)[j]? := fun i hi => (World.cells?_some (hC i hi).1).2.2
      obtain ⟨c00, hc00, _⟩ := (hR 0 h0).2.2 0 (.bool (R 0).n1) rfl
      have h00 := (hcell 0 h0 0 (by omega)).trans hc00
      have hsp := World.cell?_spot h00
      have hbl := cell_lt h00
      obtain ⟨b, o, sp⟩ := a
      simp [Addr.add] at hsp hbl
      subst hsp
      have hcellAt : ∀ i j u, cellAt (rrs ((List.range len).map R)) i j = some u → i < len ∧ (R i).av.cells[j]? = some u := by
        intro i j u hu
        unfold cellAt rrs at hu
        rw [List.map_map, List.getElem?_map] at hu
        by_cases hi : i < len
        · rw [List.getElem?_range hi] at hu
          exact ⟨hi, hu⟩
        · rw [List.getElem?_eq_none (by simp; omega)] at hu
          cases hu
      refine ⟨(List.range len).map R, fun y hy => ?_, ?_⟩
      · obtain ⟨i, hi, rfl⟩ := List.mem_map.1 hy
        exact (hR i (List.mem_range.1 hi)).1
      · have := VR.sl (w := W) (F := fun _ => False) 4 (rrs ((List.range len).map R)) b o m (fun i j => ((C i)[j]?).getD (.bool false)) (by simp) hbl (by simp; exact hl) (by
          intro v hv
          obtain ⟨y, _, rfl⟩ := List.mem_map.1 hv
          rfl) (fun i j u hu => by
            obtain ⟨hi, hu⟩ := hcellAt i j u hu
            obtain ⟨c, q1, q2⟩ := (hR i hi).2.2 j u hu
            rw [q1]; exact q2) (fun i j u hu => by
            obtain ⟨hi, hu⟩ := hcellAt i j u hu
            obtain ⟨c, q1, q2⟩ := (hR i hi).2.2 j u hu
            have hj : j < 4 := by
              have := (List.getElem?_eq_some_iff.1 q1).1
              rw [(hR i hi).2.1] at this; exact this
            have := hcell i hi j hj
            rw [addr_add2, q1] at this
            rw [this, q1]; rfl)
        rw [rrs_length, List.length_map, List.length_range] at this
        exact this
theorem read_mat {fuel : Nat} {c : Value} {x : DataW H × List MemPlace} (h : DataW.trod enc Tryz.prog W 0 (fun _ => true) true fuel 22 [c] = some x) : ∃ m : List (List RR), LbM m ∧ VR W (fun _ => False) (matAV m) c := by
  rcases Go.Deep.open_slice1 ty22 cl42 h with ⟨hc, _⟩ | ⟨a, len, cap, m, n, V, D, Pl, hc, _, hl, hm, hmm, _, hx⟩
  · simp only [List.cons.injEq, and_true] at hc
    subst hc
    exact ⟨[], fun y hy => (by cases hy), .sl0 1 none 0⟩
  · simp only [List.cons.injEq, and_true] at hc
    subst hc
    simp at hmm
    subst hmm
    rcases Nat.eq_zero_or_pos len with h0 | h0
    · subst h0
      exact ⟨[], fun y hy => (by cases hy), .sl0 1 (some a) m⟩
    · obtain ⟨R, hR⟩ := choose_fun (α := List RR) (n := len) (fun i hi => read_row (hx i (by omega)).2)
      have h00 := (hx 0 (by omega)).1
      have hsp := World.cell?_spot h00
      have hbl := cell_lt h00
      obtain ⟨b, o, sp⟩ := a
      simp [Addr.add] at hsp hbl
      subst hsp
      have hcellAt : ∀ i j u, cellAt (((List.range len).map R).map rowAV) i j = some u → i < len ∧ j = 0 ∧ u = rowAV (R i) := by
        intro i j u hu
        unfold cellAt at hu
        rw [List.map_map, List.getElem?_map] at hu
        by_cases hi : i < len
        · rw [List.getElem?_range hi] at hu
          cases j with
          | zero => cases hu; exact ⟨hi, rfl, rfl⟩
          | succ k => cases hu
        · rw [List.getElem?_eq_none (by simp; omega)] at hu
          cases hu
      refine ⟨(List.range len).map R, fun y hy => ?_, ?_⟩
      · obtain ⟨i, hi, rfl⟩ := List.mem_map.1 hy
        exact (hR i (List.mem_range.1 hi)).1
      · have := VR.sl (w := W) (F := fun _ => False) 1 (((List.range len).map R).map rowAV) b o m (fun i _ => V i) (by simp) hbl (by simp; exact hl) (by
          intro v hv
          obtain ⟨y, _, rfl⟩ := List.mem_map.1 hv
          rfl) (fun i j u hu => by
            obtain ⟨hi, rfl, rfl⟩ := hcellAt i j u hu
            exact (hR i hi).2) (fun i j u hu => by
            obtain ⟨hi, rfl, rfl⟩ := hcellAt i j u hu
            have := (hx i (by omega)).1
            rcases Nat.eq_zero_or_pos i with h' | h'
            · subst h'; simpa [Addr.add] using this
            · have h'' : i ≠ 0 := by omega
              simpa [Addr.add, h''] using this)
        rw [List.length_map, List.length_map, List.length_range] at this
        exact this
end Go.Av
end
section
namespace Go.Av
open Go.Proofs
variable {H : Type} {enc : TypeId × Value → H} {W : World}
theorem call_two {f : FuncId} {x y : AV} (hf : ACall Tryz.prog f [x, y] Mem.emp fun v mm => v = .bool true ∧ mm = Mem.emp) {c c' : Value} (hx : VR W (fun _ => False) x c) (hy : VR W (fun _ => False) y c') :
    Calls Tryz.prog f #[c, c'] W fun e W' => e = .returned (.bool true) ∧ RowKit.Below W.heap.size W W' := by
  have hO : Own (fun _ => False) Mem.emp = fun _ => False := by funext b; simp [Own, Mem.emp]
  refine (hf.2 W (fun _ => False) #[c, c'] (fun b hb => hb.elim) (fun b x hx => by cases hx) ?_).mono ?_
  · rw [hO]
    refine ⟨rfl, fun j u v hu hv' => ?_⟩
    match j, hu with
    | 0, hu => cases hu; cases hv'; exact hx
    | 1, hu => cases hu; cases hv'; exact hy
    | k + 2, hu => cases hu
  · rintro e W' ⟨v, cv, g', rfl, ⟨rfl, _⟩, _, hvr, hg, _⟩
    cases hvr
    exact ⟨rfl, ⟨hg.os, hg.tape, hg.output, hg.size, fun k hk => hg.block k hk (by simp [Mem.emp])⟩⟩
end Go.Av
end
section
namespace Go.Av
open Go.Proofs
def sumN : Nat → (Nat → Rat) → Rat
  | 0, _ => 0
  | n + 1, f => sumN n f + f n
theorem sumN_succ (n : Nat) (f : Nat → Rat) : sumN (n + 1) f = sumN n f + f n := rfl
theorem sumN_congr {n : Nat} {f g : Nat → Rat} (h : ∀ i, i < n → f i = g i) : sumN n f = sumN n g := by
  induction n with
  | zero => rfl
  | succ n ih => rw [sumN_succ, sumN_succ, ih (fun i hi => h i (by omega)), h n (by omega)]
theorem sumN_zero {n : Nat} {f : Nat → Rat} (h : ∀ i, i < n → f i = 0) : sumN n f = 0 := by
  induction n with
  | zero => rfl
  | succ n ih => rw [sumN_succ, ih (fun i hi => h i (by omega)), h n (by omega)]; grind
theorem sumN_add (n : Nat) (f g : Nat → Rat) : sumN n (fun i => f i + g i) = sumN n f + sumN n g := by
  induction n with
  | zero => show (0 : Rat) = 0 + 0; grind
  | succ n ih => rw [sumN_succ, sumN_succ, sumN_succ, ih]; grind
theorem sumN_mul (n : Nat) (c : Rat) (f : Nat → Rat) : sumN n (fun i => c * f i) = c * sumN n f := by
  induction n with
  | zero => show (0 : Rat) = c * 0; grind
  | succ n ih => rw [sumN_succ, sumN_succ, ih]; grind
theorem sumN_single {n k : Nat} {f : Nat → Rat} (hk : k < n) (h : ∀ i, i < n → i ≠ k → f i = 0) : sumN n f = f k := by
  induction n with
  | zero => omega
  | succ n ih =>
    rw [sumN_succ]
    by_cases e : k = n
    · subst e
      rw [sumN_zero fun i hi => h i (by omega) (by omega)]; grind
    · rw [ih (by omega) fun i hi => h i (by omega), h n (by omega) (fun h => e h.symm)]; grind
/-- A row on a vector. -/
def dotV (w : Nat) (r v : Nat → Rat) : Rat := sumN w fun l => r l * v l
theorem dotV_congr {w : Nat} {r r' v v' : Nat → Rat} (h : ∀ l, l < w → r l = r' l) (h2 : ∀ l, l < w → v l = v' l) : dotV w r v = dotV w r' v' := sumN_congr fun l hl => by rw [h l hl, h2 l hl]
theorem dotV_sub (w : Nat) (r s v : Nat → Rat) (c : Rat) : dotV w (fun l => r l - s l * c) v = dotV w r v - c * dotV w s v := by
  unfold dotV
  rw [← sumN_mul]
  have : sumN w (fun l => (r l - s l * c) * v l) = sumN w (fun l => r l * v l + (-1) * (c * (s l * v l))) := sumN_congr fun l _ => by grind
  rw [this, sumN_add, sumN_mul]; grind
theorem dotV_div (w : Nat) (r v : Nat → Rat) (c : Rat) : dotV w (fun l => r l / c) v = dotV w r v / c := by
  unfold dotV
  have : sumN w (fun l => r l / c * v l) = sumN w (fun l => c⁻¹ * (r l * v l)) := sumN_congr fun l _ => by grind
  rw [this, sumN_mul]; grind
/-! ### Exact results -/
theorem addQ_eq {a b c : Rat} (h : addQ a b = some c) : c = a + b := by unfold addQ at h; split at h <;> cases h; rfl
theorem subQ_eq {a b c : Rat} (h : subQ a b = some c) : c = a - b := by unfold subQ at h; split at h <;> cases h; rfl
theorem mulQ_eq {a b c : Rat} (h : mulQ a b = some c) : c = a * b := by unfold mulQ at h; split at h <;> cases h; rfl
theorem divQ_eq {a b c : Rat} (h : divQ a b = some c) : c = a / b := by unfold divQ at h; split at h <;> cases h; rfl
theorem lessQ_eq {a f b c : Rat} (h : lessQ a f b = some c) : c = a - b * f := by
  unfold lessQ at h
  cases hm : mulQ b f with
  | none => rw [hm] at h; cases h
  | some p => rw [hm] at h; rw [subQ_eq h, mulQ_eq hm]
theorem qat_set {r : List Rat} {k : Nat} (hk : k < r.length) (x : Rat) (i : Nat) : qat (r.set k x) i = if i = k then x else qat r i := by
  unfold qat
  rw [List.getD_eq_getElem?_getD, List.getElem?_set]
  by_cases e : k = i
  · subst e; rw [if_pos rfl, if_pos hk, if_pos rfl]; rfl
  · rw [if_neg e, if_neg (Ne.symm e), ← List.getD_eq_getElem?_getD]
/-- A row that is changed place by place, from a place on. -/
theorem rowIter {op : Rat → Nat → Option Rat} {f : Nat → List Rat → Option (List Rat)} {o : Nat} (hf : ∀ t r, f t r = rowStep op (o + t) r) : ∀ {n : Nat} {row row' : List Rat}, o + n ≤ row.length → iterO f n row = some row' →
    row'.length = row.length ∧ (∀ k, k < n → op (qat row (o + k)) (o + k) = some (qat row' (o + k))) ∧ ∀ k, k < o ∨ o + n ≤ k → qat row' k = qat row k
  | 0, row, row', _, h => by cases h; exact ⟨rfl, fun k hk => by omega, fun _ _ => rfl⟩
  | n + 1, row, row', hl, h => by
    rw [iterO_succ] at h
    cases hs : iterO f n row with
    | none => rw [hs] at h; cases h
    | some u =>
      rw [hs] at h
      obtain ⟨h1, h2, h3⟩ := rowIter hf (by omega) hs
      replace h : f n u = some row' := h
      rw [hf] at h
      unfold rowStep at h
      cases ho : op (qat u (o + n)) (o + n) with
      | none => rw [ho] at h; cases h
      | some x =>
        rw [ho] at h
        cases h
        have hk : o + n < u.length := by omega
        refine ⟨by rw [List.length_set, h1], fun k hk' => ?_, fun k hk' => ?_⟩
        · rw [qat_set hk]
          by_cases e : k = n
          · subst e; rw [if_pos rfl, ← h3 (o + k) (by omega)]; exact ho
          · rw [if_neg (by omega)]; exact h2 k (by omega)
        · rw [qat_set hk, if_neg (by omega)]; exact h3 k (by omega)
theorem qel_set {M : List (List Rat)} {i : Nat} (hi : i < M.length) (r : List Rat) (a b : Nat) : qel (M.set i r) a b = if a = i then qat r b else qel M a b := by
  unfold qel
  rw [mrow_set hi]
  split <;> rfl
theorem qel_swap {M : List (List Rat)} {i r : Nat} (hi : i < M.length) (hr : r < M.length) (a b : Nat) : qel (swapL M i r) a b = if a = r then qel M i b else if a = i then qel M r b else qel M a b := by
  unfold qel
  rw [mrow_swap hi hr]
  split
  · rfl
  · split <;> rfl
theorem elim_spec {n w r j i : Nat} {M M' : List (List Rat)} (h : matGood n w M) (hi : i < n) (he : elimStep r j i M = some M') : M'.length = n ∧ ∀ a b, b < w → qel M' a b = if a = i ∧ i ≠ r then qel M a b - qel M r b * qel M a j else qel M a b := by
  unfold elimStep at he
  by_cases hc : i = r ∨ qel M i j = 0
  · rw [if_pos hc] at he
    cases he
    refine ⟨h.2.2, fun a b hb => ?_⟩
    split
    · rename_i hh
      rw [hh.1, hc.resolve_left hh.2]; grind
    · rfl
  · rw [if_neg hc] at he
    have hl : (mrow M i).length = w := (h.row hi).2
    rw [hl] at he
    cases hm : iterO (subStep (mrow M r) (qel M i j)) w (mrow M i) with
    | none => rw [hm] at he; cases he
    | some row =>
      rw [hm] at he
      cases he
      obtain ⟨k1, k2, k3⟩ := rowIter (o := 0) (op := fun q k => lessQ q (qel M i j) (qat (mrow M r) k)) (fun t r => by rw [Nat.zero_add]; rfl) (by omega) hm
      refine ⟨by rw [List.length_set]; exact h.2.2, fun a b hb => ?_⟩
      rw [qel_set (by rw [h.2.2]; exact hi)]
      by_cases e : a = i
      · subst e
        rw [if_pos rfl, if_pos ⟨rfl, fun h => hc (.inl h)⟩]
        have := k2 b hb
        rw [Nat.zero_add] at this
        exact lessQ_eq this
      · rw [if_neg e, if_neg (fun h => e h.1)]
theorem clear_spec {n w r j : Nat} {M Y : List (List Rat)} (h : matGood n w M) (hr : r < n) (hd : qel M r j ≠ 0) (hj : j < w) (he : clearQ M j r = some Y) : matGood n w Y ∧ ∀ a b, a < n → b < w → qel Y a b = if a = r then qel M r b / qel M r j else qel M a b - qel M r b / qel M r j * qel M a j := by
  refine ⟨clear_keep hr h hd he, ?_⟩
  unfold clearQ at he
  have hl : (mrow M r).length = w := (h.row hr).2
  rw [hl] at he
  cases hm : iterO (divStep (qel M r j)) w (mrow M r) with
  | none => rw [hm] at he; cases he
  | some row =>
    rw [hm] at he
    replace he : iterO (elimStep r j) M.length (M.set r row) = some Y := he
    rw [h.2.2] at he
    obtain ⟨k1, k2, k3⟩ := rowIter (o := 0) (op := fun q _ => divQ q (qel M r j)) (fun t r => by rw [Nat.zero_add]; rfl) (by omega) hm
    have hrow : ∀ b, b < w → qat row b = qel M r b / qel M r j := fun b hb => by
      have := k2 b hb
      rw [Nat.zero_add] at this
      exact divQ_eq this
    have hg1 : matGood n w (M.set r row) := h.set r (iter_keep (p := fun row => rowGood row ∧ row.length = w) (fun k s t hs hst => rowStep_keep (fun q k x hx => good_div hd hx) hs hst) (h.row hr) hm)
    have h1 : ∀ a b, qel (M.set r row) a b = if a = r then qat row b else qel M a b := fun a b => qel_set (by rw [h.2.2]; exact hr) row a b
    have key : ∀ (i : Nat) (Z : List (List Rat)), i ≤ n → iterO (elimStep r j) i (M.set r row) = some Z → matGood n w Z ∧ ∀ a b, b < w → qel Z a b = if a = r then qat row b else if a < i then qel M a b - qat row b * qel M a j else qel M a b := by
      intro i
      induction i with
      | zero =>
        intro Z _ hZ
        cases hZ
        refine ⟨hg1, fun a b _ => ?_⟩
        rw [h1, if_neg (show ¬ a < 0 by omega)]
      | succ i ih =>
        intro Z hi hZ
        rw [iterO_succ] at hZ
        cases hs : iterO (elimStep r j) i (M.set r row) with
        | none => rw [hs] at hZ; cases hZ
        | some U =>
          rw [hs] at hZ
          obtain ⟨g1, g2⟩ := ih U (by omega) hs
          have hZ' : elimStep r j i U = some Z := hZ
          refine ⟨elim_keep (by omega) g1 hZ', fun a b hb => ?_⟩
          rw [(elim_spec g1 (by omega) hZ').2 a b hb]
          by_cases e : a = i ∧ i ≠ r
          · obtain ⟨rfl, e2⟩ := e
            rw [if_pos ⟨rfl, e2⟩, if_neg e2, if_pos (by omega), g2 a b hb, g2 r b hb, g2 a j hj, if_neg e2, if_neg (by omega), if_pos rfl, if_neg e2, if_neg (by omega)]
          · rw [if_neg e, g2 a b hb]
            by_cases e1 : a = r
            · rw [if_pos e1, if_pos e1]
            · rw [if_neg e1, if_neg e1]
              by_cases e2 : a < i
              · rw [if_pos e2, if_pos (by omega)]
              · rw [if_neg e2, if_neg]
                intro h3
                exact e ⟨by omega, by omega⟩
    intro a b ha hb
    rw [(key n Y (Nat.le_refl _) he).2 a b hb]
    by_cases e : a = r
    · rw [if_pos e, if_pos e, hrow b hb]
    · rw [if_neg e, if_neg e, if_pos ha, hrow b hb]
end Go.Av
end
section
namespace Go.Av
open Go.Proofs
def NullV (n w : Nat) (M : List (List Rat)) (v : Nat → Rat) : Prop := ∀ i, i < n → dotV w (qel M i) v = 0
theorem null_swap {n w : Nat} {M : List (List Rat)} {i r : Nat} (hM : M.length = n) (hi : i < n) (hr : r < n) (v : Nat → Rat) : NullV n w (swapL M i r) v ↔ NullV n w M v := by
  have e : ∀ a, dotV w (qel (swapL M i r) a) v = if a = r then dotV w (qel M i) v else if a = i then dotV w (qel M r) v else dotV w (qel M a) v := fun a => by
    have : qel (swapL M i r) a = fun b => if a = r then qel M i b else if a = i then qel M r b else qel M a b := funext fun b => qel_swap (by omega) (by omega) a b
    rw [this]
    split
    · rfl
    · split <;> rfl
  constructor
  · intro h a ha
    by_cases e1 : a = r
    · by_cases e2 : i = r
      · have := h r hr; rw [e, if_pos rfl, e2] at this; rw [e1]; exact this
      · have := h i hi; rw [e, if_neg e2, if_pos rfl] at this; rw [e1]; exact this
    · by_cases e2 : a = i
      · have := h r hr; rw [e, if_pos rfl] at this; rw [e2]; exact this
      · have := h a ha; rw [e, if_neg e1, if_neg e2] at this; exact this
  · intro h a ha
    rw [e]
    split
    · exact h i hi
    · split
      · exact h r hr
      · exact h a ha
theorem null_clear {n w r j : Nat} {M Y : List (List Rat)} (hr : r < n) (hd : qel M r j ≠ 0) (hs : ∀ a b, a < n → b < w → qel Y a b = if a = r then qel M r b / qel M r j else qel M a b - qel M r b / qel M r j * qel M a j) (v : Nat → Rat) : NullV n w Y v ↔ NullV n w M v := by
  have e1 : dotV w (qel Y r) v = dotV w (qel M r) v / qel M r j := by
    rw [← dotV_div]
    exact dotV_congr (fun l hl => by rw [hs r l hr hl, if_pos rfl]) fun _ _ => rfl
  have e2 : ∀ a, a < n → a ≠ r → dotV w (qel Y a) v = dotV w (qel M a) v - qel M a j * (dotV w (qel M r) v / qel M r j) := fun a ha hne => by
    rw [← dotV_div, ← dotV_sub]
    exact dotV_congr (fun l hl => by rw [hs a l ha hl, if_neg hne]) fun _ _ => rfl
  constructor
  · intro h a ha
    have h0 : dotV w (qel M r) v = 0 := by have := h r hr; rw [e1] at this; grind
    by_cases e : a = r
    · rw [e]; exact h0
    · have := h a ha
      rw [e2 a ha e, h0] at this; grind
  · intro h a ha
    by_cases e : a = r
    · subst e; rw [e1, h a ha]; grind
    · rw [e2 a ha e, h a ha, h r hr]; grind
theorem pivQ_none {M : List (List Rat)} {j r : Nat} (h : pivQ M j r = none) : ∀ i, r ≤ i → i < M.length → qel M i j = 0 := by
  unfold pivQ at h
  rw [List.find?_eq_none] at h
  intro i hr hi
  have := h i (List.mem_range.2 hi)
  simp [hr] at this
  exact this
theorem pivQ_here {M : List (List Rat)} {j r : Nat} (hr : r < M.length) (h : qel M r j ≠ 0) : pivQ M j r = some r := by
  unfold pivQ
  rw [List.find?_range_eq_some]
  refine ⟨by simp [h], List.mem_range.2 hr, fun i hi => ?_⟩
  simp; omega
theorem pivQ_no {M : List (List Rat)} {j r : Nat} (h : ∀ i, r ≤ i → i < M.length → qel M i j = 0) : pivQ M j r = none := by
  unfold pivQ
  rw [List.find?_eq_none]
  intro i hi
  by_cases hr : r ≤ i
  · simp [h i hr (List.mem_range.1 hi)]
  · simp [hr]
/-- The reduced form, as far as column j. -/
structure RRef (n w j : Nat) (M : List (List Rat)) (ps : List Nat) : Prop where
  good : matGood n w M
  len : ps.length ≤ n
  srt : ps.Pairwise (· < ·)
  lt : ∀ p ∈ ps, p < j
  one : ∀ k, k < ps.length → ∀ i, i < n → qel M i (ps.getD k 0) = if i = k then 1 else 0
  zer : ∀ i, i < n → ∀ c, c < j → (i < ps.length → c < ps.getD i 0) → qel M i c = 0
theorem getD_mem {ps : List Nat} {k : Nat} (h : k < ps.length) : ps.getD k 0 ∈ ps := by rw [List.getD_eq_getElem?_getD, List.getElem?_eq_getElem h]; exact List.getElem_mem h
theorem getD_snoc (ps : List Nat) (j k : Nat) : (ps ++ [j]).getD k 0 = if k < ps.length then ps.getD k 0 else if k = ps.length then j else 0 := by
  rw [List.getD_eq_getElem?_getD]
  by_cases h : k < ps.length
  · rw [if_pos h, List.getElem?_append_left h, ← List.getD_eq_getElem?_getD]
  · rw [if_neg h, List.getElem?_append_right (by omega)]
    by_cases e : k = ps.length
    · rw [if_pos e, e, Nat.sub_self]; rfl
    · rw [if_neg e, List.getElem?_eq_none (by simp; omega)]; rfl
theorem RRef.start {n w : Nat} {M : List (List Rat)} (h : matGood n w M) : RRef n w 0 M [] :=
  ⟨h, Nat.zero_le _, List.Pairwise.nil, fun p hp => (by cases hp), fun k hk => (by cases hk), fun i _ c hc => by omega⟩
theorem RRef.step {n w j : Nat} {M : List (List Rat)} {ps : List Nat} (h : RRef n w j M ps) (hj : j < w) {z : List (List Rat) × List Nat} (he : colStep j (M, ps) = some z) : RRef n w (j + 1) z.1 z.2 ∧ ∀ v, NullV n w z.1 v ↔ NullV n w M v := by
  have hl := h.good.2.2
  unfold colStep at he
  simp only at he
  cases hp : pivQ M j ps.length with
  | none =>
    rw [hp] at he
    simp only [Option.some.injEq] at he
    subst he
    have h0 := pivQ_none hp
    show RRef n w (j + 1) M ps ∧ _
    refine ⟨⟨h.good, h.len, h.srt, fun p hp => by have := h.lt p hp; omega, h.one, fun i hi c hc hcl => ?_⟩, fun _ => Iff.rfl⟩
    by_cases e : c = j
    · subst e
      by_cases hil : i < ps.length
      · have := hcl hil
        have := h.lt _ (getD_mem hil)
        omega
      · exact h0 i (by omega) (by omega)
    · exact h.zer i hi c (by omega) hcl
  | some i0 =>
    rw [hp] at he
    obtain ⟨p1, p2, p3⟩ := pivQ_some hp
    rw [hl] at p1
    have hr : ps.length < n := by omega
    simp only at he
    cases hc : clearQ (swapL M i0 ps.length) j ps.length with
    | none => rw [hc] at he; cases he
    | some Y =>
      rw [hc] at he
      cases he
      have hG := h.good.swap p1 hr
      have hsw : ∀ a b, qel (swapL M i0 ps.length) a b = if a = ps.length then qel M i0 b else if a = i0 then qel M ps.length b else qel M a b := fun a b => qel_swap (by omega) (by omega) a b
      have hd : qel (swapL M i0 ps.length) ps.length j ≠ 0 := by rw [hsw, if_pos rfl]; exact p3
      obtain ⟨hY, hs⟩ := clear_spec hG hr hd hj hc
      refine ⟨⟨hY, by simp; omega, ?_, fun p hp => ?_, fun k hk i hi => ?_, fun i hi c hc hcl => ?_⟩, fun v => ?_⟩
      · rw [List.pairwise_append]
        exact ⟨h.srt, by simp, fun a ha b hb => by simp at hb; subst hb; exact h.lt a ha⟩
      · simp at hp
        rcases hp with hp | rfl
        · have := h.lt p hp; omega
        · omega
      · rw [getD_snoc]
        by_cases hkl : k < ps.length
        · rw [if_pos hkl]
          have hpj := h.lt _ (getD_mem hkl)
          have o := h.one k hkl
          have z1 : qel (swapL M i0 ps.length) ps.length (ps.getD k 0) = 0 := by rw [hsw, if_pos rfl, o i0 p1, if_neg (by omega)]
          rw [hs i _ hi (by omega), z1]
          by_cases e1 : i = ps.length
          · rw [if_pos e1, if_neg (by omega)]; grind
          · rw [if_neg e1, hsw, if_neg e1]
            by_cases e2 : i = i0
            · rw [if_pos e2, o _ hr, if_neg (by omega), if_neg (by omega)]; grind
            · rw [if_neg e2, o i hi]; grind
        · have hk2 : k = ps.length := by simp at hk; omega
          rw [if_neg hkl, if_pos hk2, hs i j hi hj]
          by_cases e1 : i = ps.length
          · rw [if_pos e1, if_pos (by omega)]; grind
          · rw [if_neg e1, if_neg (by omega)]; grind
      · have hcj : c < j ∨ c = j := by omega
        have zr : c < j → qel (swapL M i0 ps.length) ps.length c = 0 := fun hc => by
          rw [hsw, if_pos rfl]; exact h.zer i0 p1 c hc (fun h => by omega)
        rw [hs i c hi (by omega)]
        by_cases e1 : i = ps.length
        · have : c < j := by
            have := hcl (by simp; omega)
            rw [getD_snoc, if_neg (by omega), if_pos e1] at this
            exact this
          rw [if_pos e1, zr this]; grind
        · rw [if_neg e1]
          rcases hcj with hcj | hcj
          · rw [zr hcj, hsw, if_neg e1]
            have hz : i ≠ i0 → qel M i c = 0 := fun hne => h.zer i hi c hcj fun hil => by
              have := hcl (by simp; omega)
              rwa [getD_snoc, if_pos hil] at this
            by_cases e2 : i = i0
            · rw [if_pos e2, h.zer _ hr c hcj (fun h => by omega)]; grind
            · rw [if_neg e2, hz e2]; grind
          · subst hcj
            have : ¬ i < ps.length := fun hil => by
              have h1 := hcl (by simp; omega)
              rw [getD_snoc, if_pos hil] at h1
              have := h.lt _ (getD_mem hil)
              omega
            grind
      · rw [null_clear hr hd hs v, null_swap hl p1 hr v]
theorem cols_rref {n w : Nat} {M0 : List (List Rat)} (h : matGood n w M0) : ∀ {j : Nat} {z : List (List Rat) × List Nat}, j ≤ w → iterO colStep j (M0, []) = some z → RRef n w j z.1 z.2 ∧ ∀ v, NullV n w z.1 v ↔ NullV n w M0 v
  | 0, z, _, he => by cases he; exact ⟨.start h, fun _ => Iff.rfl⟩
  | j + 1, z, hj, he => by
    rw [iterO_succ] at he
    cases hm : iterO colStep j (M0, []) with
    | none => rw [hm] at he; cases he
    | some u =>
      rw [hm] at he
      obtain ⟨h1, h2⟩ := cols_rref h (by omega) hm
      obtain ⟨h3, h4⟩ := h1.step (by omega) (show colStep j (u.1, u.2) = some z from he)
      exact ⟨h3, fun v => (h4 v).trans (h2 v)⟩
/-- The reduced form is reduced. -/
theorem divQ_one {q : Rat} (h : Good q) : divQ q 1 = some q := by
  unfold divQ
  have n1 : (1 : Rat).num = 1 := rfl
  have d1 : (1 : Rat).den = 1 := rfl
  rw [n1, d1, if_pos]
  · congr 1; grind
  · unfold fits
    have h1 := h.1
    have h2 := h.2
    generalize B128 = b at *
    simp only [Bool.and_eq_true, decide_eq_true_eq]
    constructor <;> omega
theorem div_row {row : List Rat} (h : rowGood row) : ∀ n, n ≤ row.length → iterO (divStep 1) n row = some row
  | 0, _ => rfl
  | n + 1, hn => by
    rw [iterO_succ, div_row h n (by omega)]
    show rowStep (fun q _ => divQ q 1) n row = some row
    show Option.map (row.set n) (divQ (qat row n) 1) = some row
    rw [divQ_one (h _ (by unfold qat; rw [List.getD_eq_getElem?_getD, List.getElem?_eq_getElem (by omega)]; exact List.getElem_mem _))]
    show some (row.set n (qat row n)) = some row
    congr 1
    unfold qat
    rw [List.getD_eq_getElem?_getD, List.getElem?_eq_getElem (by omega)]
    exact List.set_getElem_self _
theorem elim_none {r j : Nat} {M : List (List Rat)} (h : ∀ i, i ≠ r → qel M i j = 0) : ∀ n, iterO (elimStep r j) n M = some M
  | 0 => rfl
  | n + 1 => by
    rw [iterO_succ, elim_none h n]
    show elimStep r j n M = some M
    unfold elimStep
    by_cases e : n = r
    · rw [if_pos (.inl e)]
    · rw [if_pos (.inr (h n e))]
theorem cnt_range {ps : List Nat} (h : ps.Pairwise (· < ·)) (j : Nat) : ps.filter (· < j) = ps.take (ps.filter (· < j)).length := by
  induction ps with
  | nil => rfl
  | cons p l ih =>
    rw [List.pairwise_cons] at h
    by_cases e : p < j
    · rw [List.filter_cons_of_pos (by simp [e]), List.length_cons, List.take_succ_cons, ← ih h.2]
    · have : l.filter (· < j) = [] := by
        rw [List.filter_eq_nil_iff]
        intro a ha
        have := h.1 a ha
        simp; omega
      rw [List.filter_cons_of_neg (by simp [e]), this]; rfl
theorem RRef.again {n w : Nat} {Y : List (List Rat)} {ps : List Nat} (h : RRef n w w Y ps) : ∀ j, j ≤ w → iterO colStep j (Y, []) = some (Y, ps.filter (· < j))
  | 0, _ => by
    show some (Y, []) = _
    rw [show ps.filter (· < 0) = [] by rw [List.filter_eq_nil_iff]; intro a _; simp]
  | j + 1, hj => by
    rw [iterO_succ, h.again j (by omega)]
    show colStep j (Y, ps.filter (· < j)) = some (Y, ps.filter (· < j + 1))
    have hc := cnt_range h.srt j
    have hl := h.good.2.2
    generalize hr : (ps.filter (· < j)).length = r at *
    have hrl : r ≤ ps.length := by rw [← hr]; exact List.length_filter_le _ _
    have hlt : ∀ k, k < r → ps.getD k 0 < j := fun k hk => by
      have : ps.getD k 0 ∈ ps.filter (· < j) := by
        rw [hc, List.getD_eq_getElem?_getD, ← List.getElem?_take_of_lt hk, ← List.getD_eq_getElem?_getD]
        exact getD_mem (by rw [List.length_take]; omega)
      simpa using (List.mem_filter.1 this).2
    have hge : ∀ k, r ≤ k → k < ps.length → j ≤ ps.getD k 0 := fun k hk hk2 => by
      rcases Nat.lt_or_ge (ps.getD k 0) j with hh | hh
      · exfalso
        have hm : ps.getD k 0 ∈ ps.filter (· < j) := List.mem_filter.2 ⟨getD_mem hk2, by simpa using hh⟩
        rw [hc] at hm
        obtain ⟨i, hi, e⟩ := List.mem_iff_getElem.1 hm
        rw [List.length_take] at hi
        rw [List.getElem_take] at e
        have e2 : ps.getD i 0 = ps.getD k 0 := by rw [List.getD_eq_getElem?_getD, List.getElem?_eq_getElem (by omega)]; exact e
        have := getD_lt h.srt (i := i) (j := k) (by omega) hk2
        omega
      · exact hh
    unfold colStep
    simp only [hr]
    by_cases hjr : r < ps.length ∧ ps.getD r 0 = j
    · obtain ⟨h1, h2⟩ := hjr
      have ho := h.one r h1
      rw [h2] at ho
      have hrn : r < n := Nat.lt_of_lt_of_le h1 h.len
      rw [pivQ_here (by omega) (by rw [ho r hrn, if_pos rfl]; decide)]
      simp only
      have hsw : swapL Y r r = Y := by
        unfold swapL
        rw [mrow_eq (by omega), List.set_getElem_self, List.set_getElem_self]
      rw [hsw]
      have hcl : clearQ Y j r = some Y := by
        unfold clearQ
        rw [ho r hrn, if_pos rfl, div_row (h.good.row hrn).1 _ (Nat.le_refl _)]
        show iterO (elimStep r j) Y.length (Y.set r (mrow Y r)) = some Y
        rw [mrow_eq (by omega), List.set_getElem_self]
        refine elim_none (fun i hi => ?_) _
        by_cases hin : i < n
        · rw [ho i hin, if_neg hi]
        · unfold qel qat mrow
          rw [List.getD_eq_getElem?_getD (l := Y), List.getElem?_eq_none (by omega)]; rfl
      rw [hcl]
      show some (Y, ps.filter (· < j) ++ [j]) = _
      congr 2
      have h3 := cnt_range h.srt (j + 1)
      have h4 : (ps.filter (· < j + 1)).length = r + 1 := by
        have : ps.filter (· < j + 1) = ps.take (r + 1) := by
          conv => lhs; rw [← List.take_append_drop (r + 1) ps]
          rw [List.filter_append]
          have e1 : (ps.take (r + 1)).filter (· < j + 1) = ps.take (r + 1) := by
            rw [List.filter_eq_self]
            intro a ha
            obtain ⟨i, hi, e⟩ := List.mem_iff_getElem.1 ha
            rw [List.length_take] at hi
            rw [List.getElem_take] at e
            have e2 : ps.getD i 0 = a := by rw [List.getD_eq_getElem?_getD, List.getElem?_eq_getElem (by omega)]; exact e
            by_cases hir : i < r
            · have := hlt i hir; simp; omega
            · have : i = r := by omega
              subst this; simp; omega
          have e2 : (ps.drop (r + 1)).filter (· < j + 1) = [] := by
            rw [List.filter_eq_nil_iff]
            intro a ha
            obtain ⟨i, hi, e⟩ := List.mem_iff_getElem.1 ha
            rw [List.length_drop] at hi
            rw [List.getElem_drop] at e
            have e2 : ps.getD (r + 1 + i) 0 = a := by rw [List.getD_eq_getElem?_getD, List.getElem?_eq_getElem (by omega)]; exact e
            have := getD_lt h.srt (i := r) (j := r + 1 + i) (by omega) (by omega)
            simp; omega
          rw [e1, e2, List.append_nil]
        rw [this, List.length_take]; omega
      rw [h3, h4, hc, List.take_add_one, List.getElem?_eq_getElem h1]
      rw [List.getD_eq_getElem?_getD, List.getElem?_eq_getElem h1] at h2
      rw [show ps[r] = j from h2]; rfl
    · have hno : j ∉ ps := fun hm => by
        obtain ⟨k, hk, e⟩ := List.mem_iff_getElem.1 hm
        have e2 : ps.getD k 0 = j := by rw [List.getD_eq_getElem?_getD, List.getElem?_eq_getElem hk]; exact e
        by_cases hkr : k < r
        · have := hlt k hkr; omega
        · rcases Nat.lt_or_eq_of_le (show r ≤ k by omega) with h1 | h1
          · have := getD_lt h.srt h1 hk
            have := hge r (Nat.le_refl _) (by omega)
            omega
          · subst h1; exact hjr ⟨hk, e2⟩
      rw [pivQ_no (fun i hi hin => h.zer i (by omega) j (by omega) fun hil => by
        have := hge i hi hil
        rcases Nat.lt_or_eq_of_le this with h1 | h1
        · exact h1
        · exact absurd (h1 ▸ getD_mem hil) hno)]
      show some (Y, ps.filter (· < j)) = _
      congr 2
      apply List.filter_congr
      intro a ha
      have : a ≠ j := fun e => hno (e ▸ ha)
      simp; omega
end Go.Av
end
section
namespace Go.Av
open Go.Proofs
/-- A vector of zeros: nothing, or a block. -/
def ZerV (n : Nat) (v : AV) (M : Mem) : Prop := (n = 0 ∧ v = .nil ∧ M = Mem.emp) ∨ ∃ b, v = .osl b 4 0 n ∧ M = Mem.emp.set b ⟨36, 4, rrs (List.replicate n (ofQ 0))⟩
/-- A list that grows, alone in memory. -/
structure LstO (M : Mem) (ty : TypeId) (z : Nat) (ov : AV) (ob : List Nat) (l : List AV) : Prop where
  lst : LstV M ty z ov ob l
  only : OnlyM M ob
section
variable {M : Mem} {ov : AV} {ty : TypeId} {z : Nat} {ob : List Nat} {l : List AV}
theorem LstO.start (ty : TypeId) (z : Nat) : LstO Mem.emp ty z .nil [] [] := ⟨.inl ⟨rfl, rfl, rfl⟩, fun _ h => absurd rfl h⟩
theorem LstO.ones (h : LstO M ty z ov ob l) (hl : ∀ v ∈ l, v.cells.all AV.one = true) : OnesM M := by
  intro b y hy
  have hb := h.only b (by rw [hy]; simp)
  rcases h.lst with ⟨_, h1, _⟩ | ⟨b', h1, _, h3⟩
  · rw [h1] at hb; cases hb
  · rw [h1] at hb
    simp at hb
    subst hb
    rw [h3] at hy; cases hy
    exact hl
theorem LstO.push0 (h : LstO M ty z .nil [] []) (b : Nat) (v : AV) : LstO (M.set b ⟨ty, z, [v]⟩) ty z (.osl b z 0 1) [b] [v] :=
  ⟨.inr ⟨b, rfl, rfl, by simp⟩, (h.only.sub fun a ha => by cases ha).set (by simp) _⟩
theorem LstO.push1 {b0 : Nat} (h : LstO M ty z (.osl b0 z 0 l.length) [b0] l) (b : Nat) (v : AV) : LstO ((M.del b0).set b ⟨ty, z, l ++ [v]⟩) ty z (.osl b z 0 (l.length + 1)) [b] (l ++ [v]) := by
  refine ⟨.inr ⟨b, rfl, by simp, by simp⟩, OnlyM.set (l := [b]) (fun a ha => ?_) (by simp) _⟩
  by_cases h1 : a = b0
  · subst h1; exact absurd (if_pos rfl) ha
  · have e : (M.del b0) a = M a := if_neg h1
    rw [e] at ha
    have := h.only a ha
    simp at this
    exact absurd this h1
end
structure KerS7 where
  M : Mem
  ov : AV
  ob : List Nat
def InvK7 (Y : List (List Rat)) (ps : List Nat) (w j : Nat) (s : KerS7) : Prop := LstO s.M 42 1 s.ov s.ob ((emb (kerP Y ps w j)).map rowAV)
end Go.Av
end
section
namespace Go.Av
open Go.Proofs
def entStep (r : List Rat) (b : List (List Rat)) (j k : Nat) (s : Rat) : Option Rat := (mulQ (qat r k) (qel b k j)).bind (addQ s)
def entQ (r : List Rat) (b : List (List Rat)) (j : Nat) : Option Rat := iterO (entStep r b j) b.length 0
def tmCol (r : List Rat) (b : List (List Rat)) (j : Nat) (acc : List Rat) : Option (List Rat) := (entQ r b j).map fun x => acc ++ [x]
def tmStep (a b : List (List Rat)) (w i : Nat) (acc : List (List Rat)) : Option (List (List Rat)) := (iterO (tmCol (mrow a i) b) w []).map fun r => acc ++ [r]
def timesQ (a b : List (List Rat)) : Option (List (List Rat)) := iterO (tmStep a b (mrow b 0).length) a.length []
noncomputable def timR (a b : List (List RR)) : Int × List (List Rat) :=
  if chk a ≠ 0 then (chk a, []) else if chk b ≠ 0 then (chk b, []) else if (mrow a 0).length ≠ b.length then (1, []) else
  match timesQ (unq a) (unq b) with
  | none => (2, [])
  | some Y => (0, Y)
theorem ent_good {r : List Rat} {b : List (List Rat)} {j : Nat} : ∀ {k : Nat} {q : Rat}, iterO (entStep r b j) k 0 = some q → Good q
  | 0, q, h => by cases h; exact good_zero
  | k + 1, q, h => by
    rw [iterO_succ] at h
    cases hs : iterO (entStep r b j) k 0 with
    | none => rw [hs] at h; cases h
    | some s =>
      rw [hs] at h
      replace h : (mulQ (qat r k) (qel b k j)).bind (addQ s) = some q := h
      cases hm : mulQ (qat r k) (qel b k j) with
      | none => rw [hm] at h; cases h
      | some m => rw [hm] at h; exact good_add h
theorem tmCol_keep {r : List Rat} {b : List (List Rat)} : ∀ {j : Nat} {acc : List Rat}, iterO (tmCol r b) j [] = some acc → acc.length = j ∧ rowGood acc
  | 0, acc, h => by cases h; exact ⟨rfl, fun q hq => (by cases hq)⟩
  | j + 1, acc, h => by
    rw [iterO_succ] at h
    cases hs : iterO (tmCol r b) j [] with
    | none => rw [hs] at h; cases h
    | some a0 =>
      rw [hs] at h
      obtain ⟨h1, h2⟩ := tmCol_keep hs
      replace h : (entQ r b j).map (fun x => a0 ++ [x]) = some acc := h
      cases he : entQ r b j with
      | none => rw [he] at h; cases h
      | some x =>
        rw [he] at h
        cases h
        refine ⟨by simp [h1], fun q hq => ?_⟩
        rcases List.mem_append.1 hq with hq | hq
        · exact h2 q hq
        · simp at hq; subst hq; exact ent_good he
theorem tm_keep {a b : List (List Rat)} {w : Nat} : ∀ {i : Nat} {Y : List (List Rat)}, iterO (tmStep a b w) i [] = some Y → matGood i w Y
  | 0, Y, h => by cases h; exact ⟨fun r hr => (by cases hr), fun i hi => (by cases hi), rfl⟩
  | i + 1, Y, h => by
    rw [iterO_succ] at h
    cases hs : iterO (tmStep a b w) i [] with
    | none => rw [hs] at h; cases h
    | some Y0 =>
      rw [hs] at h
      obtain ⟨h1, h2, h3⟩ := tm_keep hs
      replace h : (iterO (tmCol (mrow a i) b) w []).map (fun r => Y0 ++ [r]) = some Y := h
      cases he : iterO (tmCol (mrow a i) b) w [] with
      | none => rw [he] at h; cases h
      | some r =>
        rw [he] at h
        cases h
        obtain ⟨k1, k2⟩ := tmCol_keep he
        refine ⟨fun x hx => ?_, fun i hi => ?_, by simp [h3]⟩
        · rcases List.mem_append.1 hx with hx | hx
          · exact h1 x hx
          · simp at hx; subst hx; exact k2
        · rw [mrow_snoc Y0 r i (by simpa using hi)]
          split
          · exact h2 i (by assumption)
          · exact k1
theorem rr_app {acc : List Rat} {j n : Nat} (h : acc.length = j) (hn : j < n) : rr ((acc ++ List.replicate (n - j) 0).map ofQ) j = ofQ 0 := by
  rw [rr_map (by simp; omega)]
  congr 1
  unfold qat
  rw [List.getD_eq_getElem?_getD, List.getElem?_append_right (by omega), h, Nat.sub_self, List.getElem?_replicate, if_pos (by omega)]
  rfl
theorem app_set {acc : List Rat} {j n : Nat} (h : acc.length = j) (hn : j < n) (q : Rat) : (acc ++ List.replicate (n - j) 0).set j q = acc ++ [q] ++ List.replicate (n - (j + 1)) 0 := by
  rw [List.set_append_right _ _ (by omega), h, Nat.sub_self, show n - j = (n - (j + 1)) + 1 by omega, List.replicate_succ, List.set_cons_zero, List.append_assoc]
  rfl
theorem set_rr {v : List RR} {j : Nat} (h : j < v.length) : v.set j (rr v j) = v := by rw [rr_eq h, List.set_getElem_self]
/-- The memory while a row is computed. -/
def TM (M : Mem) (c B bv : Nat) (x : AV) (v : List RR) (H : List AV) : Mem := ((M.set c ⟨61, 1, [x]⟩).set bv ⟨36, 4, rrs v⟩).set B ⟨42, 1, H⟩
section
variable {M : Mem} {c B bv : Nat} {x x' : AV} {v v' : List RR} {H : List AV}
theorem TM_c (h1 : c ≠ B) (h2 : c ≠ bv) : (TM M c B bv x v H).set c ⟨61, 1, [x']⟩ = TM M c B bv x' v H := by
  unfold TM; funext k; simp only [set_at]
  by_cases e : k = c
  · subst e; simp [h1, h2]
  · simp [e]
theorem TM_v (h1 : bv ≠ B) : (TM M c B bv x v H).set bv ⟨36, 4, rrs v'⟩ = TM M c B bv x v' H := by
  unfold TM; funext k; simp only [set_at]
  by_cases e : k = bv
  · subst e; simp [h1]
  · simp [e]
theorem TM_cell (h1 : c ≠ B) (h2 : c ≠ bv) (h3 : bv ≠ B) : TM M c B bv x v H = ((M.set bv ⟨36, 4, rrs v⟩).set B ⟨42, 1, H⟩).set c ⟨61, 1, [x]⟩ := by
  unfold TM; funext k; simp only [set_at]
  by_cases e : k = c
  · subst e; simp [h1, h2]
  · simp [e]
theorem TM_at (h1 : c ≠ B) (h2 : c ≠ bv) (h3 : bv ≠ B) : TM M c B bv x v H c = some ⟨61, 1, [x]⟩ ∧ TM M c B bv x v H bv = some ⟨36, 4, rrs v⟩ ∧ TM M c B bv x v H B = some ⟨42, 1, H⟩ := by
  unfold TM; simp [h1, h2, h3]
end
structure TimS where
  M : Mem
  bs : List Nat
  Y : List (List Rat)
  x : AV
def InvT (c B : Nat) (a b : List (List Rat)) (w n i : Nat) (s : TimS) : Prop :=
  iterO (tmStep a b w) i [] = some s.Y ∧ MatP s.M B s.bs (emb s.Y) (n - i) ∧ s.M c = none ∧ isE s.x 0
set_option maxHeartbeats 1000000
theorem timesL_call (a b : List (List RR)) (ha : LbM a) (hb : LbM b) : ACall Tryz.prog 36 [matAV a, matAV b] Mem.emp fun v mm => v = .tup [matAV (emb (timR a b).2), .int .i64 (timR a b).1] ∧ mm = Mem.emp := by
  have hca := check_call a ha
  have hcb := check_call b hb
  have hwa := width_call a
  have hwb := width_call b
  by_cases h0 : chk a = 0
  · rw [h0] at hca
    by_cases h1 : chk b = 0
    · rw [h1] at hcb
      by_cases h2 : (mrow a 0).length = b.length
      · have hT : timR a b = match timesQ (unq a) (unq b) with
          | none => (2, [])
          | some Y => (0, Y) := by unfold timR; rw [if_neg (by simp [h0]), if_neg (by simp [h1]), if_neg (by simp [h2])] <;> rfl
        rw [hT]
        clear hT
        obtain ⟨a1, a2, a3, a4, a5⟩ := chk_emb ha h0
        obtain ⟨b1, b2, b3, b4, b5⟩ := chk_emb hb h1
        have hla := unq_length a
        have hlb := unq_length b
        have ea : (mrow (unq a) 0).length = (mrow a 0).length := by rw [unq_row, List.length_map]
        have eb : (mrow (unq b) 0).length = (mrow b 0).length := by rw [unq_row, List.length_map]
        have hq : timesQ (unq a) (unq b) = iterO (tmStep (unq a) (unq b) (mrow b 0).length) a.length [] := by unfold timesQ; rw [eb, hla]
        rw [ea] at a3 a5
        rw [eb] at b3 b5
        rw [h2] at hwa a3
        rw [hq]
        generalize (mrow b 0).length = w at *
        generalize unq a = A at *
        generalize unq b = N at *
        subst a1 b1
        rw [emb_length] at *
        generalize hn : A.length = n at *
        generalize hm : N.length = m at *
        have hz := vector_call w (by omega)
        refine acall_S Tryz.func36 rfl rfl 101 rfl (Nat.le_of_ble_eq_true rfl) ?_
        (repeat refine AW.seq_k fun K hK => ?_)
        refine AW.rg ?_
        simp [argsL]
        try (refine hK _ rfl ?_; clear hK; clear K)
        (repeat refine AW.seq_k fun K hK => ?_)
        refine AW.rg ?_
        simp
        try (refine hK _ rfl ?_; clear hK; clear K)
        refine CallK.val hca ?_
        simp
        refine hK _ rfl ?_
        clear hK
        clear K
        (repeat refine AW.seq_k fun K hK => ?_)
        refine AW.rg ?_
        simp
        try (refine hK _ rfl ?_; clear hK; clear K)
        refine AW.no ?_ rfl
        refine AW.skip ?_
        try simp
        refine hK _ rfl ?_
        clear hK
        clear K
        (repeat refine AW.seq_k fun K hK => ?_)
        refine AW.rg ?_
        simp
        try (refine hK _ rfl ?_; clear hK; clear K)
        refine CallK.val hcb ?_
        simp
        refine hK _ rfl ?_
        clear hK
        clear K
        (repeat refine AW.seq_k fun K hK => ?_)
        refine AW.rg ?_
        simp
        try (refine hK _ rfl ?_; clear hK; clear K)
        refine AW.no ?_ rfl
        refine AW.skip ?_
        try simp
        refine hK _ rfl ?_
        clear hK
        clear K
        (repeat refine AW.seq_k fun K hK => ?_)
        refine AW.rg ?_
        simp
        try (refine hK _ rfl ?_; clear hK; clear K)
        refine CallK.val hwa ?_
        simp [emb_length, hm]
        refine hK _ rfl ?_
        clear hK
        clear K
        refine AW.no ?_ rfl
        refine AW.skip ?_
        try simp
        refine hK _ rfl ?_
        clear hK
        clear K
        (repeat refine AW.seq_k fun K hK => ?_)
        refine AW.rg ?_
        simp
        try (refine hK _ rfl ?_; clear hK; clear K)
        refine Fresh.intro fun c _ => ?_
        refine hK _ rfl ?_
        clear hK
        clear K
        (repeat refine AW.seq_k fun K hK => ?_)
        refine AW.rg ?_
        simp [emb_length, hn]
        try (refine hK _ rfl ?_; clear hK; clear K)
        refine ⟨by omega, Fresh.intro fun B hB => ?_⟩
        refine hK _ rfl ?_
        clear hK
        clear K
        have hcB : c ≠ B := by rintro rfl; simp at hB
        refine AW.seq_ex (ι := TimS) (fun s => [(9, .osl B 1 0 n)]) (fun s => s.M.set c ⟨61, 1, [s.x]⟩) (fun s => InvT c B A N w n n s) ?_ ?_
        · (repeat refine AW.seq_k fun K hK => ?_)
          refine AW.rg ?_
          simp [emb_length, hn]
          try (refine hK _ rfl ?_; clear hK; clear K)
          refine AW.block (AW.loopS (ι := Nat × TimS) (fun z => [(0, matAV (emb A)), (1, matAV (emb N)), (8, .ptr c 1 0 0), (9, .osl B 1 0 n), (34, .int .i64 (n : Nat)), (35, .int .i64 (z.1 : Nat))]) (fun z => z.2.M.set c ⟨61, 1, [z.2.x]⟩) (fun z => z.1 ≤ n ∧ InvT c B A N w n z.1 z.2) (fun z => n - z.1) (0, ⟨Mem.emp.set B ⟨42, 1, List.replicate n .nil⟩, [], [], .agg [.int .i64 0]⟩) ⟨by simp, rfl, ⟨by simp [hdrs, emb], rfl, fun i hi => (by simp [emb] at hi), by simp, by simp, fun b hb => by
            simp only [set_at, emp_at] at hb
            by_cases h : b = B
            · simp [h]
            · simp [h] at hb⟩, by simp [hcB], rfl⟩ ?_ (by simp) ?_)
          · simp only
            funext k
            simp only [set_at]
            by_cases e : k = c
            · subst e; simp [hcB]
            · simp [e]
          rintro ⟨i, M, bs, Y, x⟩ ⟨g1, g2, g3, g4, g5⟩
          simp only at g1 g2 g3 g4 g5
          simp only
          (repeat refine AW.seq_k fun K hK => ?_)
          refine AW.rg ?_
          simp
          try (refine hK _ rfl ?_; clear hK; clear K)
          (repeat refine AW.seq ?_)
          refine AW.cs (fun hi => ?_) (fun hi => ?_) rfl <;> (try simp at hi)
          · refine AW.skip ?_
            try simp
            have w1 : IntKind.i64.wrap ((i + 1 : Nat) : Int) = ((i + 1 : Nat) : Int) := wi (by omega)
            have hst : iterO (tmStep A N w) (i + 1) [] = (iterO (tmCol (mrow A i) N) w []).map fun r => Y ++ [r] := by rw [iterO_succ, g2]; rfl
            obtain ⟨_, _, hYl⟩ := tm_keep g2
            refine AW.seq_ex (ι := TimS) (fun s => [(0, matAV (emb A)), (1, matAV (emb N)), (8, .ptr c 1 0 0), (9, .osl B 1 0 n), (34, .int .i64 (n : Nat)), (35, .int .i64 (i : Nat))]) (fun s => s.M.set c ⟨61, 1, [s.x]⟩) (fun s => InvT c B A N w n (i + 1) s) ?_ ?_
            · (repeat refine AW.seq ?_)
              refine AW.block ?_
              (repeat refine AW.seq_k fun K hK => ?_)
              refine AW.rg ?_
              simp
              try (refine hK _ rfl ?_; clear hK; clear K)
              (repeat refine AW.seq_k fun K hK => ?_)
              refine AW.rg ?_
              simp
              try (refine hK _ rfl ?_; clear hK; clear K)
              refine CallK.val hwb ?_
              simp
              refine CallK.make hz ?_
              rintro bv _ _ ⟨rfl, rfl⟩ hbv _
              simp only [set_none2, emp_at, and_true] at hbv
              obtain ⟨⟨v1, v2⟩, v3⟩ := hbv
              have hbB : bv ≠ B := by rintro rfl; rw [g3.top] at v3; cases v3
              have hhl : (hdrs bs (emb Y)).length = i := by rw [hdrs_length g3.len, emb_length, hYl]
              have htop := g3.top
              have hni : n - i = n - (i + 1) + 1 := by omega
              have hH0 : (hdrs bs (emb Y) ++ List.replicate (n - i) AV.nil)[i]? = some .nil := by
                rw [List.getElem?_append_right (by omega), hhl, Nat.sub_self, List.getElem?_replicate, if_pos (by omega)]
              have hH : ((hdrs bs (emb Y) ++ List.replicate (n - i) AV.nil).set i (.osl bv 4 0 w))[i]? = some (.osl bv 4 0 w) := by
                rw [List.getElem?_set_self (by simp [hhl]; omega)]
              have hstep : ∀ r : List RR, r.length = w → MatP ((M.set bv ⟨36, 4, rrs r⟩).set B ⟨42, 1, (hdrs bs (emb Y) ++ List.replicate (n - i) AV.nil).set i (.osl bv 4 0 w)⟩) B (bs ++ [bv]) (emb Y ++ [r]) (n - (i + 1)) := by
                intro r hr
                rw [hni] at g3 ⊢
                have := g3.step v3 r
                rw [emb_length, hYl, hr] at this
                exact this
              generalize hdrs bs (emb Y) ++ List.replicate (n - i) AV.nil = H0 at *
              simp [hi, hcB, Ne.symm hcB, hbB, Ne.symm hbB, htop, hH0]
              refine hK _ rfl ?_
              clear hK
              clear K
              generalize H0.set i (.osl bv 4 0 w) = H at *
              change AW _ _ _ (S 101 _ (TM M c B bv x (List.replicate w (ofQ 0)) H))
              have v2' : c ≠ bv := v2
              have hai : i < A.length := by omega
              have hra : (mrow A i).length = m := by rw [a3 i hai]
              have hraE : (mrow (emb A) i).length = m := by rw [emb_row, List.length_map, hra]
              refine AW.seq_ex (ι := AV × Int × List RR) (fun _ => [(0, matAV (emb A)), (1, matAV (emb N)), (8, .ptr c 1 0 0), (9, .osl B 1 0 n), (10, .int .i64 (i : Nat)), (34, .int .i64 (n : Nat)), (35, .int .i64 (i : Nat))]) (fun z => TM M c B bv z.1 z.2.2 H) (fun z => isE z.1 z.2.1 ∧ (∀ y ∈ z.2.2, y.Lb) ∧ z.2.2.length = w ∧ VMode z.2.1 z.2.2 (iterO (tmCol (mrow A i) N) w [])) ?_ ?_
              · (repeat refine AW.seq_k fun K hK => ?_)
                refine AW.rg ?_
                simp [hi, (TM_at hcB v2' hbB).2.2, hH]
                try (refine hK _ rfl ?_; clear hK; clear K)
                refine AW.block (AW.loopS (ι := Nat × AV × Int × List RR) (fun z => [(0, matAV (emb A)), (1, matAV (emb N)), (8, .ptr c 1 0 0), (9, .osl B 1 0 n), (10, .int .i64 (i : Nat)), (34, .int .i64 (n : Nat)), (35, .int .i64 (i : Nat)), (48, .int .i64 w), (49, .int .i64 (z.1 : Nat))]) (fun z => TM M c B bv z.2.1 z.2.2.2 H) (fun z => z.1 ≤ w ∧ isE z.2.1 z.2.2.1 ∧ (∀ y ∈ z.2.2.2, y.Lb) ∧ z.2.2.2.length = w ∧ VMode z.2.2.1 z.2.2.2 ((iterO (tmCol (mrow A i) N) z.1 []).map fun acc => acc ++ List.replicate (w - z.1) 0)) (fun z => w - z.1) (0, x, 0, List.replicate w (ofQ 0)) ⟨by simp, g5, ?_, by simp, rfl, by simp [iterO], ?_⟩ rfl (by simp) ?_)
                · intro y hy; rw [List.eq_of_mem_replicate hy]; exact ofQ_lb 0
                · intro q hq
                  simp [iterO] at hq
                  rw [hq.2]; exact good_zero
                rintro ⟨j, x, e, v⟩ ⟨q1, q2, q3, q4, q5⟩
                simp only at q1 q2 q3 q4 q5
                simp only
                (repeat refine AW.seq_k fun K hK => ?_)
                refine AW.rg ?_
                simp
                try (refine hK _ rfl ?_; clear hK; clear K)
                (repeat refine AW.seq ?_)
                refine AW.cs (fun hj => ?_) (fun hj => ?_) rfl <;> (try simp at hj)
                · refine AW.skip ?_
                  try simp
                  have w2 : IntKind.i64.wrap ((j + 1 : Nat) : Int) = ((j + 1 : Nat) : Int) := wi (by omega)
                  have hj1 : iterO (tmCol (mrow A i) N) (j + 1) [] = (iterO (tmCol (mrow A i) N) j []).bind (tmCol (mrow A i) N j) := rfl
                  generalize hZ : iterO (tmCol (mrow A i) N) j [] = Z at *
                  have hZl : ∀ acc, Z = some acc → acc.length = j := fun acc h => by rw [h] at hZ; exact (tmCol_keep hZ).1
                  refine AW.seq_ex (ι := AV × Int × RR) (fun _ => [(0, matAV (emb A)), (1, matAV (emb N)), (8, .ptr c 1 0 0), (9, .osl B 1 0 n), (10, .int .i64 (i : Nat)), (34, .int .i64 (n : Nat)), (35, .int .i64 (i : Nat)), (48, .int .i64 w), (49, .int .i64 (j : Nat))]) (fun z => TM M c B bv z.1 (v.set j z.2.2) H) (fun z => isE z.1 z.2.1 ∧ z.2.2.Lb ∧ OneM z.2.1 z.2.2 (Z.bind fun _ => entQ (mrow A i) N j)) ?_ ?_
                  · (repeat refine AW.seq ?_)
                    refine AW.block ?_
                    (repeat refine AW.seq_k fun K hK => ?_)
                    refine AW.rg ?_
                    simp
                    try (refine hK _ rfl ?_; clear hK; clear K)
                    (repeat refine AW.seq_k fun K hK => ?_)
                    refine AW.rg ?_
                    simp [emb_length, hm]
                    try (refine hK _ rfl ?_; clear hK; clear K)
                    refine AW.block (AW.loopS (ι := Nat × AV × Int × RR) (fun z => [(0, matAV (emb A)), (1, matAV (emb N)), (8, .ptr c 1 0 0), (9, .osl B 1 0 n), (10, .int .i64 (i : Nat)), (34, .int .i64 (n : Nat)), (35, .int .i64 (i : Nat)), (11, .int .i64 (j : Nat)), (48, .int .i64 w), (49, .int .i64 (j : Nat)), (53, .int .i64 m), (54, .int .i64 (z.1 : Nat))]) (fun z => TM M c B bv z.2.1 (v.set j z.2.2.2) H) (fun z => z.1 ≤ m ∧ isE z.2.1 z.2.2.1 ∧ z.2.2.2.Lb ∧ OneM z.2.2.1 z.2.2.2 (Z.bind fun _ => iterO (entStep (mrow A i) N j) z.1 0)) (fun z => m - z.1) (0, x, e, rr v j) ⟨by simp, q2, rr_lb q3 j, ?_⟩ ?_ (by simp) ?_)
                    · cases Z with
                      | none => exact q5
                      | some acc =>
                        obtain ⟨m1, m2, m3⟩ : e = 0 ∧ v = List.map ofQ (acc ++ List.replicate (w - j) (0 : Rat)) ∧ rowGood (acc ++ List.replicate (w - j) 0) := q5
                        exact ⟨m1, by rw [m2]; exact rr_app (hZl acc rfl) hj, good_zero⟩
                    · simp only
                      rw [set_rr (by omega)]
                    rintro ⟨k, x, e, s⟩ ⟨k1, k2, k3, k4⟩
                    simp only at k1 k2 k3 k4
                    simp only
                    (repeat refine AW.seq_k fun K hK => ?_)
                    refine AW.rg ?_
                    simp
                    try (refine hK _ rfl ?_; clear hK; clear K)
                    (repeat refine AW.seq ?_)
                    refine AW.cs (fun hk => ?_) (fun hk => ?_) rfl <;> (try simp at hk)
                    · refine AW.skip ?_
                      try simp
                      have w3 : IntKind.i64.wrap ((k + 1 : Nat) : Int) = ((k + 1 : Nat) : Int) := wi (by omega)
                      (repeat refine AW.seq ?_)
                      refine AW.block ?_
                      (repeat refine AW.seq_k fun K hK => ?_)
                      refine AW.rg ?_
                      simp
                      try (refine hK _ rfl ?_; clear hK; clear K)
                      have hkr : k < (mrow A i).length := by omega
                      have hkN : k < N.length := by omega
                      have hkE : k < (emb N).length := by rw [emb_length]; exact hkN
                      have hiE : i < (emb A).length := by rw [emb_length]; exact hai
                      have hlk : (mrow (emb N) k).length = w := by rw [emb_row, List.length_map]; exact b3 k hkN
                      have hjl : j < (mrow N k).length := by rw [b3 k hkN]; exact hj
                      have e1 : rr (mrow (emb A) i) k = ofQ (qat (mrow A i) k) := by rw [emb_row, rr_map hkr]
                      have e2 : rr (mrow (emb N) k) j = ofQ (qel N k j) := by rw [emb_row, rr_map hjl]; rfl
                      have y1 : Good (qat (mrow A i) k) := a2.at hkr
                      have y2 : Good (qel N k j) := b2.at hjl
                      have hvl : (v.set j s).length = w := by rw [List.length_set]; exact q4
                      have e3 : rr (v.set j s) j = s := by
                        unfold rr; rw [List.getD_eq_getElem?_getD, List.getElem?_set_self (by omega)]; rfl
                      obtain ⟨t1, t2, t3⟩ := TM_at (M := M) (x := x) (v := v.set j s) (H := H) hcB v2' hbB
                      (repeat refine AW.seq_k fun K hK => ?_)
                      refine AW.rdT [] [] [] [B, bv] [0, 1, 2, 3, 4, 5, 6, 7, 8, 9, 10, 11, 12, 13, 14, 15, 16, 17, 18, 19, 20, 21, 22, 23, 24, 25, 26, 27, 28, 29, 30, 31] mix (by simp [hi, hj, hk, t1, t2, t3, hH, hiE, hraE, hkE, hlk, e1, e2, hvl, e3]) (by simp [hi, hj, hk, t1, t2, t3, hH, hiE, hraE, hkE, hlk, e1, e2, hvl, e3]) (by simp [hi, hj, hk, t1, t2, t3, hH, hiE, hraE, hkE, hlk, e1, e2, hvl, e3]) (by simp [hi, hj, hk, t1, t2, t3, hH, hiE, hraE, hkE, hlk, e1, e2, hvl, e3]) (by simp [hi, hj, hk, t1, t2, t3, hH, hiE, hraE, hkE, hlk, e1, e2, hvl, e3]) ?_
                      simp [hi, hj, hk, t1, t2, t3, hH, hiE, hraE, hkE, hlk, e1, e2, hvl, e3]
                      try (refine hK _ rfl ?_; clear hK; clear K)
                      refine nmul_K (a := ofQ (qat (mrow A i) k)) (b := ofQ (qel N k j)) (x := x) (e := e) t1 (by simp [hcB, v2']) k2 (ofQ_lb _) (ofQ_lb _) (fun he => ⟨ofQ_ok y1, ofQ_ok y2⟩) ?_
                      intro x1 hx1
                      have hplb : (nOut e (ofQ (qat (mrow A i) k)) (mulQ (ofQ (qat (mrow A i) k)).q (ofQ (qel N k j)).q)).2.Lb := nOut_lb (ofQ_lb _)
                      have hds := dot_step k4 (fun _ => ⟨ofQ_q _, ofQ_q _⟩) (a := ofQ (qat (mrow A i) k)) (b := ofQ (qel N k j)) (e1 := (nOut e (ofQ (qat (mrow A i) k)) (mulQ (ofQ (qat (mrow A i) k)).q (ofQ (qel N k j)).q)).1) (p := (nOut e (ofQ (qat (mrow A i) k)) (mulQ (ofQ (qat (mrow A i) k)).q (ofQ (qel N k j)).q)).2) rfl
                      generalize (nOut e (ofQ (qat (mrow A i) k)) (mulQ (ofQ (qat (mrow A i) k)).q (ofQ (qel N k j)).q)) = ep at *
                      obtain ⟨e1', p⟩ := ep
                      simp only at hx1 hplb hds
                      rw [TM_c hcB v2']
                      obtain ⟨t4, t5, t6⟩ := TM_at (M := M) (x := x1) (v := v.set j s) (H := H) hcB v2' hbB
                      simp
                      refine nadd_K (a := s) (b := p) (x := x1) (e := e1') t4 (by simp [hcB, v2']) hx1 k3 hplb (fun he => ⟨k4.ok (hds.2 he).1, (hds.2 he).2⟩) ?_
                      intro x2 hx2
                      have hslb : (nOut e1' s (addQ s.q p.q)).2.Lb := nOut_lb k3
                      replace hds := hds.1
                      generalize nOut e1' s (addQ s.q p.q) = ep at *
                      obtain ⟨e2', s2⟩ := ep
                      simp only at hx2 hslb hds
                      rw [TM_c hcB v2']
                      obtain ⟨t7, t8, t9⟩ := TM_at (M := M) (x := x2) (v := v.set j s) (H := H) hcB v2' hbB
                      simp [hj, hk, t7, t8, t9, hH, hvl]
                      (repeat refine AW.seq_k fun K hK => ?_)
                      refine AW.rg ?_
                      simp [-Int.natCast_add, w3]
                      try (refine hK _ rfl ?_; clear hK; clear K)
                      refine ⟨k + 1, x2, e2', s2, ⟨hk, hx2, hslb, ?_⟩, by omega, ?_, rfl⟩
                      · cases Z with
                        | none => exact hds
                        | some acc =>
                          show OneM e2' s2 (iterO (entStep (mrow A i) N j) (k + 1) 0)
                          rw [iterO_succ]
                          exact hds
                      · rw [TM_v hbB]
                    · refine AW.exit ?_
                      try simp
                      have : k = m := by omega
                      subst this
                      refine ⟨x, e, s, ⟨k2, k3, ?_⟩, rfl⟩
                      unfold entQ
                      rw [hm]
                      exact k4
                  rintro ⟨x', e', s⟩ ⟨k2, k3, k4⟩
                  simp only at k2 k3 k4
                  simp only
                  (repeat refine AW.seq_k fun K hK => ?_)
                  refine AW.rg ?_
                  simp [-Int.natCast_add, w2]
                  try (refine hK _ rfl ?_; clear hK; clear K)
                  refine ⟨j + 1, x', e', v.set j s, ⟨hj, k2, lb_set q3 j k3, by rw [List.length_set]; exact q4, ?_⟩, by omega, rfl, rfl⟩
                  rw [hj1]
                  cases Z with
                  | none => exact k4
                  | some acc =>
                    obtain ⟨m1, m2, m3⟩ : e = 0 ∧ v = List.map ofQ (acc ++ List.replicate (w - j) (0 : Rat)) ∧ rowGood (acc ++ List.replicate (w - j) 0) := q5
                    replace k4 : OneM e' s (entQ (mrow A i) N j) := k4
                    show VMode e' (v.set j s) ((tmCol (mrow A i) N j acc).map _)
                    unfold tmCol
                    cases hen : entQ (mrow A i) N j with
                    | none => rw [hen] at k4; exact k4
                    | some z =>
                      rw [hen] at k4
                      obtain ⟨p1, rfl, p3⟩ : e' = 0 ∧ s = ofQ z ∧ Good z := k4
                      refine ⟨p1, ?_, ?_⟩
                      · rw [m2, ← List.map_set, app_set (hZl acc rfl) hj]
                      · have := good_set m3 j p3
                        rw [app_set (hZl acc rfl) hj] at this
                        exact this
                · refine AW.exit ?_
                  try simp
                  have : j = w := by omega
                  subst this
                  refine ⟨x, e, v, ⟨q2, q3, q4, q5.to ?_⟩, rfl⟩
                  simp
              rintro ⟨x, e, v⟩ ⟨q2, q3, q4, q5⟩
              simp only at q2 q3 q4 q5
              simp only
              have hxc : x.cells = [.int .i64 e] := q2
              cases hq : iterO (tmCol (mrow A i) N) w [] with
              | none =>
                rw [hq] at q5 hst
                have he : e = 2 := q5
                subst he
                have hX := iterO_none' hst (m := n) (by omega)
                rw [hX]
                (repeat refine AW.seq_k fun K hK => ?_)
                refine AW.rg ?_
                simp [(TM_at hcB v2' hbB).1, hxc]
                try (refine hK _ rfl ?_; clear hK; clear K)
                refine AW.yes ?_ rfl
                (repeat refine AW.seq_k fun K hK => ?_)
                refine AW.rdA c [0, 1, 2, 3, 4, 5] mix (by simp [(TM_at hcB v2' hbB).1, hxc]) ?_
                simp [(TM_at hcB v2' hbB).1, hxc]
                try (refine hK _ rfl ?_; clear hK; clear K)
                exact AW.ret (ret_views [matAV [], .int .i64 2] rfl ⟨.nilsl 1, .same _, trivial⟩ ⟨rfl, rfl⟩)
              | some r =>
                rw [hq] at q5 hst
                obtain ⟨q6, q7, q8⟩ : e = 0 ∧ v = r.map ofQ ∧ rowGood r := q5
                subst q6
                (repeat refine AW.seq_k fun K hK => ?_)
                refine AW.rg ?_
                simp [(TM_at hcB v2' hbB).1, hxc]
                try (refine hK _ rfl ?_; clear hK; clear K)
                refine AW.no ?_ rfl
                refine AW.skip ?_
                try simp
                refine ⟨⟨(M.set bv ⟨36, 4, rrs v⟩).set B ⟨42, 1, H⟩, bs ++ [bv], Y ++ [r], x⟩, ⟨hst, ?_, ?_, q2⟩, ?_⟩
                · have := hstep v q4
                  rw [q7] at this ⊢
                  rw [show emb (Y ++ [r]) = emb Y ++ [r.map ofQ] by simp [emb]]
                  exact this
                · simp [hcB, v2', g4]
                · exact TM_cell hcB v2' hbB
            rintro ⟨M, bs, Y, x⟩ hs
            (repeat refine AW.seq_k fun K hK => ?_)
            refine AW.rg ?_
            simp [-Int.natCast_add, w1]
            try (refine hK _ rfl ?_; clear hK; clear K)
            exact ⟨i + 1, ⟨M, bs, Y, x⟩, ⟨hi, hs⟩, by omega, by simp⟩
          · refine AW.exit ?_
            try simp
            have : i = n := by omega
            subst this
            exact ⟨⟨M, bs, Y, x⟩, ⟨g2, g3, g4, g5⟩, by simp⟩
        rintro ⟨M, bs, Y, x⟩ ⟨g2, g3, g4, g5⟩
        simp only at g2 g3 g4 g5
        simp only
        rw [g2]
        (repeat refine AW.seq_k fun K hK => ?_)
        refine AW.rg ?_
        simp
        try (refine hK _ rfl ?_; clear hK; clear K)
        rw [Nat.sub_self] at g3
        obtain ⟨k1, k2⟩ := g3.full
        have hcb' : c ∉ bs := fun hm => by
          obtain ⟨k, hk, e⟩ := List.mem_iff_getElem.1 hm
          rw [← nb_eq hk] at e
          have := k1.row k (by rw [← k1.len]; exact hk)
          rw [e, g4] at this; cases this
        have hv := (k1.other hcB hcb' ⟨61, 1, [x]⟩).view
        have hYl : (emb Y).length = n := by rw [emb_length]; exact (tm_keep g2).2.2
        rw [hYl] at hv
        exact AW.ret (ret_views [matAV (emb Y), .int .i64 0] rfl ⟨hv, .same _, trivial⟩ ⟨rfl, rfl⟩)
      · have hT : timR a b = (1, []) := by unfold timR; rw [if_neg (by simp [h0]), if_neg (by simp [h1]), if_pos h2]
        rw [hT]
        refine acall_S Tryz.func36 rfl rfl 101 rfl (Nat.le_of_ble_eq_true rfl) ?_
        (repeat refine AW.seq_k fun K hK => ?_)
        refine AW.rg ?_
        simp [argsL]
        try (refine hK _ rfl ?_; clear hK; clear K)
        (repeat refine AW.seq_k fun K hK => ?_)
        refine AW.rg ?_
        simp
        try (refine hK _ rfl ?_; clear hK; clear K)
        refine CallK.val hca ?_
        simp
        refine hK _ rfl ?_
        clear hK
        clear K
        (repeat refine AW.seq_k fun K hK => ?_)
        refine AW.rg ?_
        simp
        try (refine hK _ rfl ?_; clear hK; clear K)
        refine AW.no ?_ rfl
        refine AW.skip ?_
        try simp
        refine hK _ rfl ?_
        clear hK
        clear K
        (repeat refine AW.seq_k fun K hK => ?_)
        refine AW.rg ?_
        simp
        try (refine hK _ rfl ?_; clear hK; clear K)
        refine CallK.val hcb ?_
        simp
        refine hK _ rfl ?_
        clear hK
        clear K
        (repeat refine AW.seq_k fun K hK => ?_)
        refine AW.rg ?_
        simp
        try (refine hK _ rfl ?_; clear hK; clear K)
        refine AW.no ?_ rfl
        refine AW.skip ?_
        try simp
        refine hK _ rfl ?_
        clear hK
        clear K
        (repeat refine AW.seq_k fun K hK => ?_)
        refine AW.rg ?_
        simp
        try (refine hK _ rfl ?_; clear hK; clear K)
        refine CallK.val hwa ?_
        simp
        refine hK _ rfl ?_
        clear hK
        clear K
        refine AW.yes ?_ (by simp [h2])
        (repeat refine AW.seq_k fun K hK => ?_)
        refine AW.rg ?_
        simp
        try (refine hK _ rfl ?_; clear hK; clear K)
        exact AW.ret (ret_views [matAV [], .int .i64 1] rfl ⟨.nilsl 1, .same _, trivial⟩ ⟨rfl, rfl⟩)
    · have hT : timR a b = (chk b, []) := by unfold timR; rw [if_neg (by simp [h0]), if_pos h1]
      rw [hT]
      generalize chk b = e at *
      refine acall_S Tryz.func36 rfl rfl 101 rfl (Nat.le_of_ble_eq_true rfl) ?_
      (repeat refine AW.seq_k fun K hK => ?_)
      refine AW.rg ?_
      simp [argsL]
      try (refine hK _ rfl ?_; clear hK; clear K)
      (repeat refine AW.seq_k fun K hK => ?_)
      refine AW.rg ?_
      simp
      try (refine hK _ rfl ?_; clear hK; clear K)
      refine CallK.val hca ?_
      simp
      refine hK _ rfl ?_
      clear hK
      clear K
      (repeat refine AW.seq_k fun K hK => ?_)
      refine AW.rg ?_
      simp
      try (refine hK _ rfl ?_; clear hK; clear K)
      refine AW.no ?_ rfl
      refine AW.skip ?_
      try simp
      refine hK _ rfl ?_
      clear hK
      clear K
      (repeat refine AW.seq_k fun K hK => ?_)
      refine AW.rg ?_
      simp
      try (refine hK _ rfl ?_; clear hK; clear K)
      refine CallK.val hcb ?_
      simp
      refine hK _ rfl ?_
      clear hK
      clear K
      (repeat refine AW.seq_k fun K hK => ?_)
      refine AW.rg ?_
      simp [h1]
      try (refine hK _ rfl ?_; clear hK; clear K)
      refine AW.yes ?_ rfl
      (repeat refine AW.seq_k fun K hK => ?_)
      refine AW.rg ?_
      simp
      try (refine hK _ rfl ?_; clear hK; clear K)
      exact AW.ret (ret_views [matAV [], .int .i64 e] rfl ⟨.nilsl 1, .same _, trivial⟩ ⟨rfl, rfl⟩)
  · have hT : timR a b = (chk a, []) := by unfold timR; rw [if_pos h0]
    rw [hT]
    generalize chk a = e at *
    refine acall_S Tryz.func36 rfl rfl 101 rfl (Nat.le_of_ble_eq_true rfl) ?_
    (repeat refine AW.seq_k fun K hK => ?_)
    refine AW.rg ?_
    simp [argsL]
    try (refine hK _ rfl ?_; clear hK; clear K)
    (repeat refine AW.seq_k fun K hK => ?_)
    refine AW.rg ?_
    simp
    try (refine hK _ rfl ?_; clear hK; clear K)
    refine CallK.val hca ?_
    simp
    refine hK _ rfl ?_
    clear hK
    clear K
    (repeat refine AW.seq_k fun K hK => ?_)
    refine AW.rg ?_
    simp [h0]
    try (refine hK _ rfl ?_; clear hK; clear K)
    refine AW.yes ?_ rfl
    (repeat refine AW.seq_k fun K hK => ?_)
    refine AW.rg ?_
    simp
    try (refine hK _ rfl ?_; clear hK; clear K)
    exact AW.ret (ret_views [matAV [], .int .i64 e] rfl ⟨.nilsl 1, .same _, trivial⟩ ⟨rfl, rfl⟩)
end Go.Av
end
section
namespace Go.Av
open Go.Proofs
theorem rrs_snoc (r : List RR) (x : RR) : rrs (r ++ [x]) = rrs r ++ [x.av] := by simp [rrs]
/-- A list of rows and a row that is being made. -/
structure TwoL (M : Mem) (ov : AV) (ob : List Nat) (l : List AV) (rv : AV) (rb : List Nat) (r : List AV) : Prop where
  lst : LstV M 42 1 ov ob l
  row : LstV M 36 4 rv rb r
  only : OnlyM M (ob ++ rb)
  dis : ∀ b ∈ ob, b ∉ rb
section
variable {M : Mem} {ov rv : AV} {ob rb : List Nat} {l r : List AV}
theorem lstV_mem {M : Mem} {ty : TypeId} {z : Nat} {ov : AV} {ob : List Nat} {l : List AV} (h : LstV M ty z ov ob l) {b : Nat} (hb : b ∈ ob) : M b = some ⟨ty, z, l⟩ := by
  rcases h with ⟨_, h1, _⟩ | ⟨b', h1, _, h3⟩
  · rw [h1] at hb; cases hb
  · rw [h1] at hb; simp at hb; subst hb; exact h3
theorem TwoL.start {M : Mem} {ov : AV} {ob : List Nat} {l : List AV} (h : LstO M 42 1 ov ob l) : TwoL M ov ob l .nil [] [] :=
  ⟨h.lst, .inl ⟨rfl, rfl, rfl⟩, by simpa using h.only, by simp⟩
theorem TwoL.fresh (h : TwoL M ov ob l rv rb r) {b : Nat} (hb : M b = none) : b ∉ ob ∧ b ∉ rb :=
  ⟨fun h' => (by rw [lstV_mem h.lst h'] at hb; cases hb), fun h' => (by rw [lstV_mem h.row h'] at hb; cases hb)⟩
theorem TwoL.push0 (h : TwoL M ov ob l .nil [] []) {b : Nat} (hb : M b = none) (v : AV) : TwoL (M.set b ⟨36, 4, [v]⟩) ov ob l (.osl b 4 0 1) [b] [v] := by
  obtain ⟨f1, _⟩ := h.fresh hb
  refine ⟨h.lst.keep fun a ha => by simp only [set_at]; rw [if_neg (by rintro rfl; exact f1 ha)], .inr ⟨b, rfl, rfl, by simp⟩, OnlyM.set (h.only.sub fun a ha => by simp at ha ⊢; exact .inl ha) (by simp) _, fun a ha => by simp; rintro rfl; exact f1 ha⟩
theorem TwoL.push1 {b0 : Nat} (h : TwoL M ov ob l (.osl b0 4 0 r.length) [b0] r) {b : Nat} (hb : (M.del b0) b = none) (v : AV) : TwoL ((M.del b0).set b ⟨36, 4, r ++ [v]⟩) ov ob l (.osl b 4 0 (r.length + 1)) [b] (r ++ [v]) := by
  have hd : ∀ a, a ≠ b0 → (M.del b0) a = M a := fun a ha => if_neg ha
  have h0 : ∀ a ∈ ob, a ≠ b0 := fun a ha e => h.dis a ha (by simp [e])
  have hh : TwoL (M.del b0) ov ob l .nil [] [] := by
    refine ⟨h.lst.keep fun a ha => hd a (h0 a ha), .inl ⟨rfl, rfl, rfl⟩, fun a ha => ?_, by simp⟩
    have h1 : a ≠ b0 := by rintro rfl; exact ha (if_pos rfl)
    rw [hd a h1] at ha
    have := h.only a ha
    simp at this ⊢
    exact this.resolve_right h1
  have := hh.push0 hb v
  obtain ⟨f1, _⟩ := hh.fresh hb
  refine ⟨hh.lst.keep fun a ha => by simp only [set_at]; rw [if_neg (by rintro rfl; exact f1 ha)], .inr ⟨b, rfl, by simp, by simp⟩, OnlyM.set (hh.only.sub fun a ha => by simp at ha ⊢; exact .inl ha) (by simp) _, fun a ha => by simp; rintro rfl; exact f1 ha⟩
theorem TwoL.ones (h : TwoL M ov ob l rv rb r) (h1 : ∀ v ∈ l, v.cells.all AV.one = true) (h2 : ∀ v ∈ r, v.cells.all AV.one = true) : OnesM M := by
  intro b y hy
  rcases List.mem_append.1 (h.only b (by rw [hy]; simp)) with hb | hb
  · rw [lstV_mem h.lst hb] at hy; cases hy; exact h1
  · rw [lstV_mem h.row hb] at hy; cases hy; exact h2
/-- The row is done: what is left is the list. -/
theorem TwoL.done (h : TwoL M ov ob l rv rb r) (h1 : ∀ v ∈ l, v.cells.all AV.one = true) : ∃ M', Recast M M' ∧ LstO M' 42 1 ov ob l ∧ View M M' rv (.sl 4 r) ∧ View M M' ov ov := by
  refine ⟨fun b => if b ∈ rb then none else M b, Recast.sub fun b y hy => ?_, ⟨h.lst.keep fun b hb => if_neg (h.dis b hb), fun b hb => ?_⟩, ?_, .same _⟩
  · by_cases hb : b ∈ rb
    · simp [hb] at hy
    · simp [hb] at hy
      refine ⟨hy, ?_⟩
      have := h.only b (by rw [hy]; simp)
      simp [hb] at this
      rw [lstV_mem h.lst this] at hy; cases hy; exact h1
  · by_cases hm : b ∈ rb
    · simp [hm] at hb
    · simp [hm] at hb
      have := h.only b hb
      simpa [hm] using this
  · exact h.row.view fun b hb => if_pos hb
end
end Go.Av
end
section
namespace Go.Av
open Go.Proofs
def entM (b8 b10 : Nat) (s : Rat) : Mem := (Mem.emp.set b8 ⟨36, 4, [.agg [.bool false, .nil, .bool false, .nil]]⟩).set b10 ⟨36, 4, [(ofQ s).av]⟩
set_option maxHeartbeats 1000000
end Go.Av
end
section
namespace Go.Av
open Go.Proofs
structure TS7 where
  M : Mem
  ov : AV
  ob : List Nat
  Y : List (List Rat)
structure TR7 where
  M : Mem
  rv : AV
  rb : List Nat
  r : List Rat
def InvT7 (A N : List (List Rat)) (w i : Nat) (s : TS7) : Prop := iterO (tmStep A N w) i [] = some s.Y ∧ LstO s.M 42 1 s.ov s.ob ((emb s.Y).map rowAV)
set_option maxHeartbeats 1000000
end Go.Av
end
section
namespace Go.Av
open Go.Proofs
def trRow (X : List (List Rat)) (n j : Nat) : List Rat := (List.range n).map fun i => qel X i j
def trM (X : List (List Rat)) (n w : Nat) : List (List Rat) := (List.range w).map fun j => trRow X n j
structure TrS where
  M : Mem
  rv : AV
  rb : List Nat
set_option maxHeartbeats 1000000
end Go.Av
end
section
namespace Go.Av
open Go.Proofs
theorem dot_set {w p : Nat} (R : Nat → Rat) {v : List Rat} (hp : p < w) (hv : p < v.length) (x : Rat) : dotV w R (qat (v.set p x)) = dotV w R (qat v) + R p * (x - qat v p) := by
  have e1 : dotV w R (qat (v.set p x)) = sumN w (fun l => R l * qat v l + if l = p then R p * (x - qat v p) else 0) := sumN_congr fun l _ => by
    show R l * qat (v.set p x) l = _
    rw [qat_set hv]
    by_cases e : l = p
    · subst e; rw [if_pos rfl, if_pos rfl]; grind
    · rw [if_neg e, if_neg e]; grind
  rw [e1, sumN_add]
  congr 1
  rw [sumN_single hp fun i _ hne => if_neg hne, if_pos rfl]
/-- Products. -/
theorem qat_snoc {l : List Rat} {x : Rat} (i : Nat) : qat (l ++ [x]) i = if i < l.length then qat l i else if i = l.length then x else 0 := by
  unfold qat
  rw [List.getD_eq_getElem?_getD]
  by_cases h : i < l.length
  · rw [if_pos h, List.getElem?_append_left h, ← List.getD_eq_getElem?_getD]
  · rw [if_neg h, List.getElem?_append_right (by omega)]
    by_cases e : i = l.length
    · rw [if_pos e, e, Nat.sub_self]; rfl
    · rw [if_neg e, List.getElem?_eq_none (by simp; omega)]; rfl
theorem ent_eq {r : List Rat} {b : List (List Rat)} {j : Nat} : ∀ {k : Nat} {s : Rat}, iterO (entStep r b j) k 0 = some s → s = sumN k fun t => qat r t * qel b t j
  | 0, s, h => by cases h; rfl
  | k + 1, s, h => by
    rw [iterO_succ] at h
    cases hs : iterO (entStep r b j) k 0 with
    | none => rw [hs] at h; cases h
    | some q =>
      rw [hs] at h
      replace h : (mulQ (qat r k) (qel b k j)).bind (addQ q) = some s := h
      cases hm : mulQ (qat r k) (qel b k j) with
      | none => rw [hm] at h; cases h
      | some m => rw [hm] at h; rw [addQ_eq h, mulQ_eq hm, ent_eq hs]; rfl
theorem col_eq {r : List Rat} {b : List (List Rat)} : ∀ {j : Nat} {acc : List Rat}, iterO (tmCol r b) j [] = some acc → ∀ t, t < j → qat acc t = sumN b.length fun k => qat r k * qel b k t
  | 0, acc, h, t, ht => by omega
  | j + 1, acc, h, t, ht => by
    rw [iterO_succ] at h
    cases hs : iterO (tmCol r b) j [] with
    | none => rw [hs] at h; cases h
    | some a0 =>
      rw [hs] at h
      replace h : (entQ r b j).map (fun x => a0 ++ [x]) = some acc := h
      cases he : entQ r b j with
      | none => rw [he] at h; cases h
      | some x =>
        rw [he] at h
        cases h
        rw [qat_snoc, (tmCol_keep hs).1]
        by_cases e : t < j
        · rw [if_pos e]; exact col_eq hs t e
        · have : t = j := by omega
          subst this
          rw [if_neg e, if_pos rfl]
          exact ent_eq he
theorem mrow_snoc' {l : List (List Rat)} {x : List Rat} (i : Nat) : mrow (l ++ [x]) i = if i < l.length then mrow l i else if i = l.length then x else [] := by
  unfold mrow
  rw [List.getD_eq_getElem?_getD]
  by_cases h : i < l.length
  · rw [if_pos h, List.getElem?_append_left h, ← List.getD_eq_getElem?_getD]
  · rw [if_neg h, List.getElem?_append_right (by omega)]
    by_cases e : i = l.length
    · rw [if_pos e, e, Nat.sub_self]; rfl
    · rw [if_neg e, List.getElem?_eq_none (by simp; omega)]; rfl
theorem tm_eq {a b : List (List Rat)} {w : Nat} : ∀ {i : Nat} {Z : List (List Rat)}, iterO (tmStep a b w) i [] = some Z → ∀ s t, s < i → t < w → qel Z s t = sumN b.length fun k => qel a s k * qel b k t
  | 0, Z, h, s, t, hs, ht => by omega
  | i + 1, Z, h, s, t, hs, ht => by
    rw [iterO_succ] at h
    cases hu : iterO (tmStep a b w) i [] with
    | none => rw [hu] at h; cases h
    | some Y0 =>
      rw [hu] at h
      replace h : (iterO (tmCol (mrow a i) b) w []).map (fun r => Y0 ++ [r]) = some Z := h
      cases he : iterO (tmCol (mrow a i) b) w [] with
      | none => rw [he] at h; cases h
      | some r =>
        rw [he] at h
        cases h
        unfold qel
        rw [mrow_snoc', (tm_keep hu).2.2]
        by_cases e : s < i
        · rw [if_pos e]; exact tm_eq hu s t e ht
        · have : s = i := by omega
          subst this
          rw [if_neg e, if_pos rfl]
          exact col_eq he t ht
theorem times_eq {a b Z : List (List Rat)} (h : timesQ a b = some Z) {s t : Nat} (hs : s < a.length) (ht : t < (mrow b 0).length) : qel Z s t = sumN b.length fun k => qel a s k * qel b k t := tm_eq h s t hs ht
theorem reduce_rref {n w : Nat} {X : List (List Rat)} (hX : matGood n w X) (hw : (mrow X 0).length = w) {z : List (List Rat) × List Nat} (h : reduceQ X = some z) : RRef n w w z.1 z.2 ∧ ∀ v, NullV n w z.1 v ↔ NullV n w X v := by
  unfold reduceQ at h
  rw [hw] at h
  exact cols_rref hX (Nat.le_refl _) h
theorem RRef.reduce {n w : Nat} {Y : List (List Rat)} {ps : List Nat} (h : RRef n w w Y ps) (hw : (mrow Y 0).length = w) : reduceQ Y = some (Y, ps) := by
  unfold reduceQ
  rw [hw, h.again w (Nat.le_refl _), List.filter_eq_self.2 fun p hp => by simpa using h.lt p hp]
end Go.Av
end
section
namespace Go.Av
open Go.Proofs
def wideP (X : List (List Rat)) (b : List Rat) : Nat → List (List Rat)
  | 0 => X
  | i + 1 => (wideP X b i).set i (mrow X i ++ [qat b i])
def wideQ (X : List (List Rat)) (b : List Rat) : List (List Rat) := wideP X b X.length
theorem wideP_length (X : List (List Rat)) (b : List Rat) : ∀ i, (wideP X b i).length = X.length
  | 0 => rfl
  | i + 1 => by unfold wideP; rw [List.length_set, wideP_length]
theorem wideP_row (X : List (List Rat)) (b : List Rat) (k : Nat) (hk : k < X.length) : ∀ i, i ≤ X.length → mrow (wideP X b i) k = if k < i then mrow X k ++ [qat b k] else mrow X k
  | 0, _ => by rw [if_neg (by omega)]; rfl
  | i + 1, h => by
    unfold wideP
    rw [mrow_set (by rw [wideP_length]; omega), wideP_row X b k hk i (by omega)]
    by_cases e : k = i
    · subst e; rw [if_pos rfl, if_pos (by omega)]
    · rw [if_neg e]
      by_cases h1 : k < i
      · rw [if_pos h1, if_pos (by omega)]
      · rw [if_neg h1, if_neg (by omega)]
theorem good_snoc {r : List Rat} {x : Rat} (h : rowGood r) (hx : Good x) : rowGood (r ++ [x]) := fun q hq => by
  rcases List.mem_append.1 hq with hq | hq
  · exact h q hq
  · simp at hq; subst hq; exact hx
theorem wideQ_good {X : List (List Rat)} {b : List Rat} {n w : Nat} (h : matGood n w X) (hb : rowGood b) (hl : b.length = n) : matGood n (w + 1) (wideQ X b) := by
  have hX := h.2.2
  have hr : ∀ k, k < n → mrow (wideQ X b) k = mrow X k ++ [qat b k] := fun k hk => by unfold wideQ; rw [wideP_row X b k (by omega) _ (Nat.le_refl _), if_pos (by omega)]
  have hlen : (wideQ X b).length = n := by unfold wideQ; rw [wideP_length, hX]
  refine ⟨fun r hr' => ?_, fun k hk => ?_, hlen⟩
  · obtain ⟨k, hk, e⟩ := List.mem_iff_getElem.1 hr'
    have : mrow (wideQ X b) k = r := by rw [mrow_eq hk, e]
    rw [hlen] at hk
    rw [← this, hr k hk]
    exact good_snoc (h.row hk).1 (hb.at (by omega))
  · rw [hlen] at hk
    rw [hr k hk, List.length_append, (h.row hk).2]; rfl
def solF (Y : List (List Rat)) (ps : List Nat) (w : Nat) : Nat → List Rat → List Rat
  | 0, v => v
  | k + 1, v => (solF Y ps w k v).set (ps.getD k 0) (qel Y k w)
def solV (Y : List (List Rat)) (ps : List Nat) (w : Nat) : List Rat := solF Y ps w ps.length (List.replicate w 0)
theorem solF_length (Y : List (List Rat)) (ps : List Nat) (w : Nat) (v : List Rat) : ∀ k, (solF Y ps w k v).length = v.length
  | 0 => rfl
  | k + 1 => by unfold solF; rw [List.length_set, solF_length]
theorem solV_length (Y : List (List Rat)) (ps : List Nat) (w : Nat) : (solV Y ps w).length = w := by unfold solV; rw [solF_length]; simp
theorem solF_good {Y : List (List Rat)} {ps : List Nat} {w : Nat} {v : List Rat} (hv : rowGood v) (hq : ∀ k, k < ps.length → Good (qel Y k w)) : ∀ k, k ≤ ps.length → rowGood (solF Y ps w k v)
  | 0, _ => hv
  | k + 1, h => good_set (solF_good hv hq k (by omega)) _ (hq k h)
def okV (b : List RR) : Prop := ∀ i, i < b.length → (rr b i).ok = true
open Classical in
/-- The error, is there a solution, the solution. -/
noncomputable def solR (m : List (List RR)) (b : List RR) : Int × Bool × List Rat :=
  if chk m ≠ 0 then (chk m, false, []) else if b.length ≠ m.length then (1, false, []) else if ¬ okV b then (1, false, []) else if (mrow m 0).length = 64 then (2, false, []) else
  match reduceQ (wideQ (unq m) (b.map RR.q)) with
  | none => (2, false, [])
  | some z => if (mrow m 0).length ∈ z.2 then (0, false, []) else (0, true, solV z.1 z.2 (mrow m 0).length)
theorem rrs_app (r : List RR) (x : RR) : rrs (r ++ [x]) = rrs r ++ [x.av] := by simp [rrs]
theorem hdrs_put {bs : List Nat} {rows : List (List RR)} (i : Nat) (b' : Nat) (r : List RR) : hdrs (bs.set i b') (rows.set i r) = (hdrs bs rows).set i (.osl b' 4 0 r.length) := by
  unfold hdrs
  refine List.ext_getElem? fun k => ?_
  rw [List.getElem?_zipWith, List.getElem?_set, List.getElem?_set, List.getElem?_set, List.length_zipWith]
  by_cases e : i = k
  · subst e
    simp only [if_true]
    by_cases h1 : i < bs.length <;> by_cases h2 : i < rows.length <;> simp [h1, h2] <;> omega
  · simp only [if_neg e]
    rw [List.getElem?_zipWith]
theorem RefM.grow {M : Mem} {B : Nat} {bs : List Nat} {X : List (List Rat)} (h : RefM M B bs X) {i : Nat} (hi : i < X.length) {b' : Nat} (hb' : (M.del (nb bs i)) b' = none) (r : List Rat) :
    RefM (((M.del (nb bs i)).set b' ⟨36, 4, rrs (r.map ofQ)⟩).set B ⟨42, 1, (hdrs bs (emb X)).set i (.osl b' 4 0 r.length)⟩) B (bs.set i b') (X.set i r) := by
  have hiE : i < (emb X).length := by rw [emb_length]; exact hi
  have hib : i < bs.length := by rw [h.1.len]; exact hiE
  have hni := h.1.ne hiE
  have hdel : ∀ a, a ≠ nb bs i → (M.del (nb bs i)) a = M a := fun a ha => if_neg ha
  have hB' : B ≠ b' := by
    rintro rfl
    rw [hdel _ (Ne.symm hni), h.1.top] at hb'; cases hb'
  have hk' : ∀ k, k < (emb X).length → k ≠ i → nb bs k ≠ nb bs i ∧ nb bs k ≠ b' := fun k hk hki => by
    have h1 : nb bs k ≠ nb bs i := fun e => hki (nb_inj h.1.nd (by rw [h.1.len]; exact hk) hib e)
    refine ⟨h1, fun e => ?_⟩
    rw [← e, hdel _ h1, h.1.row k hk] at hb'; cases hb'
  refine ⟨⟨?_, ?_, fun k hk => ?_, ?_, ?_⟩, fun a ha => ?_⟩
  · rw [emb_set, hdrs_put, List.length_map]; simp
  · rw [List.length_set, emb_set, List.length_set]; exact h.1.len
  · rw [emb_set, List.length_set] at hk
    rw [nb_set hib, emb_set, mrow_set hiE]
    simp only [set_at]
    by_cases e : k = i
    · rw [if_pos e, if_pos e, if_neg (Ne.symm hB'), if_pos rfl]
    · obtain ⟨h1, h2⟩ := hk' k hk e
      rw [if_neg e, if_neg e, if_neg (h.1.ne hk), if_neg h2, hdel _ h1]
      exact h.1.row k hk
  · unfold List.Nodup
    rw [List.pairwise_iff_getElem]
    intro x y hx hy hxy
    rw [← nb_eq hx, ← nb_eq hy, nb_set hib, nb_set hib]
    rw [List.length_set, h.1.len] at hx hy
    by_cases e1 : x = i
    · rw [if_pos e1, if_neg (by omega)]
      exact Ne.symm (hk' y hy (by omega)).2
    · rw [if_neg e1]
      by_cases e2 : y = i
      · rw [if_pos e2]; exact (hk' x hx e1).2
      · rw [if_neg e2]
        intro e
        have := nb_inj h.1.nd (by rw [h.1.len]; exact hx) (by rw [h.1.len]; exact hy) e
        omega
  · intro hm
    rcases List.mem_or_eq_of_mem_set hm with hm | e
    · exact h.1.nB hm
    · exact hB' e
  · simp only [set_at] at ha
    by_cases e1 : a = B
    · simp [e1]
    · rw [if_neg e1] at ha
      by_cases e2 : a = b'
      · rw [e2]
        refine List.mem_cons_of_mem _ ?_
        have := nb_mem (bs := bs.set i b') (i := i) (by rw [List.length_set]; exact hib)
        rwa [nb_set hib, if_pos rfl] at this
      · rw [if_neg e2] at ha
        have e3 : a ≠ nb bs i := by rintro rfl; exact ha (if_pos rfl)
        rw [hdel _ e3] at ha
        have := h.2 a ha
        rcases List.mem_cons.1 this with e4 | hm
        · exact absurd e4 e1
        · obtain ⟨k, hk, e⟩ := List.mem_iff_getElem.1 hm
          have hki : k ≠ i := by
            rintro rfl
            exact e3 (by rw [← e, nb_eq hk])
          refine List.mem_cons_of_mem _ ?_
          have := nb_mem (bs := bs.set i b') (i := k) (by rw [List.length_set]; exact hk)
          rwa [nb_set hib, if_neg hki, nb_eq hk, e] at this
end Go.Av
end
section
namespace Go.Av
open Go.Proofs
theorem RefM.swap {M : Mem} {B : Nat} {bs : List Nat} {X : List (List Rat)} (h : RefM M B bs X) {i r : Nat} (hi : i < X.length) (hr : r < X.length) :
    RefM (M.set B ⟨42, 1, ((hdrs bs (emb X)).set i (.osl (nb bs r) 4 0 (mrow (emb X) r).length)).set r (.osl (nb bs i) 4 0 (mrow (emb X) i).length)⟩) B (swapB bs i r) (swapL X i r) := by
  have hiE : i < (emb X).length := by rw [emb_length]; exact hi
  have hrE : r < (emb X).length := by rw [emb_length]; exact hr
  have hb : ∀ b, b ∈ swapB bs i r ↔ b ∈ bs := fun b => swapB_mem (by rw [h.1.len]; exact hiE) (by rw [h.1.len]; exact hrE) b
  refine ⟨by rw [emb_swap]; exact h.1.swap hiE hrE, fun b hb' => ?_⟩
  have := (h.2.set (by simp) _) b hb'
  simpa [hb] using this
def D2 (M : Mem) (b6 b2 : Nat) (d : Rat) : Mem := (M.set b6 ⟨36, 4, [(ofQ d).av]⟩).set b2 ⟨36, 4, [.agg [.bool false, .nil, .bool false, .nil]]⟩
section
variable {M : Mem} {B b6 b2 : Nat} {d : Rat}
end
theorem RefM.fresh {M : Mem} {B : Nat} {bs : List Nat} {X : List (List Rat)} (h : RefM M B bs X) {b : Nat} (hb : M b = none) : b ∉ B :: bs := by
  intro hm
  rcases List.mem_cons.1 hm with rfl | hm
  · rw [h.1.top] at hb; cases hb
  · obtain ⟨k, hk, e⟩ := List.mem_iff_getElem.1 hm
    rw [← nb_eq hk] at e
    have := h.1.row k (by rw [← h.1.len]; exact hk)
    rw [e, hb] at this; cases this
theorem emp_back (g : Mem) : Mem.emp.back [] g = g := by
  funext k
  cases hk : g k with
  | some y => exact back_some hk
  | none => rw [back_out hk (by simp)]; rfl
def OffL (b : Nat) (l : List Nat) : Prop := b ∉ l
structure DS7 where
  X : List (List Rat)
  d : Rat
  M : Mem
  bs : List Nat
def InvD7 (n : Nat) (X0 : List (List Rat)) (B b6 b2 j : Nat) (s : DS7) : Prop :=
  detIter n X0 j = some (some (s.X, s.d)) ∧ matGood n n s.X ∧ Good s.d ∧ RefM s.M B s.bs s.X ∧ OffL b6 (B :: s.bs) ∧ OffL b2 (B :: s.bs)
set_option maxHeartbeats 1000000
end Go.Av
end
section
namespace Go.Av
open Go.Proofs
theorem okV_emb {b : List RR} (hb : ∀ x ∈ b, x.Lb) (h : okV b) : b = (b.map RR.q).map ofQ ∧ rowGood (b.map RR.q) := by
  have hok : ∀ x ∈ b, Good x.q ∧ x = ofQ x.q := fun x hx => by
    obtain ⟨j, hj, rfl⟩ := mem_rr hx
    exact ok_good (hb _ hx) (h j hj)
  refine ⟨?_, fun q hq => ?_⟩
  · rw [List.map_map]
    conv => lhs; rw [← List.map_id b]
    exact List.map_congr_left fun x hx => (hok x hx).2
  · obtain ⟨x, hx, rfl⟩ := List.mem_map.1 hq
    exact (hok x hx).1
theorem rr_q {b : List RR} {i : Nat} (hi : i < b.length) : qat (b.map RR.q) i = (rr b i).q := by
  unfold qat
  rw [List.getD_eq_getElem?_getD, List.getElem?_map, List.getElem?_eq_getElem hi, rr_eq hi]
  rfl
theorem last_mem {ps : List Nat} {w : Nat} (h : ps.Pairwise (· < ·)) (hw : ∀ p ∈ ps, p ≤ w) (h0 : ps ≠ []) : ps.getD (ps.length - 1) 0 = w ↔ w ∈ ps := by
  have hl : 0 < ps.length := by cases ps with | nil => exact absurd rfl h0 | cons a l => simp
  have hg : ps.getD (ps.length - 1) 0 = ps[ps.length - 1] := by rw [List.getD_eq_getElem?_getD, List.getElem?_eq_getElem (by omega)]; rfl
  constructor
  · intro e
    rw [← e, hg]; exact List.getElem_mem _
  · intro hm
    obtain ⟨k, hk, e⟩ := List.mem_iff_getElem.1 hm
    by_cases hkl : k = ps.length - 1
    · subst hkl; rw [hg, e]
    · have := List.pairwise_iff_getElem.1 h k (ps.length - 1) hk (by omega) (by omega)
      have h2 := hw _ (List.getElem_mem (show ps.length - 1 < ps.length by omega))
      omega
theorem recast_tmp {M : Mem} {b1 n b' B : Nat} {x y z : Blk} (h1 : M b1 = none) (ho : OnesM (((M.del n).set b' y).set B z)) : Recast ((((M.set b1 x).del n).set b' y).set B z) (((M.del n).set b' y).set B z) := by
  refine Recast.sub fun a u hu => ⟨?_, ho a u hu⟩
  simp only [set_at] at hu ⊢
  by_cases e1 : a = B
  · rw [if_pos e1] at hu ⊢; exact hu
  · rw [if_neg e1] at hu ⊢
    by_cases e2 : a = b'
    · rw [if_pos e2] at hu ⊢; exact hu
    · rw [if_neg e2] at hu ⊢
      have hu : (if a = n then none else M a) = some u := hu
      show (if a = n then none else (M.set b1 x) a) = some u
      by_cases e3 : a = n
      · rw [if_pos e3] at hu; cases hu
      · rw [if_neg e3] at hu ⊢
        rw [Mem.set_other _ _ (by rintro rfl; rw [h1] at hu; cases hu)]
        exact hu
structure SolS where
  M : Mem
  bs : List Nat
def InvSo (B : Nat) (X : List (List Rat)) (b : List RR) (i : Nat) (s : SolS) : Prop :=
  RefM s.M B s.bs (wideP X (b.map RR.q) i) ∧ ∀ k, k < i → (rr b k).ok = true
def solOut (Z : Int × Bool × List Rat) : AV := .tup [rowAV (Z.2.2.map ofQ), .bool Z.2.1, .int .i64 Z.1]
set_option maxHeartbeats 1000000
open Classical in
theorem solveL_call (m : List (List RR)) (b : List RR) (hm : LbM m) (hb : ∀ x ∈ b, x.Lb) : ACall Tryz.prog 42 [matAV m, rowAV b] Mem.emp fun v mm => v = solOut (solR m b) ∧ mm = Mem.emp := by
  have hck := check_call m hm
  have hwid := width_call m
  by_cases h0 : chk m = 0
  · rw [h0] at hck
    by_cases h1 : b.length = m.length
    · obtain ⟨a1, a2, a3, a4, a5⟩ := chk_emb hm h0
      have hla := unq_length m
      have ea : (mrow (unq m) 0).length = (mrow m 0).length := by rw [unq_row, List.length_map]
      have hcl := clone_call m (by rw [a1]; exact short_emb a2) (by omega) (fun r hr => by
        obtain ⟨i, hi, rfl⟩ := mem_row hr
        have := a3 i (by rw [hla]; exact hi)
        rw [unq_row, List.length_map] at this
        omega)
      have hR : solR m b = if ¬ okV b then ((1 : Int), false, ([] : List Rat)) else if (mrow m 0).length = 64 then (2, false, []) else
          match reduceQ (wideQ (unq m) (b.map RR.q)) with
          | none => (2, false, [])
          | some z => if (mrow m 0).length ∈ z.2 then (0, false, []) else (0, true, solV z.1 z.2 (mrow m 0).length) := by
        unfold solR; rw [if_neg (by simp [h0]), if_neg (by simp [h1])] <;> rfl
      rw [ea] at a3 a5
      generalize (mrow m 0).length = w at *
      generalize hX : unq m = X at *
      subst a1
      rw [emb_length] at *
      generalize hn : X.length = n at *
      have hG : matGood n w X := ⟨a2, a3, hn⟩
      refine acall_S Tryz.func42 rfl rfl 103 rfl (Nat.le_of_ble_eq_true rfl) ?_
      (repeat refine AW.seq_k fun K hK => ?_)
      refine AW.rg ?_
      simp [argsL]
      try (refine hK _ rfl ?_; clear hK; clear K)
      (repeat refine AW.seq_k fun K hK => ?_)
      refine AW.rg ?_
      simp
      try (refine hK _ rfl ?_; clear hK; clear K)
      refine CallK.val hck ?_
      simp
      refine hK _ rfl ?_
      clear hK
      clear K
      (repeat refine AW.seq_k fun K hK => ?_)
      refine AW.rg ?_
      simp
      try (refine hK _ rfl ?_; clear hK; clear K)
      refine AW.no ?_ rfl
      refine AW.skip ?_
      try simp
      refine hK _ rfl ?_
      clear hK
      clear K
      (repeat refine AW.seq_k fun K hK => ?_)
      refine AW.rg ?_
      simp [emb_length, hn, h1]
      try (refine hK _ rfl ?_; clear hK; clear K)
      refine AW.no ?_ rfl
      refine AW.skip ?_
      try simp
      refine hK _ rfl ?_
      clear hK
      clear K
      (repeat refine AW.seq_k fun K hK => ?_)
      refine AW.rg ?_
      simp
      try (refine hK _ rfl ?_; clear hK; clear K)
      refine CallK.news hcl ?_
      rintro _ g ⟨B, bs0, rfl, g1, g2⟩ _
      rw [emp_back]
      simp
      refine hK _ rfl ?_
      clear hK
      clear K
      refine AW.seq_ex (ι := SolS) (fun s => [(0, matAV (emb X)), (8, .osl B 1 0 n)]) (fun s => s.M) (fun s => InvSo B X b n s) ?_ ?_
      · (repeat refine AW.seq_k fun K hK => ?_)
        refine AW.rg ?_
        simp [h1]
        try (refine hK _ rfl ?_; clear hK; clear K)
        refine AW.block (AW.loopS (ι := Nat × SolS) (fun z => [(0, matAV (emb X)), (1, rowAV b), (8, .osl B 1 0 n), (29, rowAV b), (30, .int .i64 (n : Nat)), (31, .int .i64 (z.1 : Nat))]) (fun z => z.2.M) (fun z => z.1 ≤ n ∧ InvSo B X b z.1 z.2) (fun z => n - z.1) (0, ⟨g, bs0⟩) ⟨by simp, ⟨g1, g2⟩, by simp⟩ rfl (by simp) ?_)
        rintro ⟨i, M, bs⟩ ⟨k1, k2, k3⟩
        simp only at k1 k2 k3
        simp only
        (repeat refine AW.seq_k fun K hK => ?_)
        refine AW.rg ?_
        simp
        try (refine hK _ rfl ?_; clear hK; clear K)
        (repeat refine AW.seq ?_)
        refine AW.cs (fun hi => ?_) (fun hi => ?_) rfl <;> (try simp at hi)
        · refine AW.skip ?_
          try simp
          have w1 : IntKind.i64.wrap ((i + 1 : Nat) : Int) = ((i + 1 : Nat) : Int) := wi (by omega)
          have hib : i < b.length := by omega
          have hmb : rr b i ∈ b := by rw [rr_eq hib]; exact List.getElem_mem hib
          have hvl := rvalid_call (rr b i) (hb _ hmb)
          refine AW.seq_ex (ι := Mem × SolS) (fun _ => [(0, matAV (emb X)), (1, rowAV b), (8, .osl B 1 0 n), (29, rowAV b), (30, .int .i64 (n : Nat)), (31, .int .i64 (i : Nat))]) (fun z => z.1) (fun z => InvSo B X b (i + 1) z.2 ∧ Recast z.1 z.2.M) ?_ ?_
          · (repeat refine AW.seq ?_)
            refine AW.block ?_
            (repeat refine AW.seq_k fun K hK => ?_)
            refine AW.rg ?_
            simp [hib]
            try (refine hK _ rfl ?_; clear hK; clear K)
            refine Fresh.intro fun b10 hb10 => ?_
            refine hK _ rfl ?_
            clear hK
            clear K
            refine AW.turn [(0, matAV (emb X)), (1, rowAV b), (8, .osl B 1 0 n), (9, .int .i64 (i : Nat)), (10, .rptr [.bool (rr b i).n1, lim (rr b i).l1, .bool (rr b i).n2, lim (rr b i).l2]), (29, rowAV b), (30, .int .i64 (n : Nat)), (31, .int .i64 (i : Nat))] M (Recast.drop hb10 k2.ones) ?_ ?_
            · simp
              exact view_temp hb10
            (repeat refine AW.seq_k fun K hK => ?_)
            refine AW.rg ?_
            simp
            try (refine hK _ rfl ?_; clear hK; clear K)
            refine CallK.val hvl ?_
            simp
            refine hK _ rfl ?_
            clear hK
            clear K
            cases hv : (rr b i).ok with
            | false =>
              refine AW.yes ?_ rfl
              (repeat refine AW.seq_k fun K hK => ?_)
              refine AW.rg ?_
              simp
              try (refine hK _ rfl ?_; clear hK; clear K)
              have hno : ¬ okV b := fun h => by have := h i hib; rw [hv] at this; cases this
              rw [hR, if_pos hno]
              exact AW.ret (ret_views [rowAV [], .bool false, .int .i64 1] rfl ⟨.nilsl 4, .same _, .same _, trivial⟩ ⟨rfl, rfl⟩)
            | true =>
              refine AW.no ?_ rfl
              refine AW.skip ?_
              try simp
              refine hK _ rfl ?_
              clear hK
              clear K
              have hsh : shortR (rr b i) := by rw [(ok_good (hb _ hmb) hv).2]; exact short_good (ok_good (hb _ hmb) hv).1
              have hown := own_call (rr b i) hsh.1 hsh.2
              have hWl := wideP_length X (b.map RR.q) i
              have hiE : i < (emb (wideP X (b.map RR.q) i)).length := by rw [emb_length, hWl]; omega
              have hrow : mrow (wideP X (b.map RR.q) i) i = mrow X i := by rw [wideP_row X _ i (by omega) i (by omega), if_neg (by omega)]
              have hgi := k2.1.get hiE
              have hri := k2.1.row i hiE
              have hxl : (mrow X i).length = w := (hG.row hi).2
              have hlE : (mrow (emb (wideP X (b.map RR.q) i)) i).length = w := by rw [emb_row, hrow, List.length_map, hxl]
              rw [hlE] at hgi
              rw [emb_row, hrow] at hri
              have hni := k2.1.ne hiE
              have hbi : i < bs.length := by rw [k2.1.len]; exact hiE
              have hxR : ((mrow X i).map ofQ).length = w := by rw [List.length_map, hxl]
              have hq : rr b i = ofQ (qat (b.map RR.q) i) := by rw [rr_q hib]; exact (ok_good (hb _ hmb) hv).2
              have hhl : (hdrs bs (emb (wideP X (b.map RR.q) i))).length = n := by rw [hdrs_length k2.1.len, emb_length, hWl, hn]
              have hgrow : ∀ b', (M.del (nb bs i)) b' = none → RefM (((M.del (nb bs i)).set b' ⟨36, 4, rrs ((mrow X i ++ [qat (b.map RR.q) i]).map ofQ)⟩).set B ⟨42, 1, (hdrs bs (emb (wideP X (b.map RR.q) i))).set i (.osl b' 4 0 (w + 1))⟩) B (bs.set i b') (wideP X (b.map RR.q) (i + 1)) := fun b' h => by
                have := k2.grow (i := i) (by rw [hWl]; omega) h (mrow X i ++ [qat (b.map RR.q) i])
                rw [List.length_append, hxl] at this
                exact this
              have htop := k2.1.top
              generalize hdrs bs (emb (wideP X (b.map RR.q) i)) = H at *
              (repeat refine AW.seq_k fun K hK => ?_)
              refine AW.rdT [] [10] [] [B] [0,1,2,3,4,5,6,7,8,9,10,11] mix (by simp [hi, htop, hgi, hri, hlE]) (by simp [hi, htop, hgi, hri, hlE]) (by simp [hi, htop, hgi, hri, hlE]) (by simp [hi, htop, hgi, hri, hlE]) (by simp [hi, htop, hgi, hri, hlE]) ?_
              simp [hi, htop, hgi, hri, hlE]
              try (refine hK _ rfl ?_; clear hK; clear K)
              refine CallK.val hown ?_
              simp [hi, htop, hgi, hri, hlE, hni, hhl]
              refine Fresh.introD fun b1 hb1 hb1B => ?_
              have nb1 : nb bs i ≠ b1 := by rintro rfl; rw [hri] at hb1; cases hb1
              rw [if_neg nb1]
              refine ⟨_, rfl, by simp [hxR], by simp [hxR]; omega, by simp [hxR]; unfold maxLen; omega, Fresh.introD fun b' hb' hb'B => ?_⟩
              have nB : B ≠ b' := Ne.symm hb'B
              rw [if_neg nB, if_neg (Ne.symm hni), if_neg (Ne.symm hb1B)]
              have hb2 : (M.del (nb bs i)) b' = none := by
                have hb' : (if b' = nb bs i then none else (M.set b1 ⟨36, 4, [(rr b i).av]⟩) b') = none := hb'
                show (if b' = nb bs i then none else M b') = none
                by_cases e : b' = nb bs i
                · rw [if_pos e]
                · rw [if_neg e] at hb' ⊢
                  simp only [set_at] at hb'
                  by_cases e2 : b' = b1
                  · rw [if_pos e2] at hb'; cases hb'
                  · rwa [if_neg e2] at hb'
              have hgr := hgrow b' hb2
              rw [List.map_append, List.map_singleton, rrs_app, ← hq] at hgr
              refine ⟨_, rfl, rfl, ?_⟩
              rw [rrs_length, hxR]
              simp only [hgi, optK_some]
              refine ⟨⟨_, bs.set i b'⟩, ⟨hgr, fun k hk => ?_⟩, recast_tmp hb1 hgr.ones⟩
              rcases Nat.lt_succ_iff_lt_or_eq.1 hk with h | rfl
              · exact k3 k h
              · exact hv
          rintro ⟨M', M, bs⟩ ⟨hs, hrc⟩
          refine AW.turn [(0, matAV (emb X)), (1, rowAV b), (8, .osl B 1 0 n), (29, rowAV b), (30, .int .i64 (n : Nat)), (31, .int .i64 (i : Nat))] M hrc (by simp) ?_
          (repeat refine AW.seq_k fun K hK => ?_)
          refine AW.rg ?_
          simp [-Int.natCast_add, w1]
          try (refine hK _ rfl ?_; clear hK; clear K)
          exact ⟨i + 1, ⟨M, bs⟩, ⟨hi, hs⟩, by omega, by simp⟩
        · refine AW.exit ?_
          try simp
          have : i = n := by omega
          subst this
          exact ⟨⟨M, bs⟩, ⟨k2, k3⟩, by simp⟩
      rintro ⟨M, bs⟩ ⟨k2, k3⟩
      simp only at k2 k3
      simp only
      have hok : okV b := fun i hi => k3 i (by omega)
      obtain ⟨hbe, hbg⟩ := okV_emb hb hok
      rw [if_neg (by simp [hok])] at hR
      have hbl : (b.map RR.q).length = n := by rw [List.length_map, h1]
      generalize b.map RR.q = bq at *
      have hW := wideQ_good hG hbg hbl
      have hwq : wideP X bq n = wideQ X bq := by unfold wideQ; rw [hn]
      rw [hwq] at k2
      generalize wideQ X bq = Wq at *
      (repeat refine AW.seq_k fun K hK => ?_)
      refine AW.rg ?_
      simp
      try (refine hK _ rfl ?_; clear hK; clear K)
      refine CallK.val hwid ?_
      simp
      refine hK _ rfl ?_
      clear hK
      clear K
      by_cases hw : w = 64
      · rw [if_pos hw] at hR
        rw [hR]
        (repeat refine AW.seq_k fun K hK => ?_)
        refine AW.rg ?_
        simp [hw]
        try (refine hK _ rfl ?_; clear hK; clear K)
        refine AW.yes ?_ rfl
        (repeat refine AW.seq_k fun K hK => ?_)
        refine AW.rg ?_
        simp
        try (refine hK _ rfl ?_; clear hK; clear K)
        exact AW.ret (ret_views [rowAV [], .bool false, .int .i64 2] rfl ⟨.nilsl 4, .same _, .same _, trivial⟩ ⟨rfl, rfl⟩)
      · rw [if_neg hw] at hR
        (repeat refine AW.seq_k fun K hK => ?_)
        refine AW.rg ?_
        simp [hw]
        try (refine hK _ rfl ?_; clear hK; clear K)
        refine AW.no ?_ rfl
        refine AW.skip ?_
        try simp
        refine hK _ rfl ?_
        clear hK
        clear K
        (repeat refine AW.seq_k fun K hK => ?_)
        refine AW.rg ?_
        simp
        try (refine hK _ rfl ?_; clear hK; clear K)
        refine Fresh.intro fun c hc => ?_
        refine hK _ rfl ?_
        clear hK
        clear K
        have hfr := k2.fresh hc
        simp only [List.mem_cons, not_or] at hfr
        have hRd : RedM (M.set c ⟨61, 1, [.agg [.int .i64 0]]⟩) c B bs (emb Wq) (.agg [.int .i64 0]) .nil [] [] :=
          ⟨k2.1.other hfr.1 hfr.2 _, by simp, .inl ⟨rfl, rfl, rfl⟩, by simpa using (k2.2.sub fun a ha => List.mem_cons_of_mem _ ha).set (by simp) _, hfr.1, hfr.2, by simp, by simp, by simp⟩
        have hWl : Wq.length = n := hW.2.2
        have hw' : 0 < n → (mrow Wq 0).length = w + 1 := fun h => (hW.row h).2
        have hdm : dimM Wq (mrow Wq 0).length := fun k hk => by
          rw [hWl] at hk
          rw [(hW.row hk).2, hw' (by omega)]
        have hw40 : (mrow Wq 0).length < 2^40 := by
          rcases Nat.eq_zero_or_pos n with h | h
          · rw [List.eq_nil_of_length_eq_zero (hWl.trans h)]; simp [mrow]
          · rw [hw' h]; omega
        have hrd := nreduce_call _ c B bs Wq _ _ hRd rfl hW.1 hdm rfl (by omega) hw40
        rw [hWl] at hrd
        (repeat refine AW.seq_k fun K hK => ?_)
        refine AW.rg ?_
        simp
        try (refine hK _ rfl ?_; clear hK; clear K)
        refine CallK.whole (by simp) hrd ?_
        rintro v M' ⟨x', q1, q2, q3⟩
        simp
        refine hK _ rfl ?_
        clear hK
        clear K
        cases hq : reduceQ Wq with
        | none =>
          rw [hq] at q3 hR
          have hx' : x'.cells = [.int .i64 2] := q3
          rw [hR]
          (repeat refine AW.seq_k fun K hK => ?_)
          refine AW.rg ?_
          simp [q1, hx']
          try (refine hK _ rfl ?_; clear hK; clear K)
          refine AW.yes ?_ rfl
          (repeat refine AW.seq_k fun K hK => ?_)
          refine AW.rdA c [0, 1, 2, 3, 4, 5, 6] mix (by simp [q1, hx']) ?_
          simp [q1, hx']
          try (refine hK _ rfl ?_; clear hK; clear K)
          exact AW.ret (ret_views [rowAV [], .bool false, .int .i64 2] rfl ⟨.nilsl 4, .same _, .same _, trivial⟩ ⟨rfl, rfl⟩)
        | some z =>
          obtain ⟨Y, ps⟩ := z
          rw [hq] at q3 hR
          obtain ⟨q3, bs', pb, q4⟩ := q3
          have hx' : x'.cells = [.int .i64 0] := q3
          simp only at hR
          have hcol := reduce_keep (n := n) (w := (mrow Wq 0).length) ⟨hW.1, hdm, hWl⟩ hq
          have hsrt := cols_sorted (n := n) (w := (mrow Wq 0).length) (z0 := (Wq, [])) ⟨⟨hW.1, hdm, hWl⟩, by simp, by simp, by simp⟩ (by simp) hq
          obtain ⟨⟨y1, y2, y3⟩, y4, y5, y6⟩ := hcol
          simp only at y1 y2 y3 y4 y5 y6 hsrt
          have hle : ∀ p ∈ ps, p ≤ w := fun p hp => by
            have := y6 p hp
            rcases Nat.eq_zero_or_pos n with h | h
            · have : ps.length = 0 := by omega
              rw [List.eq_nil_of_length_eq_zero this] at hp; cases hp
            · rw [hw' h] at this; omega
          (repeat refine AW.seq_k fun K hK => ?_)
          refine AW.rg ?_
          simp [q1, hx']
          try (refine hK _ rfl ?_; clear hK; clear K)
          refine AW.no ?_ rfl
          refine AW.skip ?_
          try simp
          refine hK _ rfl ?_
          clear hK
          clear K
          have hv := q4.mat.view
          rw [emb_length, y3] at hv
          refine AW.toEmp [(8, matAV (emb Y)), (11, .int .i64 w), (13, .sl 1 (ints ps))] (by simp; exact ⟨hv, q4.piv.view⟩) ?_
          by_cases hwp : w ∈ ps
          · rw [if_pos hwp] at hR
            rw [hR]
            have hne : ps ≠ [] := by rintro rfl; cases hwp
            have hl0 : 0 < ps.length := by cases ps with | nil => exact absurd rfl hne | cons a l => simp
            have hlast := (last_mem hsrt hle hne).2 hwp
            have w2 : IntKind.i64.wrap ((ps.length : Int) - 1) = ((ps.length - 1 : Nat) : Int) := by rw [show ((ps.length : Int) - 1) = ((ps.length - 1 : Nat) : Int) by omega]; exact wi (by omega)
            have hl1 : ps.length - 1 < ps.length := by omega
            have hg : ps.getD (ps.length - 1) 0 = ps[ps.length - 1] := by rw [List.getD_eq_getElem?_getD, List.getElem?_eq_getElem hl1]; rfl
            rw [hg] at hlast
            (repeat refine AW.seq_k fun K hK => ?_)
            refine AW.rg ?_
            simp [hl0, w2, hl1]
            try (refine hK _ rfl ?_; clear hK; clear K)
            refine AW.yes ?_ (by simp [hlast])
            (repeat refine AW.seq_k fun K hK => ?_)
            refine AW.rg ?_
            simp
            try (refine hK _ rfl ?_; clear hK; clear K)
            exact AW.ret (ret_views [rowAV [], .bool false, .int .i64 0] rfl ⟨.nilsl 4, .same _, .same _, trivial⟩ ⟨rfl, rfl⟩)
          · rw [if_neg hwp] at hR
            rw [hR]
            have hlt : ∀ p ∈ ps, p < w := fun p hp => by
              have := hle p hp
              rcases Nat.lt_or_eq_of_le this with h | h
              · exact h
              · subst h; exact absurd hp hwp
            refine AW.seq_ex (ι := Unit) (fun _ => [(8, matAV (emb Y)), (11, .int .i64 w), (13, .sl 1 (ints ps))]) (fun _ => Mem.emp) (fun _ => True) ?_ ?_
            · by_cases hne : ps = []
              · subst hne
                (repeat refine AW.seq_k fun K hK => ?_)
                refine AW.rg ?_
                simp
                try (refine hK _ rfl ?_; clear hK; clear K)
                refine AW.no ?_ rfl
                refine AW.skip ?_
                try simp
              · have hl0 : 0 < ps.length := by cases ps with | nil => exact absurd rfl hne | cons a l => simp
                have w2 : IntKind.i64.wrap ((ps.length : Int) - 1) = ((ps.length - 1 : Nat) : Int) := by rw [show ((ps.length : Int) - 1) = ((ps.length - 1 : Nat) : Int) by omega]; exact wi (by omega)
                have hl1 : ps.length - 1 < ps.length := by omega
                have hlast := mt (last_mem hsrt hle hne).1 hwp
                have hg : ps.getD (ps.length - 1) 0 = ps[ps.length - 1] := by rw [List.getD_eq_getElem?_getD, List.getElem?_eq_getElem hl1]; rfl
                rw [hg] at hlast
                (repeat refine AW.seq_k fun K hK => ?_)
                refine AW.rg ?_
                simp [hl0, w2, hl1]
                try (refine hK _ rfl ?_; clear hK; clear K)
                refine AW.no ?_ (by simp [hlast])
                refine AW.skip ?_
                try simp
            rintro _ -
            have hvec := vector_call w (by omega)
            (repeat refine AW.seq_k fun K hK => ?_)
            refine AW.rg ?_
            simp
            try (refine hK _ rfl ?_; clear hK; clear K)
            refine CallK.make hvec ?_
            rintro bv _ _ ⟨rfl, rfl⟩ hbv _
            simp
            refine hK _ rfl ?_
            clear hK
            clear K
            refine AW.seq_ex (ι := Unit) (fun _ => [(14, .osl bv 4 0 w)]) (fun _ => Mem.emp.set bv ⟨36, 4, rrs ((solV Y ps w).map ofQ)⟩) (fun _ => True) ?_ ?_
            · (repeat refine AW.seq_k fun K hK => ?_)
              refine AW.rg ?_
              simp
              try (refine hK _ rfl ?_; clear hK; clear K)
              refine AW.block (AW.loopS (ι := Nat) (fun k => [(8, matAV (emb Y)), (11, .int .i64 w), (14, .osl bv 4 0 w), (84, .sl 1 (ints ps)), (85, .int .i64 ps.length), (86, .int .i64 (k : Nat))]) (fun k => Mem.emp.set bv ⟨36, 4, rrs ((solF Y ps w k (List.replicate w 0)).map ofQ)⟩) (fun k => k ≤ ps.length) (fun k => ps.length - k) 0 (by simp) ?_ (by simp) ?_)
              · show Mem.emp.set bv _ = Mem.emp.set bv ⟨36, 4, rrs ((List.replicate w (0 : Rat)).map ofQ)⟩
                rw [List.map_replicate]
              rintro k g1
              (repeat refine AW.seq_k fun K hK => ?_)
              refine AW.rg ?_
              simp
              try (refine hK _ rfl ?_; clear hK; clear K)
              (repeat refine AW.seq ?_)
              refine AW.cs (fun hk => ?_) (fun hk => ?_) rfl <;> (try simp at hk)
              · refine AW.skip ?_
                try simp
                have w3 : IntKind.i64.wrap ((k + 1 : Nat) : Int) = ((k + 1 : Nat) : Int) := wi (by omega)
                have hkY : k < Y.length := by omega
                have hkE : k < (emb Y).length := by rw [emb_length]; exact hkY
                have hn0 : 0 < n := by omega
                have hlk : (mrow (emb Y) k).length = w + 1 := by rw [emb_row, List.length_map, y2 k hkY, hw' hn0]
                have hjl : w < (mrow Y k).length := by rw [y2 k hkY, hw' hn0]; omega
                have hel : rr (mrow (emb Y) k) w = ofQ (qel Y k w) := by rw [emb_row, rr_map hjl]; rfl
                have hpk : ps.getD k 0 = ps[k] := by rw [List.getD_eq_getElem?_getD, List.getElem?_eq_getElem hk]; rfl
                have hpw : ps[k] < w := hlt _ (List.getElem_mem hk)
                have hlf : (solF Y ps w k (List.replicate w 0)).length = w := by rw [solF_length]; simp
                have hkn : solF Y ps w (k + 1) (List.replicate w 0) = (solF Y ps w k (List.replicate w 0)).set ps[k] (qel Y k w) := by rw [← hpk]; rfl
                (repeat refine AW.seq ?_)
                refine AW.block ?_
                (repeat refine AW.seq_k fun K hK => ?_)
                refine AW.rg ?_
                simp [hk]
                try (refine hK _ rfl ?_; clear hK; clear K)
                (repeat refine AW.seq_k fun K hK => ?_)
                refine AW.rg ?_
                simp [-Int.natCast_add, hkE, hlk, hel, hpw, hlf]
                try (refine hK _ rfl ?_; clear hK; clear K)
                (repeat refine AW.seq_k fun K hK => ?_)
                refine AW.rg ?_
                simp [-Int.natCast_add, w3]
                try (refine hK _ rfl ?_; clear hK; clear K)
                refine ⟨k + 1, by omega, by omega, ?_, rfl⟩
                rw [hkn, List.map_set, ← rrs_set]
                rfl
              · refine AW.exit ?_
                try simp
                have : k = ps.length := by omega
                subst this
                rfl
            rintro _ -
            (repeat refine AW.seq_k fun K hK => ?_)
            refine AW.rg ?_
            simp
            try (refine hK _ rfl ?_; clear hK; clear K)
            exact AW.ret (ret_views [rowAV ((solV Y ps w).map ofQ), .bool true, .int .i64 0] rfl ⟨view_row (Mem.set_same _ _ _) rfl (by rw [List.length_map, solV_length]), .same _, .same _, trivial⟩ ⟨rfl, rfl⟩)
    · have hR : solR m b = (1, false, []) := by unfold solR; rw [if_neg (by simp [h0]), if_pos h1]
      rw [hR]
      refine acall_S Tryz.func42 rfl rfl 103 rfl (Nat.le_of_ble_eq_true rfl) ?_
      (repeat refine AW.seq_k fun K hK => ?_)
      refine AW.rg ?_
      simp [argsL]
      try (refine hK _ rfl ?_; clear hK; clear K)
      (repeat refine AW.seq_k fun K hK => ?_)
      refine AW.rg ?_
      simp
      try (refine hK _ rfl ?_; clear hK; clear K)
      refine CallK.val hck ?_
      simp
      refine hK _ rfl ?_
      clear hK
      clear K
      (repeat refine AW.seq_k fun K hK => ?_)
      refine AW.rg ?_
      simp
      try (refine hK _ rfl ?_; clear hK; clear K)
      refine AW.no ?_ rfl
      refine AW.skip ?_
      try simp
      refine hK _ rfl ?_
      clear hK
      clear K
      (repeat refine AW.seq_k fun K hK => ?_)
      refine AW.rg ?_
      simp
      try (refine hK _ rfl ?_; clear hK; clear K)
      refine AW.yes ?_ (by simp [h1])
      (repeat refine AW.seq_k fun K hK => ?_)
      refine AW.rg ?_
      simp
      try (refine hK _ rfl ?_; clear hK; clear K)
      exact AW.ret (ret_views [rowAV [], .bool false, .int .i64 1] rfl ⟨.nilsl 4, .same _, .same _, trivial⟩ ⟨rfl, rfl⟩)
  · have hR : solR m b = (chk m, false, []) := by unfold solR; rw [if_pos h0]
    rw [hR]
    generalize chk m = e at *
    refine acall_S Tryz.func42 rfl rfl 103 rfl (Nat.le_of_ble_eq_true rfl) ?_
    (repeat refine AW.seq_k fun K hK => ?_)
    refine AW.rg ?_
    simp [argsL]
    try (refine hK _ rfl ?_; clear hK; clear K)
    (repeat refine AW.seq_k fun K hK => ?_)
    refine AW.rg ?_
    simp
    try (refine hK _ rfl ?_; clear hK; clear K)
    refine CallK.val hck ?_
    simp
    refine hK _ rfl ?_
    clear hK
    clear K
    (repeat refine AW.seq_k fun K hK => ?_)
    refine AW.rg ?_
    simp [h0]
    try (refine hK _ rfl ?_; clear hK; clear K)
    refine AW.yes ?_ rfl
    (repeat refine AW.seq_k fun K hK => ?_)
    refine AW.rg ?_
    simp
    try (refine hK _ rfl ?_; clear hK; clear K)
    exact AW.ret (ret_views [rowAV [], .bool false, .int .i64 e] rfl ⟨.nilsl 4, .same _, .same _, trivial⟩ ⟨rfl, rfl⟩)
end Go.Av
end
section
namespace Go.Av
open Go.Proofs
theorem redR_emb {W : List (List Rat)} (h : chk (emb W) = 0) : redR (emb W) = match reduceQ W with
    | none => (2, [], [])
    | some z => (0, z.1, z.2) := by
  unfold redR; rw [if_neg (by simp [h]), unq_emb] <;> rfl
set_option maxHeartbeats 1000000
end Go.Av
end
section
namespace Go.Av
open Go.Proofs
open Classical in
theorem solR_good {m : List (List RR)} {b : List RR} (hm : LbM m) (hb : ∀ x ∈ b, x.Lb) : rowGood (solR m b).2.2 ∧ (solR m b).2.2.length ≤ 64 := by
  have z : rowGood ([] : List Rat) ∧ ([] : List Rat).length ≤ 64 := ⟨fun q hq => (by cases hq), by simp⟩
  unfold solR
  by_cases h0 : chk m = 0
  · rw [if_neg (by simp [h0])]
    by_cases h1 : b.length = m.length
    · rw [if_neg (by simp [h1])]
      by_cases h2 : okV b
      · rw [if_neg (by simp [h2])]
        by_cases h3 : (mrow m 0).length = 64
        · rw [if_pos h3]; exact z
        · rw [if_neg h3]
          obtain ⟨a1, a2, a3, a4, a5⟩ := chk_emb hm h0
          obtain ⟨hbe, hbg⟩ := okV_emb hb h2
          have ea : (mrow (unq m) 0).length = (mrow m 0).length := by rw [unq_row, List.length_map]
          have hla := unq_length m
          rw [ea] at a3 a5
          have hW := wideQ_good ⟨a2, a3, hla⟩ hbg (by rw [List.length_map, h1])
          generalize wideQ (unq m) (b.map RR.q) = Wq at *
          cases hq : reduceQ Wq with
          | none => exact z
          | some y =>
            simp only
            by_cases h4 : (mrow m 0).length ∈ y.2
            · rw [if_pos h4]; exact z
            · rw [if_neg h4]
              have hWl : Wq.length = m.length := hW.2.2
              have hw' : 0 < m.length → (mrow Wq 0).length = (mrow m 0).length + 1 := fun h => (hW.row h).2
              have hdm : dimM Wq (mrow Wq 0).length := fun k hk => by
                rw [hWl] at hk
                rw [(hW.row hk).2, hw' (by omega)]
              have hcol := reduce_keep (n := m.length) (w := (mrow Wq 0).length) ⟨hW.1, hdm, hWl⟩ hq
              obtain ⟨⟨y1, y2, y3⟩, y4, y5, y6⟩ := hcol
              refine ⟨solF_good (fun q hq => ?_) (fun k hk => ?_) _ (Nat.le_refl _), by rw [solV_length]; exact a5⟩
              · rw [List.eq_of_mem_replicate hq]; exact good_zero
              · exact y1.at (by rw [y2 k (by omega), hw' (by omega)]; omega)
      · rw [if_pos h2]; exact z
    · rw [if_pos h1]; exact z
  · rw [if_pos h0]; exact z
end Go.Av
end
section
namespace Go.Av
open Go.Proofs
theorem red_facts {X : List (List Rat)} {n w : Nat} (hX : matGood n w X) (hw : (mrow X 0).length = w) (hn : 0 < n) (hn' : n ≤ 64) (hw' : w ≤ 64) (h : (redR (emb X)).1 = 0) :
    ∃ Y ps, redR (emb X) = (0, Y, ps) ∧ reduceQ X = some (Y, ps) ∧ RRef n w w Y ps ∧ (∀ v, NullV n w Y v ↔ NullV n w X v) ∧ (mrow Y 0).length = w ∧ kerR (emb X) = (0, kerP Y ps w w) ∧ redR (emb Y) = (0, Y, ps) := by
  have hc := chk_good hX hw hn' hw'
  have hr := redR_emb hc
  cases hq : reduceQ X with
  | none => rw [hq] at hr; rw [hr] at h; exact absurd h (by simp)
  | some z =>
    rw [hq] at hr
    obtain ⟨r1, r2⟩ := reduce_rref hX hw hq
    have hy : (mrow z.1 0).length = w := (r1.good.row hn).2
    have hr' : redR (emb X) = (0, z.1, z.2) := hr
    refine ⟨z.1, z.2, hr', rfl, r1, r2, hy, ?_, ?_⟩
    · unfold kerR
      rw [hr', if_neg (by simp), emb_row, List.length_map, hw]
    · rw [redR_emb (chk_good r1.good hy hn' hw'), r1.reduce hy]
theorem times_cases {A B : List (List Rat)} {n m w : Nat} (hA : matGood n m A) (hB : matGood m w B) (hn : 0 < n) (hm : 0 < m) (h1 : n ≤ 64) (h2 : m ≤ 64) (h3 : w ≤ 64) : timR (emb A) (emb B) = (2, []) ∨ ∃ Z, timR (emb A) (emb B) = (0, Z) ∧ timesQ A B = some Z ∧ matGood n w Z := by
  have wa : (mrow A 0).length = m := (hA.row hn).2
  have wb : (mrow B 0).length = w := (hB.row hm).2
  unfold timR
  rw [if_neg (by rw [chk_good hA wa h1 h2]; simp), if_neg (by rw [chk_good hB wb h2 h3]; simp), if_neg (by rw [emb_row, List.length_map, wa, emb_length, hB.2.2]; simp), unq_emb, unq_emb]
  cases hq : timesQ A B with
  | none => exact .inl rfl
  | some Z =>
    refine .inr ⟨Z, rfl, rfl, ?_⟩
    have := tm_keep hq
    rwa [wb, hA.2.2] at this
end Go.Av
end
section
namespace Go.Av
open Go.Proofs
theorem find_congr' {α : Type} {p q : α → Bool} : ∀ {l : List α}, (∀ x ∈ l, p x = q x) → l.find? p = l.find? q
  | [], _ => rfl
  | a :: l, h => by
    rw [List.find?_cons, List.find?_cons, h a (by simp), find_congr' fun x hx => h x (List.mem_cons_of_mem _ hx)]
theorem pivQ_congr {M N : List (List Rat)} {j r : Nat} (hl : M.length = N.length) (h : ∀ i, i < M.length → qel M i j = qel N i j) : pivQ M j r = pivQ N j r := by
  unfold pivQ
  rw [← hl]
  exact find_congr' fun i hi => by rw [h i (List.mem_range.1 hi)]
theorem trunc_step {n w j : Nat} {Y Z : List (List Rat)} {ps : List Nat} (hY : matGood n w Y) (hZ : matGood n (w + 1) Z) (hj : j < w) (hag : ∀ a b, a < n → b < w → qel Z a b = qel Y a b) {y z : List (List Rat) × List Nat} (h1 : colStep j (Y, ps) = some y) (h2 : colStep j (Z, ps) = some z) :
    z.2 = y.2 ∧ ∀ a b, a < n → b < w → qel z.1 a b = qel y.1 a b := by
  have hp : pivQ Z j ps.length = pivQ Y j ps.length := pivQ_congr (by rw [hY.2.2, hZ.2.2]) fun i hi => hag i j (by rw [hZ.2.2] at hi; exact hi) hj
  unfold colStep at h1 h2
  simp only at h1 h2
  rw [hp] at h2
  cases hq : pivQ Y j ps.length with
  | none =>
    rw [hq] at h1 h2
    cases h1; cases h2
    exact ⟨rfl, hag⟩
  | some i0 =>
    rw [hq] at h1 h2
    obtain ⟨p1, p2, p3⟩ := pivQ_some hq
    rw [hY.2.2] at p1
    have hr : ps.length < n := by omega
    simp only at h1 h2
    cases hc : clearQ (swapL Y i0 ps.length) j ps.length with
    | none => rw [hc] at h1; cases h1
    | some Y1 =>
      cases hd : clearQ (swapL Z i0 ps.length) j ps.length with
      | none => rw [hd] at h2; cases h2
      | some Z1 =>
        rw [hc] at h1
        rw [hd] at h2
        cases h1; cases h2
        refine ⟨rfl, fun a b ha hb => ?_⟩
        have sy : ∀ a b, qel (swapL Y i0 ps.length) a b = if a = ps.length then qel Y i0 b else if a = i0 then qel Y ps.length b else qel Y a b := fun a b => qel_swap (by rw [hY.2.2]; omega) (by rw [hY.2.2]; omega) a b
        have sz : ∀ a b, qel (swapL Z i0 ps.length) a b = if a = ps.length then qel Z i0 b else if a = i0 then qel Z ps.length b else qel Z a b := fun a b => qel_swap (by rw [hZ.2.2]; omega) (by rw [hZ.2.2]; omega) a b
        have hs : ∀ a b, a < n → b < w → qel (swapL Z i0 ps.length) a b = qel (swapL Y i0 ps.length) a b := fun a b ha hb => by
          rw [sy, sz, hag _ b p1 hb, hag _ b hr hb, hag a b ha hb]
        have hdy : qel (swapL Y i0 ps.length) ps.length j ≠ 0 := by rw [sy, if_pos rfl]; exact p3
        have cy := (clear_spec (hY.swap p1 hr) hr hdy hj hc).2
        have cz := (clear_spec (hZ.swap p1 hr) hr (by rw [hs _ j hr hj]; exact hdy) (by omega) hd).2
        show qel Z1 a b = qel Y1 a b
        rw [cy a b ha hb, cz a b ha (by omega), hs _ b hr hb, hs _ j hr hj, hs a b ha hb, hs a j ha hj]
theorem trunc {n w : Nat} {X W : List (List Rat)} (hX : matGood n w X) (hW : matGood n (w + 1) W) (hag : ∀ a b, a < n → b < w → qel W a b = qel X a b) : ∀ {j : Nat} {y z : List (List Rat) × List Nat}, j ≤ w → iterO colStep j (X, []) = some y → iterO colStep j (W, []) = some z →
    z.2 = y.2 ∧ ∀ a b, a < n → b < w → qel z.1 a b = qel y.1 a b
  | 0, y, z, _, h1, h2 => by cases h1; cases h2; exact ⟨rfl, hag⟩
  | j + 1, y, z, hj, h1, h2 => by
    rw [iterO_succ] at h1 h2
    cases hy : iterO colStep j (X, []) with
    | none => rw [hy] at h1; cases h1
    | some y0 =>
      cases hz : iterO colStep j (W, []) with
      | none => rw [hz] at h2; cases h2
      | some z0 =>
        rw [hy] at h1
        rw [hz] at h2
        obtain ⟨k1, k2⟩ := trunc hX hW hag (by omega) hy hz
        have g1 := (cols_rref hX (by omega) hy).1.good
        have g2 := (cols_rref hW (by omega) hz).1.good
        obtain ⟨Y0, p0⟩ := y0
        obtain ⟨Z0, q0⟩ := z0
        simp only at k1 k2 g1 g2
        subst k1
        exact trunc_step g1 g2 (by omega) k2 h1 h2
theorem qel_wide {X : List (List Rat)} {b : List Rat} {n w i : Nat} (hX : matGood n w X) (hi : i < n) (l : Nat) : qel (wideQ X b) i l = if l < w then qel X i l else if l = w then qat b i else 0 := by
  unfold qel wideQ
  rw [wideP_row X b i (by rw [hX.2.2]; exact hi) _ (Nat.le_refl _), if_pos (by rw [hX.2.2]; exact hi), qat_snoc, (hX.row hi).2]
/-- The reduction with the right side. -/
theorem wide_red {n w : Nat} {X : List (List Rat)} {b : List Rat} (hX : matGood n w X) (hW : matGood n (w + 1) (wideQ X b)) (hn : 0 < n) {y z : List (List Rat) × List Nat} (h1 : reduceQ X = some y) (h2 : reduceQ (wideQ X b) = some z) :
    RRef n (w + 1) (w + 1) z.1 z.2 ∧ (∀ v, NullV n (w + 1) z.1 v ↔ NullV n (w + 1) (wideQ X b) v) ∧ (z.2 = y.2 ∨ z.2 = y.2 ++ [w]) ∧ (w ∈ z.2 ↔ z.2.length ≠ y.2.length) := by
  have hw1 := (hX.row hn).2
  have hw2 := (hW.row hn).2
  obtain ⟨r1, r2⟩ := reduce_rref hW hw2 h2
  have ry := (reduce_rref hX hw1 h1).1
  unfold reduceQ at h1 h2
  rw [hw1] at h1
  rw [hw2, iterO_succ] at h2
  cases hz : iterO colStep w (wideQ X b, []) with
  | none => rw [hz] at h2; cases h2
  | some z0 =>
    rw [hz] at h2
    obtain ⟨k1, k2⟩ := trunc hX hW (fun a b ha hb => by rw [qel_wide hX ha, if_pos hb]) (Nat.le_refl _) h1 hz
    replace h2 : colStep w z0 = some z := h2
    have hor : z.2 = y.2 ∨ z.2 = y.2 ++ [w] := by
      unfold colStep at h2
      cases hp : pivQ z0.1 w z0.2.length with
      | none => rw [hp] at h2; cases h2; exact .inl k1
      | some i0 =>
        rw [hp] at h2
        simp only at h2
        cases hc : clearQ (swapL z0.1 i0 z0.2.length) w z0.2.length with
        | none => rw [hc] at h2; cases h2
        | some Z1 => rw [hc] at h2; cases h2; exact .inr (by rw [← k1])
    refine ⟨r1, r2, hor, ?_⟩
    have hno : w ∉ y.2 := fun h => by have := ry.lt w h; omega
    rcases hor with e | e
    · rw [e]; exact ⟨fun h => absurd h hno, fun h => absurd rfl h⟩
    · rw [e]; simp
theorem sol_other {Y : List (List Rat)} {ps : List Nat} {w : Nat} {v : List Rat} (hl : ∀ p ∈ ps, p < v.length) {p : Nat} : ∀ k, k ≤ ps.length → (∀ i, i < k → ps.getD i 0 ≠ p) → qat (solF Y ps w k v) p = qat v p
  | 0, _, _ => rfl
  | k + 1, h, hp => by
    show qat ((solF Y ps w k v).set (ps.getD k 0) (qel Y k w)) p = qat v p
    rw [qat_set (by rw [solF_length]; exact hl _ (getD_mem (by omega))), if_neg (Ne.symm (hp k (by omega)))]
    exact sol_other hl k (by omega) fun i hi => hp i (by omega)
theorem sol_dot {Y : List (List Rat)} {ps : List Nat} {w : Nat} {v : List Rat} (R : Nat → Rat) (hv : v.length = w) (hs : ps.Pairwise (· < ·)) (hl : ∀ p ∈ ps, p < w) (hz : ∀ p ∈ ps, qat v p = 0) :
    ∀ k, k ≤ ps.length → dotV w R (qat (solF Y ps w k v)) = dotV w R (qat v) + sumN k fun i => R (ps.getD i 0) * qel Y i w
  | 0, _ => by show dotV w R (qat v) = dotV w R (qat v) + 0; grind
  | k + 1, h => by
    show dotV w R (qat ((solF Y ps w k v).set (ps.getD k 0) (qel Y k w))) = _
    have hm := getD_mem (ps := ps) (k := k) (by omega)
    rw [dot_set R (hl _ hm) (by rw [solF_length, hv]; exact hl _ hm), sol_dot R hv hs hl hz k (by omega), sumN_succ,
      sol_other (fun p hp => by rw [hv]; exact hl p hp) k (by omega) (fun i hi => by have := getD_lt hs hi (show k < ps.length by omega); omega), hz _ hm]
    grind
theorem qat_rep (w l : Nat) : qat (List.replicate w (0 : Rat)) l = 0 := by
  unfold qat
  by_cases e : l < w
  · rw [List.getD_eq_getElem?_getD, List.getElem?_replicate, if_pos e]; rfl
  · rw [List.getD_eq_getElem?_getD, List.getElem?_replicate, if_neg e]; rfl
/-- The solution solves. -/
theorem solves {n w : Nat} {X Z : List (List Rat)} {b : List Rat} {qs : List Nat} (hX : matGood n w X) (h : RRef n (w + 1) (w + 1) Z qs) (hN : ∀ v, NullV n (w + 1) Z v ↔ NullV n (w + 1) (wideQ X b) v) (hw : w ∉ qs) {i : Nat} (hi : i < n) : dotV w (qel X i) (qat (solV Z qs w)) = qat b i := by
  have hlt : ∀ p ∈ qs, p < w := fun p hp => by
    have := h.lt p hp
    have : p ≠ w := fun e => hw (e ▸ hp)
    omega
  have hz : NullV n (w + 1) Z fun l => if l < w then qat (solV Z qs w) l else -1 := by
    intro i hi
    have e1 : dotV (w + 1) (qel Z i) (fun l => if l < w then qat (solV Z qs w) l else -1) = dotV w (qel Z i) (qat (solV Z qs w)) - qel Z i w := by
      show sumN w _ + _ = _
      rw [sumN_congr (g := fun l => qel Z i l * qat (solV Z qs w) l) fun l hl => by simp only [if_pos hl]]
      simp only [if_neg (Nat.lt_irrefl w)]
      unfold dotV; grind
    rw [e1]
    unfold solV
    rw [sol_dot _ (by simp) h.srt hlt (fun p _ => qat_rep w p) _ (Nat.le_refl _)]
    have e2 : dotV w (qel Z i) (qat (List.replicate w 0)) = 0 := sumN_zero fun l _ => by rw [qat_rep]; grind
    rw [e2]
    by_cases hil : i < qs.length
    · rw [sumN_single hil fun k hk hne => by rw [h.one k hk i hi, if_neg (Ne.symm hne)]; grind, h.one i hil i hi, if_pos rfl]; grind
    · rw [sumN_zero fun k hk => by rw [h.one k hk i hi, if_neg (by omega)]; grind, h.zer i hi w (by omega) (fun h => absurd h hil)]; grind
  have := (hN _).1 hz i hi
  have e1 : dotV (w + 1) (qel (wideQ X b) i) (fun l => if l < w then qat (solV Z qs w) l else -1) = dotV w (qel X i) (qat (solV Z qs w)) - qat b i := by
    show sumN w _ + _ = _
    rw [sumN_congr (g := fun l => qel X i l * qat (solV Z qs w) l) fun l hl => by rw [qel_wide hX hi]; simp only [if_pos hl]]
    simp only []
    rw [qel_wide hX hi, if_neg (Nat.lt_irrefl w), if_pos rfl, if_neg (Nat.lt_irrefl w)]
    unfold dotV; grind
  rw [e1] at this
  grind
end Go.Av
end
section
namespace Go.Av
section
variable {P : Program} {cf : Cfg} {ops : Array Oper}
/-- A slice that is built and soon read, a value. -/
def virtB (ro : Nat → Bool) (o : Oper) : Bool := match o.op, o.dst with
  | .buildSlice _ _ _, some d => ro d
  | _, _ => false
theorem virt_eff {o : Oper} (h : virtB cf.ro o = true) (s : St) : ∃ (C : Prop) (v : AV), ∀ (m : Mem) (k : AV → Mem → Prop), eff P cf o { s with m := m } k ↔ C ∧ k v m := by
  unfold virtB at h
  split at h
  · rename_i t len parts d ho hd
    have hev : ∀ (m : Mem) (x : Operand), ({ s with m := m } : St).ev x = s.ev x := fun m x => by cases x <;> rfl
    by_cases hc : ∃ ti e te, tinfo P t = some ti ∧ ti.cls = .slice e ∧ tinfo P e = some te ∧ 0 < te.size ∧ len * te.size ≤ 16777216 ∧
      parts.toList.map (·.1) = List.range len ∧ ((parts.toList.map fun (p : Nat × Operand) => s.ev p.2).all fun v => v.cells.length == te.size && v.cells.all AV.one) = true
    · obtain ⟨ti, e, te, c1, c2, c3, c4, c5, c6, c7⟩ := hc
      refine ⟨True, .sl te.size (parts.toList.map fun (p : Nat × Operand) => s.ev p.2), fun m k => ?_⟩
      unfold eff
      simp only [ho, hd, h, if_true, hev, true_and]
      constructor
      · rintro ⟨ti', e', te', d1, d2, d3, d4, d5, d6, d7, d8⟩
        rw [c1] at d1; cases d1
        rw [c2] at d2; cases d2
        rw [c3] at d3; cases d3
        exact d8
      · intro hk
        exact ⟨ti, e, te, c1, c2, c3, c4, c5, c6, c7, hk⟩
    · refine ⟨False, .any, fun m k => ⟨fun hk => ?_, fun hk => hk.1.elim⟩⟩
      unfold eff at hk
      simp only [ho, hd, h, if_true, hev] at hk
      obtain ⟨ti, e, te, d1, d2, d3, d4, d5, d6, d7, d8⟩ := hk
      exact absurd ⟨ti, e, te, d1, d2, d3, d4, d5, d6, d7⟩ hc
  · cases h
theorem virt_effG {o : Oper} (h : virtB cf.ro o = true) (s : St) : ∃ (C : Prop) (v : AV), ∀ (m : Mem) (k : AV → Mem → Prop), effG P cf ops o { s with m := m } k ↔ C ∧ k v m := by
  rcases effG_cases (P := P) (cf := cf) (ops := ops) o s with c | c | c
  · obtain ⟨C, v, e⟩ := virt_eff (P := P) h s
    exact ⟨C, v, fun m k => (c m k).trans (e m k)⟩
  · exact ⟨True, .tup [], fun m k => by rw [c]; simp⟩
  · exact ⟨False, .any, fun m k => ⟨fun hk => (c m k hk).elim, fun hk => hk.1.elim⟩⟩
theorem swap_virt {o1 o2 : Oper} (h1 : virtB cf.ro o1 = true) (s : St) (m0 : Mem) (k : AV → AV → Mem → Prop)
    (h : effG P cf ops o1 { s with m := m0 } fun v1 m1 => effG P cf ops o2 { s with m := m1 } fun v2 m2 => k v1 v2 m2) :
    effG P cf ops o2 { s with m := m0 } fun v2 m2 => effG P cf ops o1 { s with m := m2 } fun v1 m1 => k v1 v2 m1 := by
  obtain ⟨C, v, e⟩ := virt_effG (P := P) (ops := ops) h1 s
  rw [e] at h
  exact effG_mono (fun v2 m2 hk => (e m2 _).2 ⟨h.1, hk⟩) h.2
/-- May j (ahead of i in the plan) be passed by i? -/
def passesV (P : Program) (ro : Nat → Bool) (q : Seps) (ops : Array Oper) (j i : Nat) : Bool :=
  match ops[j]?, ops[i]? with
  | some oj, some oi => oj.apart ops oi && ((klass oj).comm (klass oi) && (klass oj != .z || zOk P ro oj) && (klass oi != .z || zOk P ro oi) || sepOp q oj oi || virtB ro oj)
  | _, _ => false
theorem frontV (hdm : cf.dm = true) {q : Seps} {blk : Nat → Nat} (hdst : ∀ (i : Nat) (o : Oper), ops[i]? = some o → dstSep q o = true) {i : Nat} {K : St → Prop} : ∀ (R1 R2 : List Nat) (s : St), SepOk q blk cf.av s → (∀ j ∈ R1, passesV P cf.ro q ops j i = true) → aopsI P cf ops (R1 ++ i :: R2) K s → aopsI P cf ops (i :: (R1 ++ R2)) K s
  | [], R2, s, _, _, h => h
  | j :: R1, R2, s, hsep, hp, h => by
    have hj := hp j (by simp)
    unfold passesV at hj
    simp only [List.cons_append] at h ⊢
    unfold aopsI at h
    split at h
    · rename_i oj hoj
      simp only [hoj] at hj
      cases hoi : ops[i]? with
      | none => simp [hoi] at hj
      | some oi =>
        simp only [hoi, Bool.and_eq_true, Bool.or_eq_true, bne_iff_ne] at hj
        obtain ⟨p1, p2⟩ := hj
        have h2 : astep P cf ops oj (astep P cf ops oi (aopsI P cf ops (R1 ++ R2) K)) s := by
          refine effG_mono (fun v m hk => ?_) (hsep.step (hdst j oj hoj) h)
          have := frontV hdm hdst R1 R2 _ hk.1 (fun j' hj' => hp j' (by simp [hj'])) hk.2
          unfold aopsI at this
          simpa only [hoi] using this
        have h3 : astep P cf ops oi (astep P cf ops oj (aopsI P cf ops (R1 ++ R2) K)) s := by
          rcases p2 with (⟨⟨p2, p3⟩, p4⟩ | p2) | p2
          · exact swap_step hdm p1 p2 (fun e => p3.resolve_left (fun h => h e)) (fun e => p4.resolve_left (fun h => h e)) h2
          · exact step_of_eff p1 (fun k hk => swap_sep hdm p2 hsep s.m k hk) h2
          · exact step_of_eff p1 (fun k hk => swap_virt p2 s s.m k hk) h2
        unfold aopsI
        simp only [hoi]
        refine effG_mono (fun v m hk => ?_) h3
        unfold aopsI
        simpa only [hoj] using hk
    · exact h.elim
/-- The plan is in order. -/
def planOkV (P : Program) (ro : Nat → Bool) (q : Seps) (ops : Array Oper) (plan : List Nat) : Bool :=
  ops.toList.all (dstSep q) && (
  (List.range ops.size).all (fun i => plan.contains i) && plan.all (fun i => Nat.blt i ops.size) && decide (plan.Nodup ∧ plan.length ≤ ops.size) &&
  (plan.zipIdx.all fun (i, k) => (plan.take k).all fun j => !reach ops ops.size j i && (reach ops ops.size i j || passesV P ro q ops j i)) &&
  ops.toList.zipIdx.all fun (o, i) => o.after.toList.all fun e => !Region.binds .any e || (Nat.blt e.on ops.size && e.on != i))
theorem any_of_planV (hdm : cf.dm = true) {q : Seps} {blk : Nat → Nat} {plan : List Nat} (hp : planOkV P cf.ro q ops plan = true) {K : St → Prop} : ∀ (fuel : Nat) (listed : Array Bool) (s : St), SepOk q blk cf.av s → listed.size = ops.size → closedL ops listed →
    (plan.filter fun i => !listed.getD i true).length ≤ fuel → aopsI P cf ops (plan.filter fun i => !listed.getD i true) K s → aAny P cf ops K fuel listed s := by
  unfold planOkV at hp
  simp only [Bool.and_eq_true] at hp
  obtain ⟨p0, ⟨⟨⟨p1, p2⟩, p3⟩, p4⟩, p5⟩ := hp
  have hdst : ∀ (i : Nat) (o : Oper), ops[i]? = some o → dstSep q o = true := fun i o ho => List.all_eq_true.1 p0 o (List.mem_of_getElem? (by rw [Array.getElem?_toList]; exact ho))
  have hnd : plan.Nodup := (of_decide_eq_true p3).1
  have hall : ∀ i, i < ops.size → i ∈ plan := fun i hi => by
    have := List.all_eq_true.1 p1 i (List.mem_range.2 hi)
    simpa using this
  have hlt : ∀ i ∈ plan, i < ops.size := fun i hi => by
    have := List.all_eq_true.1 p2 i hi
    simpa [Nat.blt_eq] using this
  have hpair : ∀ R1 R2 i, plan = R1 ++ i :: R2 → ∀ j ∈ R1, reach ops ops.size j i = false ∧ (reach ops ops.size i j = true ∨ passesV P cf.ro q ops j i = true) := by
    intro R1 R2 i hpl j hj
    have h1 := List.all_eq_true.1 p4 (i, R1.length) (by
      rw [List.mem_iff_getElem?]
      refine ⟨R1.length, ?_⟩
      rw [List.getElem?_zipIdx, hpl]
      simp)
    have h2 := List.all_eq_true.1 h1 j (by simp [hpl, hj])
    simpa using h2
  have hedge : ∀ i o, ops[i]? = some o → ∀ e ∈ o.after.toList, Region.binds .any e = true → e.on < ops.size ∧ e.on ≠ i := by
    intro i o ho e he hb
    have h1 := List.all_eq_true.1 p5 (o, i) (by
      rw [List.mem_iff_getElem?]
      refine ⟨i, ?_⟩
      rw [List.getElem?_zipIdx, Array.getElem?_toList, ho]
      simp)
    have h2 := List.all_eq_true.1 h1 e he
    simpa [hb, Nat.blt_eq] using h2
  -- with nothing ready all has been done
  have hdone : ∀ (listed : Array Bool), listed.size = ops.size → Region.ready .any ops listed = [] → (plan.filter fun i => !listed.getD i true) = [] := by
    intro listed hsz hr
    cases hf : plan.filter fun i => !listed.getD i true with
    | nil => rfl
    | cons h rest =>
      exfalso
      have hmem : h ∈ plan.filter fun i => !listed.getD i true := by rw [hf]; simp
      have hh := List.mem_filter.1 hmem
      have hready : h ∈ Region.ready .any ops listed := by
        rw [mem_ready]
        refine ⟨hlt h hh.1, by simpa using hh.2, fun o ho e he hb => ?_⟩
        obtain ⟨e1, e2⟩ := hedge h o ho e he hb
        -- what is needed stands ahead in the plan
        cases hl : listed.getD e.on false with
        | true => rfl
        | false =>
          exfalso
          have hl' : listed.getD e.on true = false := by
            rw [Array.getD_eq_getD_getElem?, Array.getElem?_eq_getElem (by rw [hsz]; exact e1)] at hl ⊢
            exact hl
          have hin : e.on ∈ plan.filter fun i => !listed.getD i true := List.mem_filter.2 ⟨hall _ e1, by simp [hl']⟩
          rw [hf] at hin
          have hin2 : e.on ∈ rest := by
            rcases List.mem_cons.1 hin with q | q
            · exact absurd q e2
            · exact q
          -- h stands ahead of e.on in the plan, yet needs it
          obtain ⟨A, B, hAB⟩ := List.append_of_mem hin2
          have hsub : List.Sublist (h :: e.on :: []) plan := by
            have s1 : List.Sublist (h :: e.on :: []) (h :: rest) := by
              rw [hAB]
              exact List.Sublist.cons_cons h ((List.Sublist.cons_cons e.on (List.nil_sublist B)).trans (List.sublist_append_right A _))
            rw [← hf] at s1
            exact s1.trans List.filter_sublist
          obtain ⟨R1, R2, q1⟩ := List.append_of_mem (hall _ e1)
          have hin1 : h ∈ R1 := by
            rw [q1] at hsub hnd
            have := hnd
            rw [List.nodup_append] at this
            obtain ⟨n1, n2, n3⟩ := this
            rcases List.sublist_append_iff.1 hsub with ⟨l1, l2, hl12, s1, s2⟩
            cases l1 with
            | cons x xs =>
              have : x = h := by simp at hl12; exact hl12.1.symm
              subst this
              exact s1.subset (by simp)
            | nil =>
              simp at hl12
              subst hl12
              have hn2 := List.nodup_cons.1 n2
              rcases List.sublist_cons_iff.1 s2 with s3 | ⟨r, hr', s3⟩
              · exact absurd (s3.subset (by simp)) hn2.1
              · simp at hr'
                obtain ⟨hh1, hh2⟩ := hr'
                exact absurd hh1.symm (by intro q; exact e2 q)
          have := (hpair R1 R2 e.on q1 h hin1).1
          have hreach : reach ops ops.size h e.on = true := by
            have hpos : 0 < ops.size := by omega
            obtain ⟨f, hf'⟩ : ∃ f, ops.size = f + 1 := ⟨ops.size - 1, by omega⟩
            rw [hf']
            unfold reach
            rw [ho]
            simp only [Bool.or_eq_true, List.any_eq_true]
            exact .inl ⟨e, he, by simp [hb]⟩
          rw [hreach] at this
          cases this
      rw [hr] at hready
      cases hready
  intro fuel
  induction fuel with
  | zero =>
    intro listed s hsep hsz hc hle hk
    have hnil : (plan.filter fun i => !listed.getD i true) = [] := List.eq_nil_of_length_eq_zero (by omega)
    refine ⟨?_, by rw [hnil] at hk; exact hk⟩
    cases hr : Region.ready .any ops listed with
    | nil => rfl
    | cons i rest =>
      exfalso
      have hi : i ∈ Region.ready .any ops listed := by rw [hr]; simp
      rw [mem_ready] at hi
      have : i ∈ plan.filter fun i => !listed.getD i true := List.mem_filter.2 ⟨hall i hi.1, by simp [hi.2.1]⟩
      rw [hnil] at this
      cases this
  | succ fuel ih =>
    intro listed s hsep hsz hc hle hk
    refine ⟨fun hr => by rw [hdone listed hsz hr] at hk; exact hk, fun i hi => ?_⟩
    have hi' := mem_ready.1 hi
    have hin : i ∈ plan.filter fun i => !listed.getD i true := List.mem_filter.2 ⟨hall i hi'.1, by simp [hi'.2.1]⟩
    obtain ⟨R1, R2, hR⟩ := List.append_of_mem hin
    have hpass : ∀ j ∈ R1, passesV P cf.ro q ops j i = true := by
      intro j hj
      have hjf : j ∈ plan.filter fun i => !listed.getD i true := by rw [hR]; simp [hj]
      have hjl := List.mem_filter.1 hjf
      -- j stands ahead of i in the plan
      have hsub : List.Sublist (j :: i :: []) plan := by
        have s1 : List.Sublist (j :: i :: []) (R1 ++ i :: R2) := by
          obtain ⟨A, B, hAB⟩ := List.append_of_mem hj
          rw [hAB, List.append_assoc]
          refine List.Sublist.trans ?_ (List.sublist_append_right A _)
          exact List.Sublist.cons_cons j ((List.Sublist.cons_cons i (List.nil_sublist R2)).trans (List.sublist_append_right B _))
        rw [← hR] at s1
        exact s1.trans List.filter_sublist
      have hij : j ≠ i := by
        have hndf : (plan.filter fun i => !listed.getD i true).Nodup := List.Nodup.sublist List.filter_sublist hnd
        rw [hR, List.nodup_append] at hndf
        exact fun e => hndf.2.2 j hj i (by simp) e
      obtain ⟨Q1, Q2, q1⟩ := List.append_of_mem (hall i hi'.1)
      have hin1 : j ∈ Q1 := by
        have hnd' := hnd
        rw [q1] at hsub hnd'
        rw [List.nodup_append] at hnd'
        obtain ⟨n1, n2, n3⟩ := hnd'
        rcases List.sublist_append_iff.1 hsub with ⟨l1, l2, hl12, s1, s2⟩
        cases l1 with
        | cons x xs =>
          have : x = j := by simp at hl12; exact hl12.1.symm
          subst this
          exact s1.subset (by simp)
        | nil =>
          simp at hl12
          subst hl12
          have hn2 := List.nodup_cons.1 n2
          rcases List.sublist_cons_iff.1 s2 with s3 | ⟨r, hr', s3⟩
          · exact absurd (s3.subset (by simp)) hn2.1
          · simp at hr'
            exact absurd hr'.1 hij
      rcases (hpair Q1 Q2 i q1 j hin1).2 with hreach | hp
      · have := reach_listed hsz hc ops.size i j hi'.2.2 hreach
        have hjs : j < listed.size := by rw [hsz]; exact hlt j hjl.1
        rw [Array.getD_eq_getD_getElem?, Array.getElem?_eq_getElem hjs] at this
        have h2 := hjl.2
        rw [Array.getD_eq_getD_getElem?, Array.getElem?_eq_getElem hjs] at h2
        simp at this h2
        rw [this] at h2
        cases h2
      · exact hp
    rw [hR] at hk
    have hfront := frontV hdm hdst R1 R2 s hsep hpass hk
    unfold aopsI at hfront
    cases hoi : ops[i]? with
    | none => simp [hoi] at hfront
    | some o =>
      simp only [hoi] at hfront ⊢
      refine effG_mono (fun v m hk3 => ?_) (hsep.step (hdst i o hoi) hfront)
      have hk2 := hk3.2
      have hil : i < listed.size := by rw [hsz]; exact hi'.1
      have hfil : (plan.filter fun j => !(listed.setIfInBounds i true).getD j true) = R1 ++ R2 := by
        have e1 : (plan.filter fun j => !(listed.setIfInBounds i true).getD j true) = (plan.filter fun j => !listed.getD j true).filter fun j => j != i := by
          rw [List.filter_filter]
          refine List.filter_congr fun j _ => ?_
          rw [setIf_getD hil]
          by_cases h : j = i <;> simp [h]
        have hndf : (plan.filter fun i => !listed.getD i true).Nodup := List.Nodup.sublist List.filter_sublist hnd
        rw [e1, hR]
        rw [hR, List.nodup_append] at hndf
        obtain ⟨n1, n2, n3⟩ := hndf
        rw [List.filter_append, List.filter_cons]
        have f1 : R1.filter (fun j => j != i) = R1 := List.filter_eq_self.2 fun j hj => by
          have := n3 j hj i (by simp)
          simpa using this
        have f2 : R2.filter (fun j => j != i) = R2 := List.filter_eq_self.2 fun j hj => by
          have := (List.nodup_cons.1 n2).1
          have hne : j ≠ i := fun e => this (e ▸ hj)
          simpa using hne
        rw [f1, f2]
        simp
      refine ih _ _ hk3.1 (by simpa using hsz) (fun i' o' ho' hl' e he hb => ?_) (by rw [hfil]; rw [hR] at hle; simp at hle ⊢; omega) (by rw [hfil]; exact hk2)
      rw [setIf_getD hil] at hl' ⊢
      by_cases h1 : e.on = i
      · rw [if_pos h1]
      · rw [if_neg h1]
        by_cases h2 : i' = i
        · subst h2
          rw [hoi] at ho'
          cases ho'
          exact hi'.2.2 o hoi e he hb
        · rw [if_neg h2] at hl'
          exact hc i' o' ho' hl' e he hb
theorem AW.drawV {Q : Exit → St → Prop} {s : St} {id : Nat} {ops : Array Oper} (ro : Nat → Bool) (q : Seps) (blk : Nat → Nat) (av : Nat → Prop) (hsep : SepOk q blk av s) (plan : List Nat) (hm : P.follows .mixedOrders = true) (hok : regionOk s.n ops = true) (hp : planOkV P ro q ops plan = true)
    (hav : ∀ b, av b → s.m b ≠ none) (h : aopsI P ⟨ro, av, true⟩ ops plan (Q .normal) s) : AW P (.region id ops true) Q s := by
  intro F G w0 a w hr
  refine wp_region_any hm ?_
  have hok' : ∀ i o, ops[i]? = some o → (opOk s.n o && grdOk ops s.n o) = true := fun i o ho => by
    unfold regionOk at hok
    exact List.all_eq_true.1 hok o (List.mem_of_getElem? (by rw [Array.getElem?_toList]; exact ho))
  have hfil : (plan.filter fun i => !(Array.replicate ops.size false).getD i true) = plan := by
    refine List.filter_eq_self.2 fun i hi => ?_
    have hlt : i < ops.size := by
      unfold planOkV at hp
      simp only [Bool.and_eq_true] at hp
      have := List.all_eq_true.1 hp.2.1.1.1.2 i hi
      simpa [Nat.blt_eq] using this
    simp [hlt]
  have hlen : plan.length ≤ ops.size := by
    unfold planOkV at hp
    simp only [Bool.and_eq_true] at hp
    exact (of_decide_eq_true hp.2.1.1.2).2
  have hany : aAny P ⟨ro, av, true⟩ ops (Q .normal) ops.size (Array.replicate ops.size false) s := by
    have hcl : closedL ops (Array.replicate ops.size false) := fun i o ho hl e he hb => by
      have hi : i < ops.size := (Array.getElem?_eq_some_iff.1 ho).1
      rw [Array.getD_eq_getD_getElem?, Array.getElem?_replicate, if_pos hi] at hl
      cases hl
    refine any_of_planV (cf := ⟨ro, av, true⟩) rfl hp ops.size _ s hsep Array.size_replicate hcl ?_ ?_
    · rw [hfil]; exact hlen
    · rw [hfil]; exact h
  have hav' : ∀ b, av b → b < w.heap.size := fun b hb => hr.lt (hav b hb)
  have hd : Rel F G w0 s a { w with drawn := w.drawn + 1 } := hr.drew
  exact aAny_sound (F := F) (G := G) (w0 := w0) (cf := ⟨ro, av, true⟩) s.n w.heap.size hav' (fun a w h => h) hok' ops.size _ s a { w with drawn := w.drawn + 1 } (Nat.le_refl _) rfl hd hany
theorem AW.rdV {Q : Exit → St → Prop} {s : St} {id : Nat} {ops : Array Oper} (ro : List Nat) (plan : List Nat) (hm : P.follows .mixedOrders = true) (h : aopsI P ⟨roL ro, fun _ => False, true⟩ ops plan (Q .normal) s)
    (hok : regionOk s.n ops = true := by kernel_rfl) (hp : planOkV P (roL ro) Seps.no ops plan = true := by kernel_rfl) : AW P (.region id ops true) Q s :=
  AW.drawV (roL ro) Seps.no (fun r => r) (fun _ => False) ⟨fun _ h => (by cases h), fun _ _ h => (by cases h), fun _ h => (by cases h), fun _ h => (by cases h)⟩ plan hm hok hp (fun _ h => h.elim) h
end
end Go.Av
end
section
namespace Go.Av
open Go.Proofs
theorem CopM.push0 {r : List RR} {b' B : Nat} (hB : (Mem.emp.set b' ⟨36, 4, rrs r⟩) B = none) : CopM ((Mem.emp.set b' ⟨36, 4, rrs r⟩).set B ⟨42, 1, [.osl b' 4 0 r.length]⟩) (.osl B 1 0 1) [b'] [r] := by
  have hBb : B ≠ b' := by rintro rfl; simp at hB
  refine .inr ⟨B, rfl, ?_, ?_⟩
  · exact MatM.snoc (bs := []) (rows := []) rfl (by simp [hdrs]) (fun i hi => (by cases hi)) (by simp [Ne.symm hBb]) List.nodup_nil (by simp) (by simp) hBb
  · exact (OnlyM.set (OnlyM.set (l := [B, b']) (fun k hk => absurd rfl hk) (by simp) _) (by simp) _)
theorem CopM.push1 {M : Mem} {B B1 b' : Nat} {bs : List Nat} {rows : List (List RR)} {r : List RR} (z2 : MatM M B bs rows) (z3 : OnlyM M (B :: bs)) (hb' : M b' = none) (hB1 : ((M.set b' ⟨36, 4, rrs r⟩).del B) B1 = none) :
    CopM (((M.set b' ⟨36, 4, rrs r⟩).del B).set B1 ⟨42, 1, hdrs bs rows ++ [.osl b' 4 0 r.length]⟩) (.osl B1 1 0 (rows.length + 1)) (bs ++ [b']) (rows ++ [r]) := by
  have n1 : B ≠ b' := by rintro rfl; rw [z2.top] at hb'; cases hb'
  have hl : bs.length = rows.length := z2.len
  refine .inr ⟨B1, by simp, ?_, ?_⟩
  · have hbn : b' ∉ bs := by
      intro hm'
      obtain ⟨k, hk, e⟩ := List.mem_iff_getElem.1 hm'
      rw [← nb_eq hk] at e
      have := z2.row k (by rw [← hl]; exact hk)
      rw [e, hb'] at this; cases this
    have hrow : ∀ k, k < rows.length → (((M.set b' ⟨36, 4, rrs r⟩).del B) (nb bs k)) = some ⟨36, 4, rrs (mrow rows k)⟩ := by
      intro k hk
      have q1 : nb bs k ≠ B := z2.ne hk
      have q2 : nb bs k ≠ b' := fun e => hbn (e ▸ nb_mem (by rw [hl]; exact hk))
      show (if nb bs k = B then none else (M.set b' _) (nb bs k)) = _
      rw [if_neg q1, Mem.set_other _ _ q2]
      exact z2.row k hk
    have hbv : ((M.set b' ⟨36, 4, rrs r⟩).del B) b' = some ⟨36, 4, rrs r⟩ := by
      show (if b' = B then none else (M.set b' _) b') = _
      rw [if_neg (Ne.symm n1), Mem.set_same]
    have hne : ∀ k y, ((M.set b' ⟨36, 4, rrs r⟩).del B) k = some y → k ≠ B1 := by
      rintro k y hk rfl
      rw [hB1] at hk; cases hk
    refine MatM.snoc hl (by simp) (fun k hk => ?_) ?_ z2.nd hbn ?_ ?_
    · rw [Mem.set_other _ _ (hne _ _ (hrow k hk))]; exact hrow k hk
    · rw [Mem.set_other _ _ (hne _ _ hbv)]; exact hbv
    · intro hm'
      obtain ⟨k, hk, e⟩ := List.mem_iff_getElem.1 hm'
      rw [← nb_eq hk] at e
      exact hne _ _ (hrow k (by rw [← hl]; exact hk)) e
    · exact Ne.symm (hne _ _ hbv)
  · intro k hk
    simp only [set_at] at hk
    by_cases k1 : k = B1
    · simp [k1]
    · rw [if_neg k1] at hk
      have hk2 : (if k = B then none else (M.set b' ⟨36, 4, rrs r⟩) k) ≠ none := hk
      by_cases k2 : k = B
      · rw [if_pos k2] at hk2; exact absurd rfl hk2
      · rw [if_neg k2] at hk2
        by_cases k3 : k = b'
        · simp [k3]
        · rw [Mem.set_other _ _ k3] at hk2
          have := z3 k hk2
          simp [k2] at this
          simp [this]
def wdL (m : List (List RR)) (b : List RR) (i : Nat) : List (List RR) := (List.range i).map fun k => mrow m k ++ [rr b k]
theorem wdL_succ (m : List (List RR)) (b : List RR) (i : Nat) : wdL m b (i + 1) = wdL m b i ++ [mrow m i ++ [rr b i]] := by unfold wdL; rw [List.range_succ, List.map_append]; rfl
theorem wdL_length (m : List (List RR)) (b : List RR) (i : Nat) : (wdL m b i).length = i := by simp [wdL]
def colQ (x : List Rat) (i : Nat) : List (List Rat) := (List.range i).map fun k => [qat x k]
theorem colQ_succ (x : List Rat) (i : Nat) : colQ x (i + 1) = colQ x i ++ [[qat x i]] := by unfold colQ; rw [List.range_succ, List.map_append]; rfl
theorem CopM.view {M : Mem} {ov : AV} {bs : List Nat} {rows : List (List RR)} (h : CopM M ov bs rows) : View M Mem.emp ov (matAV rows) := by
  rcases h with ⟨rfl, _, rfl, _⟩ | ⟨B, rfl, z2, _⟩
  · exact .nilsl 1
  · exact z2.view
theorem sol_facts {m : List (List RR)} {b : List RR} {is : Bool} {x : List Rat} (hm : LbM m) (hb : ∀ x ∈ b, x.Lb) (h : solR m b = (0, is, x)) : ∃ (X : List (List Rat)) (bq : List Rat) (n w : Nat), m = emb X ∧ b = bq.map ofQ ∧ matGood n w X ∧ rowGood bq ∧ bq.length = n ∧ (mrow X 0).length = w ∧ n ≤ 64 ∧ w < 64 ∧
    ∃ Z qs, reduceQ (wideQ X bq) = some (Z, qs) ∧ ((w ∈ qs ∧ is = false ∧ x = []) ∨ (w ∉ qs ∧ is = true ∧ x = solV Z qs w)) := by
  unfold solR at h
  by_cases h0 : chk m = 0
  · rw [if_neg (by simp [h0])] at h
    by_cases h1 : b.length = m.length
    · rw [if_neg (by simp [h1])] at h
      by_cases h2 : okV b
      · rw [if_neg (by simp [h2])] at h
        by_cases h3 : (mrow m 0).length = 64
        · rw [if_pos h3] at h; cases h
        · rw [if_neg h3] at h
          obtain ⟨a1, a2, a3, a4, a5⟩ := chk_emb hm h0
          obtain ⟨b1, b2⟩ := okV_emb hb h2
          have hw : (mrow m 0).length = (mrow (unq m) 0).length := by rw [unq_row, List.length_map]
          rw [hw] at h h3
          refine ⟨unq m, b.map RR.q, m.length, _, a1, b1, ⟨a2, a3, unq_length m⟩, b2, by rw [List.length_map, h1], rfl, a4, by omega, ?_⟩
          cases hq : reduceQ (wideQ (unq m) (b.map RR.q)) with
          | none => rw [hq] at h; cases h
          | some z =>
            rw [hq] at h
            refine ⟨z.1, z.2, rfl, ?_⟩
            simp only at h
            by_cases h4 : (mrow (unq m) 0).length ∈ z.2
            · rw [if_pos h4] at h; cases h; exact .inl ⟨h4, rfl, rfl⟩
            · rw [if_neg h4] at h; cases h; exact .inr ⟨h4, rfl, rfl⟩
      · rw [if_pos h2] at h; cases h
    · rw [if_pos h1] at h; cases h
  · rw [if_pos h0] at h
    simp only [Prod.mk.injEq] at h
    exact absurd h.1 h0
theorem wdL_emb {X : List (List Rat)} {bq : List Rat} (hl : bq.length = X.length) : wdL (emb X) (bq.map ofQ) X.length = emb (wideQ X bq) := by
  have hW : (wideQ X bq).length = X.length := wideP_length X bq _
  apply List.ext_getElem
  · rw [wdL_length, emb_length, hW]
  · intro k h1 h2
    rw [wdL_length] at h1
    have e : (wideQ X bq)[k]'(by rw [hW]; exact h1) = mrow X k ++ [qat bq k] := by
      rw [← mrow_eq]
      unfold wideQ
      rw [wideP_row X bq k h1 _ (Nat.le_refl _), if_pos h1]
    simp only [wdL, List.getElem_map, List.getElem_range]
    rw [emb_row, rr_map (by omega)]
    simp only [emb, List.getElem_map]
    rw [e, List.map_append]
    rfl
theorem colQ_row {x : List Rat} {i k : Nat} (h : k < i) : mrow (colQ x i) k = [qat x k] := by
  unfold mrow colQ
  rw [List.getD_eq_getElem?_getD, List.getElem?_map, List.getElem?_range h]; rfl
theorem colQ_good {x : List Rat} (hx : rowGood x) : matGood x.length 1 (colQ x x.length) := by
  have hl : (colQ x x.length).length = x.length := by simp [colQ]
  refine ⟨fun r hr => ?_, fun k hk => ?_, hl⟩
  · unfold colQ at hr
    obtain ⟨k, hk, rfl⟩ := List.mem_map.1 hr
    intro q hq
    simp at hq
    subst hq
    exact hx.at (by simpa using hk)
  · rw [hl] at hk
    rw [colQ_row hk]; rfl
theorem wide_redR {X Z : List (List Rat)} {bq : List Rat} {n w : Nat} {qs : List Nat} (hX : matGood n w X) (hbq : rowGood bq) (hbl : bq.length = n) (hn' : n ≤ 64) (hw' : w < 64) (hq : reduceQ (wideQ X bq) = some (Z, qs)) : redR (emb (wideQ X bq)) = (0, Z, qs) := by
  have hW := wideQ_good hX hbq hbl
  have hWl : (wideQ X bq).length = n := hW.2.2
  have hdm : dimM (wideQ X bq) (mrow (wideQ X bq) 0).length := fun k hk => by
    rw [hWl] at hk
    rw [(hW.row hk).2, (hW.row (show 0 < n by omega)).2]
  have hw65 : (mrow (wideQ X bq) 0).length ≤ 64 := by
    rcases Nat.eq_zero_or_pos n with h | h
    · rw [List.eq_nil_of_length_eq_zero (hWl.trans h)]; simp [mrow]
    · rw [(hW.row h).2]; omega
  rw [redR_emb (chk_good ⟨hW.1, hdm, hWl⟩ rfl hn' hw65), hq]
theorem rank_iff {X Z Y : List (List Rat)} {bq : List Rat} {n w : Nat} {qs ps : List Nat} {is : Bool} (hX : matGood n w X) (hw : (mrow X 0).length = w) (hbq : rowGood bq) (hbl : bq.length = n) (hn' : n ≤ 64) (hw' : w < 64) (hq : reduceQ (wideQ X bq) = some (Z, qs)) (hr : redR (emb X) = (0, Y, ps)) (his : is = true ↔ w ∉ qs) : is = decide (ps.length = qs.length) := by
  have hdec : (w ∉ qs) ↔ ps.length = qs.length := by
    rcases Nat.eq_zero_or_pos n with h | h
    · have hX0 : X = [] := List.eq_nil_of_length_eq_zero (hX.2.2.trans h)
      subst hX0
      have hc := chk_good hX hw hn' (by omega)
      rw [redR_emb hc] at hr
      have e1 : reduceQ [] = some ([], []) := rfl
      rw [e1] at hr
      have e2 : reduceQ (wideQ [] bq) = some ([], []) := rfl
      rw [e2] at hq
      cases hr; cases hq
      simp
    · obtain ⟨Y', ps', f1, f2, f3, _⟩ := red_facts hX hw h hn' (by omega) (by rw [hr])
      rw [f1] at hr
      cases hr
      have := (wide_red hX (wideQ_good hX hbq hbl) h f2 hq).2.2.2
      simp only at this
      rw [this]
      constructor
      · intro h; exact (Decidable.not_not.1 h).symm
      · intro h h2; exact h2 h.symm
  cases is
  · have : ¬ (w ∉ qs) := fun h => by have := his.2 h; cases this
    rw [hdec] at this
    simp [this]
  · have := hdec.1 (his.1 rfl)
    simp [this]
structure WdS where
  M : Mem
  ov : AV
  ob : List Nat
theorem lawSolvable (m : List (List RR)) (b : List RR) (hm : LbM m) (hb : ∀ x ∈ b, x.Lb) : ACall Tryz.prog 14 [matAV m, rowAV b] Mem.emp fun v mm => v = .bool true ∧ mm = Mem.emp := by
  have hla := large_call m hm
  have hck := check2_call m hm
  have hwk := works_call
  have hs := solveL_call m b hm hb
  unfold solOut at hs
  refine acall_S Tryz.func14 rfl rfl 159 rfl (Nat.le_of_ble_eq_true rfl) ?_
  (repeat refine AW.seq_k fun K hK => ?_)
  refine AW.rg ?_
  simp [argsL]
  try (refine hK _ rfl ?_; clear hK; clear K)
  (repeat refine AW.seq_k fun K hK => ?_)
  refine AW.rg ?_
  simp
  try (refine hK _ rfl ?_; clear hK; clear K)
  refine CallK.val hck ?_
  simp
  generalize hL : isLarge m = lg at hla
  by_cases h0 : chk m = 0
  · simp [h0]
    refine CallK.val hla ?_
    cases lg
    · simp
      by_cases hl : b.length = m.length
      · simp [hl]
        refine hK _ rfl ?_
        clear hK
        clear K
        refine AW.no ?_ (by simp [hl])
        refine AW.skip ?_
        try simp
        refine hK _ rfl ?_
        clear hK
        clear K
        obtain ⟨a1, a2, a3, a4, a5⟩ := chk_emb hm h0
        generalize hsz : solR m b = sz at *
        obtain ⟨e, is, x⟩ := sz
        simp only at hs
        by_cases he : e = 0
        · subst he
          (repeat refine AW.seq_k fun K hK => ?_)
          refine AW.rg ?_
          simp
          try (refine hK _ rfl ?_; clear hK; clear K)
          refine CallK.val hs ?_
          simp
          refine hK _ rfl ?_
          clear hK
          clear K
          (repeat refine AW.seq_k fun K hK => ?_)
          refine AW.rg ?_
          simp
          try (refine hK _ rfl ?_; clear hK; clear K)
          refine AW.no ?_ rfl
          refine AW.skip ?_
          try simp
          refine hK _ rfl ?_
          clear hK
          clear K
          have h2 : ∀ r ∈ m, r.length ≤ 64 := fun r hr => by
            obtain ⟨k, hk, e⟩ := List.mem_iff_getElem.1 hr
            have e2 : mrow m k = r := by rw [mrow_eq hk, e]
            rw [a1] at hk
            rw [emb_length] at hk
            rw [← e2, a1, emb_row, List.length_map, a3 k hk]; exact a5
          (repeat refine AW.seq_k fun K hK => ?_)
          refine AW.rg ?_
          simp
          try (refine hK _ rfl ?_; clear hK; clear K)
          (repeat refine AW.seq_k fun K hK => ?_)
          refine AW.rg ?_
          simp
          try (refine hK _ rfl ?_; clear hK; clear K)
          refine AW.seq_ex (ι := Mem × AV × List Nat) (fun z => [(0, matAV m), (1, rowAV b), (5, rowAV (x.map ofQ)), (6, .bool is), (9, .nil), (8, z.2.1)]) (fun z => z.1) (fun z => CopM z.1 z.2.1 z.2.2 (wdL m b m.length)) ?_ ?_
          · (repeat refine AW.seq_k fun K hK => ?_)
            refine AW.rg ?_
            simp
            try (refine hK _ rfl ?_; clear hK; clear K)
            refine AW.block (AW.loopS (ι := Nat × Mem × AV × List Nat) (fun z => [(0, matAV m), (1, rowAV b), (5, rowAV (x.map ofQ)), (6, .bool is), (9, .nil), (8, z.2.2.1), (10, .int .i64 (z.1 : Nat))]) (fun z => z.2.1) (fun z => z.1 ≤ m.length ∧ CopM z.2.1 z.2.2.1 z.2.2.2 (wdL m b z.1)) (fun z => m.length - z.1) (0, Mem.emp, .nil, []) ⟨by simp, .inl ⟨by simp [wdL], rfl, rfl, rfl⟩⟩ rfl (by simp) ?_)
            rintro ⟨i, M, ov, bs⟩ ⟨g1, g2⟩
            simp only at g1 g2
            (repeat refine AW.seq_k fun K hK => ?_)
            refine AW.rg ?_
            simp
            try (refine hK _ rfl ?_; clear hK; clear K)
            (repeat refine AW.seq ?_)
            refine AW.cs (fun hi => ?_) (fun hi => ?_) rfl <;> (try simp at hi)
            · refine AW.skip ?_
              try simp
              refine hK _ rfl ?_
              clear hK
              clear K
              have w1 : IntKind.i64.wrap ((i + 1 : Nat) : Int) = ((i + 1 : Nat) : Int) := wi (by omega)
              have hmr : mrow m i ∈ m := by rw [mrow_eq hi]; exact List.getElem_mem hi
              have hrl := h2 _ hmr
              have htl := wdL_length m b i
              have hib : i < b.length := by omega
              have hll : (mrow m i ++ [rr b i]).length = (mrow m i).length + 1 := by simp
              have hrr : rrs (mrow m i) ++ [AV.agg [AV.bool (rr b i).n1, lim (rr b i).l1, AV.bool (rr b i).n2, lim (rr b i).l2]] = rrs (mrow m i ++ [rr b i]) := (rrs_snoc _ _).symm
              refine AW.seq_ex (ι := Mem × AV × List Nat) (fun z => [(0, matAV m), (1, rowAV b), (5, rowAV (x.map ofQ)), (6, .bool is), (9, .nil), (8, z.2.1), (10, .int .i64 (i : Nat))]) (fun z => z.1) (fun z => CopM z.1 z.2.1 z.2.2 (wdL m b (i + 1))) ?_ ?_
              · (repeat refine AW.seq ?_)
                refine AW.block ?_
                rcases g2 with ⟨z1, z2, z3, z4⟩ | ⟨B, z1, z2, z3⟩
                · subst z2 z3 z4
                  rw [z1] at htl
                  simp at htl
                  subst htl
                  refine AW.rdV [62, 64] [0,2,3,4,5,7,8,9,10,11,1,6,12,13,14,15] mix ?_
                  simp [hi, hib]
                  refine Fresh.intro fun b1 _ => ⟨by omega, by unfold maxLen; omega, Fresh.intro fun b2 _ => ⟨by omega, by unfold maxLen; omega, Fresh.intro fun b' _ => ⟨by unfold maxLen; omega, Fresh.intro fun B hB => ⟨[b'], ?_⟩⟩⟩⟩
                  rw [show wdL m b 1 = [mrow m 0 ++ [rr b 0]] from rfl, ← hll, hrr]
                  rw [hrr] at hB
                  exact CopM.push0 hB
                · subst z1
                  rw [htl]
                  refine AW.rdV [62, 64] [0,2,3,4,5,7,8,9,10,11,1,6,12,13,14,15] mix ?_
                  simp [hi, hib, z2.top]
                  refine Fresh.intro fun b1 hb1 => ⟨by omega, by unfold maxLen; omega, ?_⟩
                  rw [del_none hb1]
                  refine Fresh.intro fun b2 hb2 => ⟨by omega, by unfold maxLen; omega, ?_⟩
                  rw [del_none hb2]
                  refine Fresh.intro fun b' hb' => ?_
                  have n1 : B ≠ b' := by rintro rfl; rw [z2.top] at hb'; cases hb'
                  have n2 : B ≠ b1 := by rintro rfl; rw [z2.top] at hb1; cases hb1
                  have n3 : B ≠ b2 := by rintro rfl; rw [z2.top] at hb2; cases hb2
                  have hl' : bs.length = (wdL m b i).length := z2.len
                  refine ⟨hdrs bs (wdL m b i), by rw [if_neg n1, if_neg n3, if_neg n2], by rw [hdrs_length hl', htl], by rw [hdrs_length hl', htl]; omega, by rw [hdrs_length hl', htl]; unfold maxLen; omega, ?_⟩
                  refine Fresh.intro fun B1 hB1 => ⟨bs ++ [b'], ?_⟩
                  rw [hdrs_length hl', wdL_succ, ← hll, hrr]
                  rw [hrr] at hB1
                  exact CopM.push1 z2 z3 hb' hB1
              rintro ⟨M, ov, bs⟩ hs
              (repeat refine AW.seq_k fun K hK => ?_)
              refine AW.rg ?_
              simp [-Int.natCast_add, w1]
              try (refine hK _ rfl ?_; clear hK; clear K)
              exact ⟨i + 1, M, ov, ⟨hi, bs, hs⟩, by omega, rfl, rfl, rfl⟩
            · refine AW.exit ?_
              try simp
              have : i = m.length := by omega
              subst this
              exact ⟨bs, g2⟩
          rintro ⟨M, ov, bs⟩ hcop
          simp only at hcop
          simp only
          obtain ⟨X, bq, n, w, rfl, rfl, hX, hbq, hbl, hw, hn', hw', Z, qs, hq, hor⟩ := sol_facts hm hb hsz
          have hml : (emb X).length = X.length := emb_length X
          have hXl : X.length = n := hX.2.2
          have hvw := hcop.view
          rw [hml, wdL_emb (by rw [hbl, hXl])] at hvw
          have hW := wideQ_good hX hbq hbl
          have hx64 : x.length ≤ 64 := by
            rcases hor with ⟨_, _, e⟩ | ⟨_, _, e⟩
            · rw [e]; simp
            · rw [e, solV_length]; omega
          refine AW.toEmp [(0, matAV (emb X)), (1, rowAV (bq.map ofQ)), (5, rowAV (x.map ofQ)), (6, .bool is), (8, matAV (emb (wideQ X bq))), (9, .nil)] (by simp; exact hvw) ?_
          have hxl : (x.map ofQ).length = x.length := by simp
          refine AW.seq_ex (ι := WdS) (fun s => [(0, matAV (emb X)), (1, rowAV (bq.map ofQ)), (5, rowAV (x.map ofQ)), (6, .bool is), (8, matAV (emb (wideQ X bq))), (9, s.ov)]) (fun s => s.M) (fun s => LstO s.M 42 1 s.ov s.ob ((emb (colQ x x.length)).map rowAV)) ?_ ?_
          · (repeat refine AW.seq_k fun K hK => ?_)
            refine AW.rg ?_
            simp
            try (refine hK _ rfl ?_; clear hK; clear K)
            refine AW.block (AW.loopS (ι := Nat × WdS) (fun z => [(0, matAV (emb X)), (1, rowAV (bq.map ofQ)), (5, rowAV (x.map ofQ)), (6, .bool is), (8, matAV (emb (wideQ X bq))), (9, z.2.ov), (11, .int .i64 (z.1 : Nat))]) (fun z => z.2.M) (fun z => z.1 ≤ x.length ∧ LstO z.2.M 42 1 z.2.ov z.2.ob ((emb (colQ x z.1)).map rowAV)) (fun z => x.length - z.1) (0, ⟨Mem.emp, .nil, []⟩) ⟨by simp, LstO.start _ _⟩ rfl (by simp) ?_)
            rintro ⟨i, M, ov, ob⟩ ⟨g1, g2⟩
            simp only at g1 g2
            simp only
            (repeat refine AW.seq_k fun K hK => ?_)
            refine AW.rg ?_
            simp [hxl]
            try (refine hK _ rfl ?_; clear hK; clear K)
            (repeat refine AW.seq ?_)
            refine AW.cs (fun hi => ?_) (fun hi => ?_) rfl <;> (try simp at hi)
            · refine AW.skip ?_
              try simp
              refine hK _ rfl ?_
              clear hK
              clear K
              have w1 : IntKind.i64.wrap ((i + 1 : Nat) : Int) = ((i + 1 : Nat) : Int) := wi (by omega)
              have e1 : rr (x.map ofQ) i = ofQ (qat x i) := rr_map hi
              have hll : ((emb (colQ x i)).map rowAV).length = i := by rw [List.length_map, emb_length]; simp [colQ]
              have hfin : ∀ s : WdS, LstO s.M 42 1 s.ov s.ob ((emb (colQ x i)).map rowAV ++ [rowAV ([qat x i].map ofQ)]) → LstO s.M 42 1 s.ov s.ob ((emb (colQ x (i + 1))).map rowAV) := by
                intro s h2
                rw [colQ_succ, show (emb (colQ x i ++ [[qat x i]])).map rowAV = (emb (colQ x i)).map rowAV ++ [rowAV ([qat x i].map ofQ)] by simp [emb]]
                exact h2
              generalize (emb (colQ x i)).map rowAV = l at *
              refine AW.seq_ex (ι := WdS) (fun s => [(0, matAV (emb X)), (1, rowAV (bq.map ofQ)), (5, rowAV (x.map ofQ)), (6, .bool is), (8, matAV (emb (wideQ X bq))), (9, s.ov), (11, .int .i64 (i : Nat))]) (fun s => s.M) (fun s => LstO s.M 42 1 s.ov s.ob ((emb (colQ x (i + 1))).map rowAV)) ?_ ?_
              · (repeat refine AW.seq ?_)
                refine AW.block ?_
                rcases g2.lst with ⟨z1, z2, z3⟩ | ⟨b0, z2, z3, z4⟩
                · subst z1 z2 z3
                  (repeat refine AW.seq_k fun K hK => ?_)
                  refine AW.rgR [77,78] ?_
                  simp [hi, hxl, e1]
                  try (refine hK _ rfl ?_; clear hK; clear K)
                  exact ⟨by unfold maxLen; omega, Fresh.intro fun b' _ => ⟨⟨_, _, [b']⟩, hfin _ (g2.push0 b' _), rfl, rfl⟩⟩
                · subst z2 z3
                  (repeat refine AW.seq_k fun K hK => ?_)
                  refine AW.rgR [77,78] ?_
                  simp [hi, hxl, e1, z4]
                  try (refine hK _ rfl ?_; clear hK; clear K)
                  exact ⟨by omega, by unfold maxLen; omega, Fresh.intro fun b' _ => ⟨⟨_, _, [b']⟩, hfin _ (g2.push1 b' _), rfl, rfl⟩⟩
              rintro ⟨M, ov, ob⟩ hs
              (repeat refine AW.seq_k fun K hK => ?_)
              refine AW.rg ?_
              simp [-Int.natCast_add, w1]
              try (refine hK _ rfl ?_; clear hK; clear K)
              exact ⟨i + 1, ⟨M, ov, ob⟩, ⟨hi, hs⟩, by omega, by simp⟩
            · refine AW.exit ?_
              try simp
              have : i = x.length := by omega
              subst this
              exact ⟨⟨M, ov, ob⟩, g2, by simp⟩
          rintro ⟨M, ov, ob⟩ hcol
          simp only at hcol
          simp only
          have hvc := hcol.lst.view (M' := Mem.emp) (fun _ _ => rfl)
          refine AW.toEmp [(0, matAV (emb X)), (1, rowAV (bq.map ofQ)), (5, rowAV (x.map ofQ)), (6, .bool is), (8, matAV (emb (wideQ X bq))), (9, matAV (emb (colQ x x.length)))] (by simp; exact hvc) ?_
          have hr1 := rankL_call (emb X) (lb_emb X)
          have hr2 := rankL_call (emb (wideQ X bq)) (lb_emb _)
          rw [wide_redR hX hbq hbl hn' hw' hq] at hr2
          generalize hzr : redR (emb X) = zr at *
          obtain ⟨e1, Y, ps⟩ := zr
          simp only at hr1 hr2
          (repeat refine AW.seq_k fun K hK => ?_)
          refine AW.rg ?_
          simp
          try (refine hK _ rfl ?_; clear hK; clear K)
          refine CallK.val hr1 ?_
          simp
          refine hK _ rfl ?_
          clear hK
          clear K
          (repeat refine AW.seq_k fun K hK => ?_)
          refine AW.rg ?_
          simp
          try (refine hK _ rfl ?_; clear hK; clear K)
          refine CallK.val hr2 ?_
          simp
          refine hK _ rfl ?_
          clear hK
          clear K
          by_cases he1 : e1 = 0
          · subst he1
            have his : is = true ↔ w ∉ qs := by
              rcases hor with ⟨h1, h2, _⟩ | ⟨h1, h2, _⟩
              · rw [h2]; simp [h1]
              · rw [h2]; simp [h1]
            have hdec := rank_iff hX hw hbq hbl hn' hw' hq hzr his
            have hdec2 : (is == decide (ps.length = qs.length)) = true := beq_iff_eq.2 hdec
            (repeat refine AW.seq_k fun K hK => ?_)
            refine AW.rg ?_
            simp
            try (refine hK _ rfl ?_; clear hK; clear K)
            refine AW.no ?_ rfl
            refine AW.skip ?_
            try simp
            refine hK _ rfl ?_
            clear hK
            clear K
            (repeat refine AW.seq_k fun K hK => ?_)
            refine AW.rg ?_
            simp
            try (refine hK _ rfl ?_; clear hK; clear K)
            refine CallK.val hwk ?_
            simp [hdec2]
            refine hK _ rfl ?_
            clear hK
            clear K
            rcases hor with ⟨h1, h2, h3⟩ | ⟨h1, h2, h3⟩
            · subst h2
              (repeat refine AW.seq_k fun K hK => ?_)
              refine AW.rg ?_
              simp
              try (refine hK _ rfl ?_; clear hK; clear K)
              refine AW.yes ?_ rfl
              (repeat refine AW.seq_k fun K hK => ?_)
              refine AW.rg ?_
              simp
              try (refine hK _ rfl ?_; clear hK; clear K)
              exact AW.ret (ret_views (vs := [.bool true]) [.bool true] (by simp) (by simp) ⟨rfl, rfl⟩)
            · subst h2
              have hxw : x.length = w := by rw [h3, solV_length]
              by_cases hw0 : w = 0
              · have hx0 : x = [] := List.eq_nil_of_length_eq_zero (by omega)
                subst hx0
                (repeat refine AW.seq_k fun K hK => ?_)
                refine AW.rg ?_
                simp
                try (refine hK _ rfl ?_; clear hK; clear K)
                refine AW.yes ?_ rfl
                (repeat refine AW.seq_k fun K hK => ?_)
                refine AW.rg ?_
                simp
                try (refine hK _ rfl ?_; clear hK; clear K)
                exact AW.ret (ret_views (vs := [.bool true]) [.bool true] (by simp) (by simp) ⟨rfl, rfl⟩)
              · have hx0 : x ≠ [] := fun e => hw0 (by rw [← hxw, e]; rfl)
                (repeat refine AW.seq_k fun K hK => ?_)
                refine AW.rg ?_
                simp [hx0]
                try (refine hK _ rfl ?_; clear hK; clear K)
                refine AW.no ?_ rfl
                refine AW.skip ?_
                try simp
                refine hK _ rfl ?_
                clear hK
                clear K
                have hn : 0 < n := by
                  rcases Nat.eq_zero_or_pos n with h | h
                  · have : X = [] := List.eq_nil_of_length_eq_zero (hXl.trans h)
                    rw [this] at hw
                    simp [mrow] at hw
                    omega
                  · exact h
                have hxg : rowGood x := by
                  have := (solR_good hm hb).1
                  rw [hsz] at this
                  exact this
                have hC := colQ_good hxg
                rw [hxw] at hC
                have hp := timesL_call (emb X) (emb (colQ x x.length)) (lb_emb _) (lb_emb _)
                rw [hxw] at hp
                rcases times_cases hX hC hn (by omega) hn' (by omega) (by omega) with hz | ⟨Z', hz, hZq, hZg⟩
                · rw [hz] at hp
                  simp only at hp
                  rw [hxw]
                  (repeat refine AW.seq_k fun K hK => ?_)
                  refine AW.rg ?_
                  simp
                  try (refine hK _ rfl ?_; clear hK; clear K)
                  refine CallK.val hp ?_
                  simp
                  refine hK _ rfl ?_
                  clear hK
                  clear K
                  refine AW.seq_ex (ι := Unit) (fun _ => [(16, .bool true)]) (fun _ => Mem.emp) (fun _ => True) ?_ ?_
                  · (repeat refine AW.seq_k fun K hK => ?_)
                    refine AW.rg ?_
                    simp
                    try (refine hK _ rfl ?_; clear hK; clear K)
                    refine AW.block (AW.loopS (ι := Nat) (fun i => [(0, matAV (emb X)), (16, .bool true), (18, .int .i64 2), (19, .int .i64 (i : Nat))]) (fun _ => Mem.emp) (fun i => i = 0) (fun _ => 0) 0 rfl rfl (by simp) ?_)
                    rintro i rfl
                    (repeat refine AW.seq_k fun K hK => ?_)
                    refine AW.rg ?_
                    simp
                    try (refine hK _ rfl ?_; clear hK; clear K)
                    refine AW.no ?_ rfl
                    refine AW.exit ?_
                    try simp
                  rintro _ _
                  (repeat refine AW.seq_k fun K hK => ?_)
                  refine AW.rg ?_
                  simp
                  try (refine hK _ rfl ?_; clear hK; clear K)
                  exact AW.ret (ret_views (vs := [.bool true]) [.bool true] (by simp) (by simp) ⟨rfl, rfl⟩)
                · rw [hz] at hp
                  simp only at hp
                  rw [hxw]
                  (repeat refine AW.seq_k fun K hK => ?_)
                  refine AW.rg ?_
                  simp
                  try (refine hK _ rfl ?_; clear hK; clear K)
                  refine CallK.val hp ?_
                  simp
                  refine hK _ rfl ?_
                  clear hK
                  clear K
                  have hZl : (emb Z').length = n := by rw [emb_length, hZg.2.2]
                  have hEX : (emb X).length = n := by rw [hml, hXl]
                  have hbE : (bq.map ofQ).length = n := by rw [List.length_map, hbl]
                  have hsol := fun i (hi : i < n) => solves hX (wide_red hX hW hn (red_facts hX hw hn hn' (by omega) (by rw [hzr])).choose_spec.choose_spec.2.1 hq).1 (wide_red hX hW hn (red_facts hX hw hn hn' (by omega) (by rw [hzr])).choose_spec.choose_spec.2.1 hq).2.1 h1 hi
                  refine AW.seq_ex (ι := Unit) (fun _ => [(16, .bool true)]) (fun _ => Mem.emp) (fun _ => True) ?_ ?_
                  · (repeat refine AW.seq_k fun K hK => ?_)
                    refine AW.rg ?_
                    simp
                    try (refine hK _ rfl ?_; clear hK; clear K)
                    refine AW.block (AW.loopS (ι := Nat) (fun i => [(0, matAV (emb X)), (1, rowAV (bq.map ofQ)), (16, .bool true), (17, matAV (emb Z')), (18, .int .i64 0), (19, .int .i64 (i : Nat))]) (fun _ => Mem.emp) (fun i => i ≤ n) (fun i => n - i) 0 (Nat.zero_le _) rfl (by simp) ?_)
                    rintro i hi0
                    (repeat refine AW.seq_k fun K hK => ?_)
                    refine AW.rg ?_
                    simp [hEX]
                    try (refine hK _ rfl ?_; clear hK; clear K)
                    (repeat refine AW.seq ?_)
                    refine AW.cs (fun hi => ?_) (fun hi => ?_) rfl <;> (try simp at hi)
                    · refine AW.skip ?_
                      try simp
                      refine hK _ rfl ?_
                      clear hK
                      clear K
                      have w1 : IntKind.i64.wrap ((i + 1 : Nat) : Int) = ((i + 1 : Nat) : Int) := wi (by omega)
                      have hiE : i < (emb Z').length := by rw [hZl]; exact hi
                      have hib : i < (bq.map ofQ).length := by rw [hbE]; exact hi
                      have hli : (mrow (emb Z') i).length = 1 := by rw [emb_row, List.length_map]; exact (hZg.row hi).2
                      have e2 : rr (bq.map ofQ) i = ofQ (qat bq i) := rr_map (by omega)
                      have e1 : rr (mrow (emb Z') i) 0 = ofQ (qat bq i) := by
                        have hc0 : (mrow (colQ x w) 0).length = 1 := by rw [colQ_row (by omega)]; rfl
                        rw [emb_row, rr_map (by rw [(hZg.row hi).2]; omega)]
                        congr 1
                        show qel Z' i 0 = _
                        rw [times_eq hZq (by omega) (by omega), hC.2.2, ← hsol i hi, ← h3]
                        unfold dotV
                        refine sumN_congr fun k hk => ?_
                        congr 1
                        unfold qel
                        rw [colQ_row hk]; rfl
                      have hsm := (same_call (ofQ (qat bq i)) (ofQ (qat bq i)) (short_good (hbq.at (by omega)))).mono fun v m (h : saysEq _ v ∧ m = Mem.emp) => show v = .bool true ∧ m = Mem.emp from by
                        obtain ⟨⟨t, rfl, ht⟩, h2⟩ := h
                        exact ⟨by rw [ht.2 rfl], h2⟩
                      refine AW.seq_ex (ι := Unit) (fun _ => [(0, matAV (emb X)), (1, rowAV (bq.map ofQ)), (16, .bool true), (17, matAV (emb Z')), (18, .int .i64 0), (19, .int .i64 (i : Nat))]) (fun _ => Mem.emp) (fun _ => True) ?_ ?_
                      · (repeat refine AW.seq ?_)
                        refine AW.block ?_
                        refine AW.rdR [] [0,1,2,3,4,5,6,7,8,9,10,11,12,13,14,15,16,17,18,19,20,21,22,23,24,25,26,27,28,29] mix ?_
                        simp [hiE, hib, hli, e1, e2, hZl, hEX, hi]
                        refine ⟨by omega, ?_⟩
                        refine CallK.val hsm ?_
                        simp
                      rintro _ _
                      (repeat refine AW.seq_k fun K hK => ?_)
                      refine AW.rg ?_
                      simp [-Int.natCast_add, w1]
                      try (refine hK _ rfl ?_; clear hK; clear K)
                      exact ⟨hi, by omega⟩
                    · refine AW.exit ?_
                      try simp
                  rintro _ _
                  (repeat refine AW.seq_k fun K hK => ?_)
                  refine AW.rg ?_
                  simp
                  try (refine hK _ rfl ?_; clear hK; clear K)
                  exact AW.ret (ret_views (vs := [.bool true]) [.bool true] (by simp) (by simp) ⟨rfl, rfl⟩)
          · (repeat refine AW.seq_k fun K hK => ?_)
            refine AW.rg ?_
            simp [he1]
            try (refine hK _ rfl ?_; clear hK; clear K)
            refine AW.yes ?_ rfl
            (repeat refine AW.seq_k fun K hK => ?_)
            refine AW.rg ?_
            simp
            try (refine hK _ rfl ?_; clear hK; clear K)
            refine CallK.val hwk ?_
            simp
            refine hK _ rfl ?_
            clear hK
            clear K
            exact AW.ret (ret_views (vs := [.bool true]) [.bool true] (by simp) (by simp) ⟨rfl, rfl⟩)
        · (repeat refine AW.seq_k fun K hK => ?_)
          refine AW.rg ?_
          simp
          try (refine hK _ rfl ?_; clear hK; clear K)
          refine CallK.val hs ?_
          simp
          refine hK _ rfl ?_
          clear hK
          clear K
          (repeat refine AW.seq_k fun K hK => ?_)
          refine AW.rg ?_
          simp
          try (refine hK _ rfl ?_; clear hK; clear K)
          refine AW.yes ?_ (by simp [he])
          (repeat refine AW.seq_k fun K hK => ?_)
          refine AW.rg ?_
          simp
          try (refine hK _ rfl ?_; clear hK; clear K)
          refine CallK.val hwk ?_
          simp
          refine hK _ rfl ?_
          clear hK
          clear K
          exact AW.ret (ret_views (vs := [.bool true]) [.bool true] (by simp) (by simp) ⟨rfl, rfl⟩)
      · simp [hl]
        refine hK _ rfl ?_
        clear hK
        clear K
        refine AW.yes ?_ (by simp [hl])
        (repeat refine AW.seq_k fun K hK => ?_)
        refine AW.rg ?_
        simp
        try (refine hK _ rfl ?_; clear hK; clear K)
        refine CallK.val hwk ?_
        simp
        refine hK _ rfl ?_
        clear hK
        clear K
        exact AW.ret (ret_views (vs := [.bool true]) [.bool true] (by simp) (by simp) ⟨rfl, rfl⟩)
    · simp
      refine hK _ rfl ?_
      clear hK
      clear K
      refine AW.yes ?_ rfl
      (repeat refine AW.seq_k fun K hK => ?_)
      refine AW.rg ?_
      simp
      try (refine hK _ rfl ?_; clear hK; clear K)
      refine CallK.val hwk ?_
      simp
      refine hK _ rfl ?_
      clear hK
      clear K
      exact AW.ret (ret_views (vs := [.bool true]) [.bool true] (by simp) (by simp) ⟨rfl, rfl⟩)
  · simp [h0]
    refine hK _ rfl ?_
    clear hK
    clear K
    refine AW.yes ?_ (by simp [h0])
    (repeat refine AW.seq_k fun K hK => ?_)
    refine AW.rg ?_
    simp
    try (refine hK _ rfl ?_; clear hK; clear K)
    refine CallK.val hwk ?_
    simp
    refine hK _ rfl ?_
    clear hK
    clear K
    exact AW.ret (ret_views (vs := [.bool true]) [.bool true] (by simp) (by simp) ⟨rfl, rfl⟩)
end Go.Av
end
