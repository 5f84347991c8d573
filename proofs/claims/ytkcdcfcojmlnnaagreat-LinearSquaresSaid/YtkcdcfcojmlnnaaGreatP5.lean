/- A part of the proof. -/
import Derived.Test.YtkcdcfcojmlnnaaGreatP4
import Derived.ProofKit
import Derived.OpenShut
import Derived.Deep.Slices
set_option linter.all false
set_option exponentiation.threshold 5000
set_option maxRecDepth 10000
section
namespace Go.Av
open Go.Proofs
def OnesM (M : Mem) : Prop := ∀ b y, M b = some y → ∀ v ∈ y.l, v.cells.all AV.one = true
theorem OnesM.set {M : Mem} (h : OnesM M) (b : Nat) {y : Blk} (hy : ∀ v ∈ y.l, v.cells.all AV.one = true) : OnesM (M.set b y) := by
  intro c z hz
  simp only [set_at] at hz
  split at hz
  · cases hz; exact hy
  · exact h c z hz
theorem OnesM.del {M : Mem} (h : OnesM M) (b : Nat) : OnesM (M.del b) := by
  intro c z hz
  unfold Mem.del at hz
  split at hz
  · cases hz
  · exact h c z hz
structure SqS where
  l : List (List Rat)
  ws : List Rat
  fs : List (Option (List Rat))
  M : Mem
  x : AV
  ov : AV
  ob : List Nat
def wCells (ws : List Rat) : List AV := ws.map fun q => (ofQ q).av
def InvS (n : Nat) (l0 : List (List Rat)) (c B : Nat) (bs : List Nat) (by_ : Nat) (j : Nat) (s : SqS) : Prop :=
  sqIter n l0 j = .go s.l s.ws s.fs ∧ matGood n n s.l ∧ s.fs.length = n ∧ formsOk n s.fs ∧ s.ws.length ≤ j ∧ rowGood s.ws ∧ SqMem s.M c B bs (emb s.l) s.x by_ (fCells s.fs) s.ov s.ob (wCells s.ws) ∧ isE s.x 0 ∧ OnesM s.M
def sqAV (r : SqR) : AV := .tup [rowAV (r.ws.map ofQ), matAV (emb r.fs), rowAV (r.v.map ofQ), .int .i64 r.e]
theorem sqIter_go {n : Nat} {l0 : List (List Rat)} {j : Nat} {l ws fs} (h : sqIter n l0 j = .go l ws fs) : sqIter n l0 (j + 1) = sqStep n j l ws fs := by
  show (match sqIter n l0 j with | .go l' ws fs => sqStep n j l' ws fs | r => r) = _
  rw [h]
theorem sqIter_err {n : Nat} {l0 : List (List Rat)} {j : Nat} (h : sqIter n l0 j = .err) : ∀ k, sqIter n l0 (j + k) = .err
  | 0 => h
  | k + 1 => by
    show (match sqIter n l0 (j + k) with | .go l' ws fs => sqStep n (j + k) l' ws fs | r => r) = _
    rw [sqIter_err h k]
theorem sqIter_vec {n : Nat} {l0 : List (List Rat)} {j : Nat} {v} (h : sqIter n l0 j = .vec v) : ∀ k, sqIter n l0 (j + k) = .vec v
  | 0 => h
  | k + 1 => by
    show (match sqIter n l0 (j + k) with | .go l' ws fs => sqStep n (j + k) l' ws fs | r => r) = _
    rw [sqIter_vec h k]
theorem sqOut_err {n : Nat} {l0 : List (List Rat)} {j : Nat} (h : sqIter n l0 j = .err) (hj : j ≤ n) : sqOut (sqIter n l0 n) = ⟨2, [], [], []⟩ := by
  have := sqIter_err h (n - j)
  rw [Nat.add_sub_cancel' hj] at this
  rw [this]; rfl
theorem sqOut_vec {n : Nat} {l0 : List (List Rat)} {j : Nat} {v} (h : sqIter n l0 j = .vec v) (hj : j ≤ n) : sqOut (sqIter n l0 n) = ⟨0, [], [], v⟩ := by
  have := sqIter_vec h (n - j)
  rw [Nat.add_sub_cancel' hj] at this
  rw [this]; rfl
theorem short_good {q : Rat} (h : Good q) : (ofQ q).l1.length < 2^40 ∧ (ofQ q).l2.length < 2^40 := by
  have h1 := dig_128 h.1
  have h2 := dig_128 h.2
  exact ⟨Nat.lt_of_le_of_lt h1 (by omega), Nat.lt_of_le_of_lt h2 (by omega)⟩
theorem fCells_ones (fs : List (Option (List Rat))) : ∀ v ∈ fCells fs, v.cells.all AV.one = true := by
  intro u hu
  obtain ⟨f, _, rfl⟩ := List.mem_map.1 hu
  cases f <;> rfl
theorem lowOut_vec {M : Mem} {c n j : Nat} {l : List (List Rat)} {v : AV} {M' : Mem} (h : ¬ lowQ n j l = some none) (ho : lowOut M c n j l v M') : ∃ bv w x' e', v = .osl bv 4 0 n ∧ M bv = none ∧ M' = (M.set c ⟨61, 1, [x']⟩).set bv ⟨36, 4, rrs w⟩ ∧ isE x' e' ∧ w.length = n ∧ (∀ y ∈ w, y.Lb) ∧ VMode e' w ((lowQ n j l).bind id) := by
  unfold lowOut at ho
  cases hq : lowQ n j l with
  | none => rw [hq] at ho; exact ho
  | some o =>
    cases o with
    | none => exact absurd hq h
    | some w => rw [hq] at ho; exact ho
theorem only_ext {m : Mem} {c bv by_ : Nat} {x : AV} {w : List RR} {fs : List (Option (List Rat))} (hc : m c = some ⟨61, 1, [x]⟩) (hb : m bv = some ⟨36, 4, rrs w⟩) (hy : m by_ = some ⟨42, 1, fCells fs⟩) (h1 : c ≠ bv) (h2 : c ≠ by_) (h3 : bv ≠ by_) : m.only [c, bv, by_] = extM c bv by_ x w fs := by
  funext k
  unfold extM
  simp only [set_at, emp_at]
  by_cases k1 : k = by_
  · subst k1
    rw [only_in (by simp), if_pos rfl, hy]
  · rw [if_neg k1]
    by_cases k2 : k = bv
    · subst k2
      rw [only_in (by simp), if_pos rfl, hb]
    · rw [if_neg k2]
      by_cases k3 : k = c
      · subst k3
        rw [only_in (by simp), if_pos rfl, hc]
      · rw [if_neg k3, only_out (by simp [k1, k2, k3])]
/-- The forms that are there. -/
def fsL (fs : List (Option (List Rat))) (i : Nat) : List AV := (emb ((fs.take i).filterMap id)).map rowAV
theorem fsL_succ {fs : List (Option (List Rat))} {i : Nat} (h : i < fs.length) : fsL fs (i + 1) = match fs.getD i none with
    | none => fsL fs i
    | some f => fsL fs i ++ [rowAV (f.map ofQ)] := by
  have e : fs.getD i none = fs[i] := by rw [List.getD_eq_getElem?_getD, List.getElem?_eq_getElem h]; rfl
  rw [e]
  unfold fsL
  rw [List.take_add_one, List.getElem?_eq_getElem h, List.filterMap_append]
  cases fs[i] with
  | none => simp
  | some f => simp [emb]
def lvO (o : Option Nat) (l : List AV) : AV := match o with
  | none => .nil
  | some b => .osl b 1 0 l.length
def lmO (o : Option Nat) (l : List AV) : Mem := match o with
  | none => Mem.emp
  | some b => Mem.emp.set b ⟨42, 1, l⟩
theorem fsL_ones {fs : List (Option (List Rat))} {i : Nat} : ∀ v ∈ fsL fs i, v.cells.all AV.one = true := by
  intro v hv
  obtain ⟨r, _, rfl⟩ := List.mem_map.1 hv
  rfl
theorem fsL_length (fs : List (Option (List Rat))) (i : Nat) : (fsL fs i).length ≤ i := by
  unfold fsL
  rw [List.length_map, emb_length]
  exact Nat.le_trans (List.length_filterMap_le _ _) (by simp; omega)
theorem lmO_ones {fs : List (Option (List Rat))} {i : Nat} {o : Option Nat} : ∀ b y, lmO o (fsL fs i) b = some y → ∀ v ∈ y.l, v.cells.all AV.one = true := by
  intro b y hy
  cases o with
  | none => cases hy
  | some b0 =>
    simp only [lmO, set_at, emp_at] at hy
    split at hy
    · cases hy; exact fsL_ones
    · cases hy
theorem recast_push {m : Mem} {b b' n : Nat} {l : List AV} {r : List RR} (h1 : m b' = some ⟨42, 1, l ++ [.osl b 4 0 n]⟩) (h2 : m b = some ⟨36, 4, rrs r⟩) (hne : b ≠ b') (hn : r.length = n) (hl : ∀ v ∈ l, v.cells.all AV.one = true) : Recast m (Mem.emp.set b' ⟨42, 1, l ++ [rowAV r]⟩) := by
  refine ⟨fun k y hy => ?_⟩
  simp only [set_at, emp_at] at hy
  split at hy
  · rename_i e
    cases hy
    refine ⟨⟨42, 1, l ++ [.osl b 4 0 n]⟩, by rw [e]; exact h1, rfl, rfl, by simp, fun i v v' q1 q2 => ?_⟩
    rw [List.getElem?_append] at q1 q2
    split at q1
    · rw [if_pos (by assumption)] at q2
      rw [q1] at q2
      cases q2
      exact ⟨.same _, hl v (List.mem_of_getElem? q1)⟩
    · rw [if_neg (by assumption)] at q2
      cases hi : i - l.length with
      | zero =>
        rw [hi] at q1 q2
        cases q1
        cases q2
        refine ⟨view_row h2 ?_ hn, rfl⟩
        simp [hne]
      | succ k => rw [hi] at q1; cases q1
  · cases hy
theorem back_gset {m g : Mem} {l : List Nat} {b : Nat} (x : Blk) : m.back l (g.set b x) = (m.back l g).set b x := by
  funext k
  unfold Mem.back
  simp only [set_at]
  by_cases hk : k = b
  · subst hk; simp
  · rw [if_neg hk, if_neg hk]
theorem back_ones {m g : Mem} {l : List Nat} (h1 : ∀ b y, m b = some y → ∀ v ∈ y.l, v.cells.all AV.one = true) (h2 : ∀ b y, g b = some y → ∀ v ∈ y.l, v.cells.all AV.one = true) : ∀ b y, m.back l g b = some y → ∀ v ∈ y.l, v.cells.all AV.one = true := by
  intro b y hy
  unfold Mem.back at hy
  cases hg : g b with
  | some z => rw [hg] at hy; exact h2 b y (hg.trans hy)
  | none =>
    rw [hg] at hy
    simp only at hy
    split at hy
    · cases hy
    · exact h1 b y hy
set_option maxHeartbeats 2000000
theorem squaresL_call (m : List (List RR)) (hm : LbM m) : ACall Tryz.prog 31 [matAV m] Mem.emp fun v mm => v = sqAV (sqR m) ∧ mm = Mem.emp := by
  have hck := check_call m hm
  by_cases h0 : chk m = 0
  · obtain ⟨h1, h2, h3, h4, h5⟩ := chk_emb hm h0
    have hRy : (m.length = (mrow m 0).length ∧ symm (unq m) m.length) → sqR m = sqOut (sqIter m.length (unq m) m.length) := fun h => by unfold sqR; rw [if_neg (by simp [h0]), if_pos h]
    have hRn : ¬ (m.length = (mrow m 0).length ∧ symm (unq m) m.length) → sqR m = ⟨1, [], [], []⟩ := fun h => by unfold sqR; rw [if_neg (by simp [h0]), if_neg h]
    have hlen := unq_length m
    have hsy := symmetric_call (unq m) m.length ⟨h2, h3, hlen⟩ h4 h5
    rw [h0] at hck
    have hw0 : (mrow (unq m) 0).length = (mrow m 0).length := by rw [unq_row, List.length_map]
    have hcl := clone_call m (by rw [h1]; exact short_emb h2) (by omega) (fun r hr => by
      obtain ⟨i, hi, rfl⟩ := mem_row hr
      have := h3 i (by rw [hlen]; exact hi)
      rw [unq_row, List.length_map] at this
      omega)
    rw [← h1, hw0] at hsy
    rw [hw0] at h3 h5
    clear hw0
    generalize unq m = l0 at *
    generalize hn : m.length = n at *
    refine acall_S Tryz.func31 rfl rfl 110 rfl (Nat.le_of_ble_eq_true rfl) ?_
    (repeat refine AW.seq_k fun K hK => ?_)
    refine AW.rg ?_
    simp [argsL]
    try (refine hK _ rfl ?_; clear hK; clear K)
    (repeat refine AW.seq_k fun K hK => ?_)
    refine AW.rg ?_
    simp
    try (refine hK _ rfl ?_; clear hK; clear K)
    refine CallK.val hck ?_
    simp
    refine hK _ rfl ?_
    clear hK
    clear K
    (repeat refine AW.seq_k fun K hK => ?_)
    refine AW.rg ?_
    simp
    try (refine hK _ rfl ?_; clear hK; clear K)
    refine AW.no ?_ rfl
    refine AW.skip ?_
    try simp
    refine hK _ rfl ?_
    clear hK
    clear K
    (repeat refine AW.seq_k fun K hK => ?_)
    refine AW.rg ?_
    simp
    try (refine hK _ rfl ?_; clear hK; clear K)
    refine CallK.pure (R := fun v => ∃ t, v = .bool t ∧ (t = true ↔ n = (mrow m 0).length ∧ symm l0 n)) (hsy.mono fun v mm ⟨t, q1, q2, q3⟩ => ⟨⟨t, q1, q2⟩, q3⟩) ?_
    rintro _ ⟨t, rfl, ht⟩
    simp
    refine hK _ rfl ?_
    clear hK
    clear K
    cases t
    · refine AW.yes ?_ rfl
      rw [hRn (fun h => by have := ht.2 h; cases this)]
      (repeat refine AW.seq_k fun K hK => ?_)
      refine AW.rg ?_
      simp
      try (refine hK _ rfl ?_; clear hK; clear K)
      exact AW.ret (ret_views [rowAV [], matAV [], rowAV [], .int .i64 1] rfl ⟨.nilsl 4, .nilsl 1, .nilsl 4, .same _, trivial⟩ ⟨rfl, rfl⟩)
    · refine AW.no ?_ rfl
      refine AW.skip ?_
      try simp
      refine hK _ rfl ?_
      clear hK
      clear K
      obtain ⟨hsq, hsym⟩ := ht.1 rfl
      rw [hRy ⟨hsq, hsym⟩]
      clear hRy hRn
      rw [← hsq] at h3 h5
      clear ht hsy hck
      have hX0 : matGood n n l0 := ⟨h2, h3, hlen⟩
      rw [h1] at hcl ⊢
      clear h1 h2 h3 hlen hsym hm h0 hsq hn
      (repeat refine AW.seq_k fun K hK => ?_)
      refine AW.rg ?_
      simp
      try (refine hK _ rfl ?_; clear hK; clear K)
      refine Fresh.intro fun c hc => ?_
      refine hK _ rfl ?_
      clear hK
      clear K
      (repeat refine AW.seq_k fun K hK => ?_)
      refine AW.rg ?_
      simp
      try (refine hK _ rfl ?_; clear hK; clear K)
      refine CallK.news hcl ?_
      rintro _ g ⟨B, bs, rfl, g1, g2⟩ hf
      have hM := RedM.start g1 g2 (c := c) (x := .agg [.int .i64 0]) (fun b hb => (hf b hb).1)
      clear g1 g2 hf hc
      generalize (Mem.emp.set c ⟨61, 1, [.agg [.int .i64 0]]⟩).back [] g = M0 at *
      simp
      refine hK _ rfl ?_
      clear hK
      clear K
      (repeat refine AW.seq_k fun K hK => ?_)
      refine AW.rg ?_
      simp
      try (refine hK _ rfl ?_; clear hK; clear K)
      refine ⟨by omega, Fresh.intro fun by_ hby => ?_⟩
      refine hK _ rfl ?_
      clear hK
      clear K
      have hS0 := SqMem.start (fs := List.replicate n .nil) hM hby
      refine AW.seq_ex (ι := SqS) (fun s => [(3, .nil), (9, .osl by_ 1 0 n), (2, s.ov)]) (fun s => s.M) (fun s => InvS n l0 c B bs by_ n s) ?_ ?_
      · (repeat refine AW.seq_k fun K hK => ?_)
        refine AW.rg ?_
        simp
        try (refine hK _ rfl ?_; clear hK; clear K)
        refine AW.block (AW.loopS (ι := Nat × SqS) (fun z => [(3, .nil), (7, .ptr c 1 0 0), (8, .osl B 1 0 n), (9, .osl by_ 1 0 n), (2, z.2.ov), (30, .int .i64 n), (31, .int .i64 (z.1 : Nat))]) (fun z => z.2.M) (fun z => z.1 ≤ n ∧ InvS n l0 c B bs by_ z.1 z.2) (fun z => n - z.1) (0, ⟨l0, [], List.replicate n none, _, .agg [.int .i64 0], .nil, []⟩) ⟨by simp, rfl, hX0, by simp, ?_, by simp, (fun q hq => by cases hq), ?_, rfl, ?_⟩ rfl (by simp) ?_)
        · intro i f hfi
          rw [List.getD_eq_getElem?_getD, List.getElem?_replicate] at hfi
          split at hfi <;> cases hfi
        · rw [show fCells (List.replicate n none) = List.replicate n .nil by simp [fCells, fCell]]
          exact hS0
        · exact OnesM.set (hM.ones (e := 0) rfl) by_ (fun v hv => by simp at hv; rw [hv.2]; rfl)
        rintro ⟨j, l, ws, fs, M, x, ov, ob⟩ ⟨i0, i1, i2, i3, i4, i5, i6, i7, i8, i9⟩
        simp only at i0 i1 i2 i3 i4 i5 i6 i7 i8 i9
        (repeat refine AW.seq_k fun K hK => ?_)
        refine AW.rg ?_
        simp
        try (refine hK _ rfl ?_; clear hK; clear K)
        (repeat refine AW.seq ?_)
        refine AW.cs (fun hj => ?_) (fun hj => ?_) rfl <;> (try simp at hj)
        · refine AW.skip ?_
          try simp
          have w1 : IntKind.i64.wrap ((j + 1 : Nat) : Int) = ((j + 1 : Nat) : Int) := wi (by omega)
          have hjE : j < (emb l).length := by rw [emb_length, i2.2.2]; exact hj
          have hlE : (mrow (emb l) j).length = n := by rw [emb_row, List.length_map]; exact (i2.row hj).2
          have hlj : j < (mrow l j).length := by rw [(i2.row hj).2]; exact hj
          have ej : rr (mrow (emb l) j) j = ofQ (qel l j j) := by rw [emb_row, rr_map hlj]; rfl
          have gj : Good (qel l j j) := i2.1.at hlj
          have hsg := rsign_call (ofQ (qel l j j)) (ofQ_lb _)
          rw [signR_ofQ gj] at hsg
          have hsh := short_good gj
          have how := own_call (ofQ (qel l j j)) hsh.1 hsh.2
          have hgo := sqIter_go i1
          have hTop := i7.top
          have hRow := i7.row hjE
          have hGet := i7.red.mat.get hjE
          refine AW.seq_ex (ι := SqS) (fun s => [(3, .nil), (7, .ptr c 1 0 0), (8, .osl B 1 0 n), (9, .osl by_ 1 0 n), (2, s.ov), (30, .int .i64 n), (31, .int .i64 (j : Nat))]) (fun s => s.M) (fun s => InvS n l0 c B bs by_ (j + 1) s) ?_ ?_
          · (repeat refine AW.seq ?_)
            refine AW.block ?_
            (repeat refine AW.seq_k fun K hK => ?_)
            refine AW.rg ?_
            simp
            try (refine hK _ rfl ?_; clear hK; clear K)
            refine AW.seq_ex (ι := Unit) (fun _ => [(3, .nil), (7, .ptr c 1 0 0), (8, .osl B 1 0 n), (9, .osl by_ 1 0 n), (30, .int .i64 n), (31, .int .i64 (j : Nat)), (10, .int .i64 (j : Nat)), (2, ov)]) (fun _ => M) (fun _ => ¬ 0 < signQ (qel l j j)) ?_ ?_
            · (repeat refine AW.seq_k fun K hK => ?_)
              refine AW.rg ?_
              simp [hj, hTop, ↓hGet, hRow, hlE, ej]
              try (refine hK _ rfl ?_; clear hK; clear K)
              refine CallK.val hsg ?_
              simp
              refine hK _ rfl ?_
              clear hK
              clear K
              (repeat refine AW.seq ?_)
              refine AW.cs (fun hpos => ?_) (fun hpos => ?_) rfl <;> (try simp at hpos)
              · have hd : qel l j j ≠ 0 := by
                  intro h
                  rw [h] at hpos
                  simp [signQ] at hpos
                have hst : sqIter n l0 (j + 1) = match splitQ n j l with
                    | none => .err
                    | some z => .go z.2 (ws ++ [qel l j j]) (fs.set j (some z.1)) := by
                  rw [hgo]; unfold sqStep; rw [if_pos hpos]; rfl
                refine AW.seq_ex (ι := Mem × Nat) (fun z => [(3, .nil), (7, .ptr c 1 0 0), (8, .osl B 1 0 n), (9, .osl by_ 1 0 n), (30, .int .i64 n), (31, .int .i64 (j : Nat)), (10, .int .i64 (j : Nat)), (2, .osl z.2 4 0 (ws.length + 1))]) (fun z => z.1) (fun z => SqMem z.1 c B bs (emb l) x by_ (fCells fs) (.osl z.2 4 0 (ws.length + 1)) [z.2] (wCells (ws ++ [qel l j j])) ∧ OnesM z.1) ?_ ?_
                · rcases i7.lst with ⟨z1, z2, z3⟩ | ⟨b0, z2, z3, z4⟩
                  · have hws : ws = [] := by
                      unfold wCells at z1
                      simpa using z1
                    subst hws z2 z3
                    (repeat refine AW.seq_k fun K hK => ?_)
                    refine AW.rgR [52] ?_
                    simp [hj, hTop, ↓hGet, hRow, hlE, ej]
                    try (refine hK _ rfl ?_; clear hK; clear K)
                    refine CallK.val how ?_
                    simp
                    exact ⟨by unfold maxLen; omega, Fresh.intro fun b hb => ⟨i7.push0 hb _, i9.set b (fun v hv => by simp at hv; subst hv; rfl)⟩⟩
                  · subst z2 z3
                    have hwl : (wCells ws).length = ws.length := by simp [wCells]
                    (repeat refine AW.seq_k fun K hK => ?_)
                    refine AW.rgR [52] ?_
                    simp [hj, hTop, ↓hGet, hRow, hlE, ej, z4, hwl]
                    try (refine hK _ rfl ?_; clear hK; clear K)
                    refine CallK.val how ?_
                    simp [z4, hwl]
                    have hq : wCells (ws ++ [qel l j j]) = wCells ws ++ [(ofQ (qel l j j)).av] := by simp [wCells]
                    refine ⟨by omega, by unfold maxLen; omega, Fresh.intro fun b hb => ⟨?_, (i9.del b0).set b (fun v hv => ?_)⟩⟩
                    · have := i7.push1 hb (ofQ (qel l j j)).av
                      rw [hwl] at this
                      rw [hq]; exact this
                    · rcases List.mem_append.1 hv with h | h
                      · obtain ⟨q, _, rfl⟩ := List.mem_map.1 h
                        rfl
                      · simp at h; subst h; rfl
                rintro ⟨M1, bw⟩ ⟨k1, k2⟩
                simp only at k1 k2
                have hp := split_call _ c B bs l x n j k1.red i8 i2 hj (by omega) hd
                (repeat refine AW.seq_k fun K hK => ?_)
                refine AW.rg ?_
                simp
                try (refine hK _ rfl ?_; clear hK; clear K)
                refine CallK.hand (c :: B :: bs) (by simp) hp ?_
                rintro v g ⟨bv, M2, form, rows', x', e', rfl, rfl, r1, r2, r3, r4, r5, r6⟩ hf
                have hbv : bv ∉ c :: B :: bs := by
                  obtain ⟨f1, f2, f3, _⟩ := r1.fresh r2
                  simp [f1, f2, f3]
                have hbM : M1 bv = none := by
                  rcases hf bv (by simp) with h | h
                  · exact absurd h hbv
                  · exact h.1
                rw [back_gset]
                have k3 := k1.back r1
                have k4 := back_ones (l := c :: B :: bs) k2 (r1.ones r3)
                have k5 : (M1.back (c :: B :: bs) M2) bv = none := by rw [back_out r2 hbv]; exact hbM
                clear hf hp
                generalize M1.back (c :: B :: bs) M2 = M3 at *
                have hbb : by_ ≠ bv := by rintro rfl; rw [k3.by'] at k5; cases k5
                have hfl := fCells_length fs
                have hxe : x'.cells = [.int .i64 e'] := r3
                simp [hj, hbb, k3.by', hfl, i3]
                refine hK _ rfl ?_
                clear hK
                clear K
                have k6 := k3.store (form := form) r3 k5 r4 (fCells_ones fs) k4 (j := j) (by rw [hfl, i3]; exact hj)
                refine AW.turn [(3, .nil), (7, .ptr c 1 0 0), (8, .osl B 1 0 n), (9, .osl by_ 1 0 n), (30, .int .i64 n), (31, .int .i64 (j : Nat)), (10, .int .i64 (j : Nat)), (2, .osl bw 4 0 (ws.length + 1))] (M3.set by_ ⟨42, 1, (fCells fs).set j (rowAV form)⟩) k6 (by simp) ?_
                have k7 := k3.setBy ((fCells fs).set j (rowAV form))
                have k8 : ∀ b y, (M3.set by_ ⟨42, 1, (fCells fs).set j (rowAV form)⟩) b = some y → ∀ v ∈ y.l, v.cells.all AV.one = true := by
                  intro b y hy
                  simp only [set_at] at hy
                  split at hy
                  · cases hy
                    intro u hu
                    rcases List.mem_or_eq_of_mem_set hu with h | rfl
                    · exact fCells_ones fs u h
                    · rfl
                  · exact k4 b y hy
                clear k6 k3 k4 k5
                generalize M3.set by_ ⟨42, 1, (fCells fs).set j (rowAV form)⟩ = M4 at *
                cases hsp : splitQ n j l with
                | none =>
                  rw [hsp] at r6 hst
                  replace r6 : e' = 2 := r6
                  subst r6
                  rw [sqOut_err hst (by omega)]
                  (repeat refine AW.seq_k fun K hK => ?_)
                  refine AW.rg ?_
                  simp [k7.cell, hxe]
                  try (refine hK _ rfl ?_; clear hK; clear K)
                  refine AW.yes ?_ rfl
                  (repeat refine AW.seq_k fun K hK => ?_)
                  refine AW.rdA c [0, 1, 2, 3, 4, 5, 6, 7] mix (by simp [k7.cell, hxe]) ?_
                  simp [k7.cell, hxe]
                  try (refine hK _ rfl ?_; clear hK; clear K)
                  exact AW.ret (ret_views [rowAV [], matAV [], rowAV [], .int .i64 2] rfl ⟨.nilsl 4, .nilsl 1, .nilsl 4, .same _, trivial⟩ ⟨rfl, rfl⟩)
                | some z =>
                  rw [hsp] at r6 hst
                  obtain ⟨rfl, rfl, s3, rfl, s5⟩ : e' = 0 ∧ form = z.1.map ofQ ∧ rowGood z.1 ∧ rows' = emb z.2 ∧ matGood n n z.2 := r6
                  (repeat refine AW.seq_k fun K hK => ?_)
                  refine AW.rg ?_
                  simp [k7.cell, hxe]
                  try (refine hK _ rfl ?_; clear hK; clear K)
                  refine AW.no ?_ rfl
                  refine AW.skip ?_
                  try simp
                  refine hK _ rfl ?_
                  clear hK
                  clear K
                  refine AW.exit ?_
                  try simp
                  refine ⟨⟨z.2, ws ++ [qel l j j], fs.set j (some z.1), M4, x', .osl bw 4 0 (ws.length + 1), [bw]⟩, ⟨hst, s5, by rw [List.length_set]; exact i3, ?_, by simp; omega, ?_, ?_, r3, k8⟩, by simp⟩
                  · intro i f hfi
                    rw [List.getD_eq_getElem?_getD, List.getElem?_set] at hfi
                    by_cases hij : j = i
                    · rw [if_pos hij] at hfi
                      split at hfi
                      · cases hfi
                        refine ⟨s3, ?_⟩
                        rw [List.length_map] at r4; exact r4
                      · cases hfi
                    · rw [if_neg hij, ← List.getD_eq_getElem?_getD] at hfi
                      exact i4 i f hfi
                  · intro q hq
                    rcases List.mem_append.1 hq with h | h
                    · exact i6 q h
                    · simp at h; subst h; exact gj
                  · rw [show fCells (fs.set j (some z.1)) = (fCells fs).set j (rowAV (z.1.map ofQ)) by unfold fCells; rw [List.map_set]; rfl]
                    exact k7
              · refine AW.skip ?_
                try simp
                exact hpos
            rintro _ hpos
            have hlo := low_call _ c B bs l x n j i7.red i8 i2 hj (by omega)
            have hst : sqIter n l0 (j + 1) = match lowQ n j l with
                | none => .err
                | some none => .go l ws fs
                | some (some v) => match extQ fs n j v with
                  | none => .err
                  | some v' => .vec v' := by
              rw [hgo]; unfold sqStep; rw [if_neg hpos]; rfl
            have hxe : x.cells = [.int .i64 0] := i8
            (repeat refine AW.seq_k fun K hK => ?_)
            refine AW.rg ?_
            simp
            try (refine hK _ rfl ?_; clear hK; clear K)
            refine CallK.hand (c :: B :: bs) (by simp) hlo ?_
            intro v g hv hf
            by_cases hln : lowQ n j l = some none
            · unfold lowOut at hv
              rw [hln] at hv hst
              obtain ⟨rfl, rfl⟩ := hv
              rw [back_only]
              simp
              refine hK _ rfl ?_
              clear hK
              clear K
              (repeat refine AW.seq_k fun K hK => ?_)
              refine AW.rg ?_
              simp
              try (refine hK _ rfl ?_; clear hK; clear K)
              refine AW.no ?_ rfl
              refine AW.skip ?_
              try simp
              refine hK _ rfl ?_
              clear hK
              clear K
              (repeat refine AW.seq_k fun K hK => ?_)
              refine AW.rg ?_
              simp [i7.cell, hxe]
              try (refine hK _ rfl ?_; clear hK; clear K)
              refine AW.no ?_ rfl
              refine AW.skip ?_
              try simp
              refine hK _ rfl ?_
              clear hK
              clear K
              (repeat refine AW.seq_k fun K hK => ?_)
              refine AW.rg ?_
              simp
              try (refine hK _ rfl ?_; clear hK; clear K)
              refine AW.no ?_ rfl
              refine AW.skip ?_
              try simp
              exact ⟨⟨l, ws, fs, M, x, ov, ob⟩, ⟨hst, i2, i3, i4, by show ws.length ≤ j + 1; omega, i6, i7, i8, i9⟩, rfl, rfl⟩
            · obtain ⟨bv, w, x', e', rfl, q1, rfl, q3, q4, q5, q6⟩ := lowOut_vec hln hv
              have hst2 : sqIter n l0 (j + 1) = match ((lowQ n j l).bind id).bind (extQ fs n j) with
                  | none => .err
                  | some v' => .vec v' := by
                rw [hst]
                cases hlq : lowQ n j l with
                | none => rfl
                | some o =>
                  cases o with
                  | none => exact absurd hlq hln
                  | some v => rfl
              have hbM : M bv = none := by
                by_cases hm : bv ∈ c :: B :: bs
                · rw [only_in hm] at q1; exact q1
                · rcases hf bv (by simp) with h | h
                  · exact absurd h hm
                  · exact h.1
              have hbc : bv ≠ c := by rintro rfl; rw [i7.cell] at hbM; cases hbM
              have hbb : bv ≠ by_ := by rintro rfl; rw [i7.by'] at hbM; cases hbM
              have hcb : c ≠ by_ := fun h => i7.nby (by simp [h])
              rw [back_gset, back_gset, back_only]
              simp
              refine hK _ rfl ?_
              clear hK
              clear K
              refine AW.seq_ex (ι := AV × Int × List RR × Mem) (fun z => [(3, .nil), (7, .ptr c 1 0 0), (8, .osl B 1 0 n), (9, .osl by_ 1 0 n), (30, .int .i64 n), (31, .int .i64 (j : Nat)), (10, .int .i64 (j : Nat)), (2, ov), (11, .osl bv 4 0 n)]) (fun z => z.2.2.2) (fun z => isE z.1 z.2.1 ∧ z.2.2.1.length = n ∧ z.2.2.2 c = some ⟨61, 1, [z.1]⟩ ∧ z.2.2.2 bv = some ⟨36, 4, rrs z.2.2.1⟩ ∧ VMode z.2.1 z.2.2.1 (((lowQ n j l).bind id).bind (extQ fs n j))) ?_ ?_
              · (repeat refine AW.seq_k fun K hK => ?_)
                refine AW.rg ?_
                simp
                try (refine hK _ rfl ?_; clear hK; clear K)
                refine AW.yes ?_ rfl
                have hex := extend_call c bv by_ x' e' w _ fs n j (Ne.symm hbc) hcb hbb q3 q4 q5 q6 i3 i4 hj (by omega)
                rw [← only_ext (m := (M.set c ⟨61, 1, [x']⟩).set bv ⟨36, 4, rrs w⟩) (by simp [Ne.symm hbc]) (by simp) (by simp [Ne.symm hbb, Ne.symm hcb, i7.by']) (Ne.symm hbc) hcb hbb] at hex
                (repeat refine AW.seq_k fun K hK => ?_)
                refine AW.rg ?_
                simp
                try (refine hK _ rfl ?_; clear hK; clear K)
                refine CallK.hand [c, bv, by_] (by simp) hex ?_
                rintro v g ⟨x2, e2, v2, rfl, rfl, s1, s2, s3, s4⟩ _
                simp
                refine ⟨x2, e2, s1, v2, s2, back_some ?_, back_some ?_, s4⟩
                · unfold extM; simp [Ne.symm hbc, hcb]
                · unfold extM; simp [hbb]
              clear hf
              rintro ⟨x2, e2, v2, M2⟩ ⟨t1, t2, t3, t4, t5⟩
              simp only at t1 t2 t3 t4 t5
              have hx2 : x2.cells = [.int .i64 e2] := t1
              (repeat refine AW.seq_k fun K hK => ?_)
              refine AW.rg ?_
              simp [t3, hx2]
              try (refine hK _ rfl ?_; clear hK; clear K)
              cases hZ : ((lowQ n j l).bind id).bind (extQ fs n j) with
              | none =>
                rw [hZ] at t5 hst2
                replace t5 : e2 = 2 := t5
                subst t5
                rw [sqOut_err hst2 (by omega)]
                refine AW.yes ?_ rfl
                (repeat refine AW.seq_k fun K hK => ?_)
                refine AW.rdA c [0, 1, 2, 3, 4, 5, 6, 7] mix (by simp [t3, hx2]) ?_
                simp [t3, hx2]
                try (refine hK _ rfl ?_; clear hK; clear K)
                exact AW.ret (ret_views [rowAV [], matAV [], rowAV [], .int .i64 2] rfl ⟨.nilsl 4, .nilsl 1, .nilsl 4, .same _, trivial⟩ ⟨rfl, rfl⟩)
              | some v' =>
                rw [hZ] at t5 hst2
                obtain ⟨rfl, rfl, t7⟩ : e2 = 0 ∧ v2 = v'.map ofQ ∧ rowGood v' := t5
                refine AW.no ?_ rfl
                refine AW.skip ?_
                try simp
                refine hK _ rfl ?_
                clear hK
                clear K
                (repeat refine AW.seq_k fun K hK => ?_)
                refine AW.rg ?_
                simp
                try (refine hK _ rfl ?_; clear hK; clear K)
                refine AW.yes ?_ rfl
                (repeat refine AW.seq_k fun K hK => ?_)
                refine AW.rg ?_
                simp
                try (refine hK _ rfl ?_; clear hK; clear K)
                rw [sqOut_vec hst2 (by omega)]
                exact AW.ret (ret_views [rowAV [], matAV [], rowAV (v'.map ofQ), .int .i64 0] rfl ⟨.nilsl 4, .nilsl 1, view_row t4 rfl t2, .same _, trivial⟩ ⟨rfl, rfl⟩)
          rintro ⟨l, ws, fs, M, x, ov, ob⟩ hs
          (repeat refine AW.seq_k fun K hK => ?_)
          refine AW.rg ?_
          simp [-Int.natCast_add, w1]
          try (refine hK _ rfl ?_; clear hK; clear K)
          exact ⟨j + 1, ⟨l, ws, fs, M, x, ov, ob⟩, ⟨hj, hs⟩, by omega, by simp⟩
        · refine AW.exit ?_
          try simp
          have : j = n := by omega
          subst this
          exact ⟨⟨l, ws, fs, M, x, ov, ob⟩, ⟨i1, i2, i3, i4, i5, i6, i7, i8, i9⟩, by simp⟩
      rintro ⟨l, ws, fs, M, x, ov, ob⟩ ⟨i1, i2, i3, i4, i5, i6, i7, i8, i9⟩
      simp only at i1 i2 i3 i4 i5 i6 i7 i8 i9
      rw [i1]
      have hvw := i7.lst.view (M' := Mem.emp) (fun _ _ => rfl)
      have hvb : View M Mem.emp (.osl by_ 1 0 n) (.sl 1 (fCells fs)) := by
        refine .osl by_ 1 0 n _ _ i7.by' rfl rfl (by rw [fCells_length, i3]) (by simp [fCells_length, i3]) fun a u u' g1 g2 => ?_
        simp only [Nat.zero_add] at g1
        rw [g1] at g2
        cases g2
        exact .same _
      refine AW.toEmp [(2, .sl 4 (wCells ws)), (3, .nil), (9, .sl 1 (fCells fs))] (by simp; exact ⟨hvw, hvb⟩) ?_
      have hfl := fCells_length fs
      clear i1 i2 i7 i8 i9 hvw hvb
      have hsn : ∀ i, i < n → fsL fs (i + 1) = match fs.getD i none with
          | none => fsL fs i
          | some f => fsL fs i ++ [rowAV (f.map ofQ)] := fun i hi => fsL_succ (by omega)
      refine AW.seq_ex (ι := Option Nat) (fun o => [(2, .sl 4 (wCells ws)), (3, lvO o (fsL fs n))]) (fun o => lmO o (fsL fs n)) (fun o => o = none → fsL fs n = []) ?_ ?_
      · (repeat refine AW.seq_k fun K hK => ?_)
        refine AW.rg ?_
        simp [hfl, i3]
        try (refine hK _ rfl ?_; clear hK; clear K)
        refine AW.block (AW.loopS (ι := Nat × Option Nat) (fun z => [(2, .sl 4 (wCells ws)), (94, .sl 1 (fCells fs)), (95, .int .i64 n), (96, .int .i64 (z.1 : Nat)), (3, lvO z.2 (fsL fs z.1))]) (fun z => lmO z.2 (fsL fs z.1)) (fun z => z.1 ≤ n ∧ (z.2 = none → fsL fs z.1 = [])) (fun z => n - z.1) (0, none) ⟨by simp, fun _ => by simp [fsL, emb]⟩ rfl (by simp [lvO]) ?_)
        rintro ⟨i, o⟩ ⟨q1, q2⟩
        simp only at q1 q2
        (repeat refine AW.seq_k fun K hK => ?_)
        refine AW.rg ?_
        simp
        try (refine hK _ rfl ?_; clear hK; clear K)
        (repeat refine AW.seq ?_)
        refine AW.cs (fun hi => ?_) (fun hi => ?_) rfl <;> (try simp at hi)
        · refine AW.skip ?_
          try simp
          have w1 : IntKind.i64.wrap ((i + 1 : Nat) : Int) = ((i + 1 : Nat) : Int) := wi (by omega)
          have hgc := fCells_get (fs := fs) (i := i) (by omega)
          have hsi := hsn i hi
          refine AW.seq_ex (ι := Option Nat × Mem) (fun z => [(2, .sl 4 (wCells ws)), (94, .sl 1 (fCells fs)), (95, .int .i64 n), (96, .int .i64 (i : Nat)), (3, lvO z.1 (fsL fs (i + 1)))]) (fun z => z.2) (fun z => Recast z.2 (lmO z.1 (fsL fs (i + 1))) ∧ (z.1 = none → fsL fs (i + 1) = [])) ?_ ?_
          · (repeat refine AW.seq ?_)
            refine AW.block ?_
            cases hfi : fs.getD i none with
            | none =>
              rw [hfi] at hgc hsi
              have hgc : (fCells fs)[i]? = some .nil := hgc
              replace hsi : fsL fs (i + 1) = fsL fs i := hsi
              rw [hsi]
              (repeat refine AW.seq_k fun K hK => ?_)
              refine AW.rg ?_
              simp [hi, hfl, i3, ↓hgc]
              try (refine hK _ rfl ?_; clear hK; clear K)
              (repeat refine AW.seq_k fun K hK => ?_)
              refine AW.rg ?_
              simp
              try (refine hK _ rfl ?_; clear hK; clear K)
              refine AW.no ?_ rfl
              refine AW.skip ?_
              try simp
              exact ⟨o, _, ⟨Recast.sub fun b y hy => ⟨hy, lmO_ones b y hy⟩, q2⟩, rfl, rfl⟩
            | some f =>
              rw [hfi] at hgc hsi
              have hgc : (fCells fs)[i]? = some (rowAV (f.map ofQ)) := hgc
              replace hsi : fsL fs (i + 1) = fsL fs i ++ [rowAV (f.map ofQ)] := hsi
              rw [hsi]
              obtain ⟨fg, flen⟩ := i4 i f hfi
              have hne : f.map ofQ ≠ [] := by
                intro h
                have := congrArg List.length h
                rw [List.length_map, flen] at this
                simp at this
                omega
              have hnil := isNil_row hne
              have hfR : (f.map ofQ).length = n := by rw [List.length_map, flen]
              have hoa := ownAll_call (f.map ofQ) (fun y hy => by
                obtain ⟨q, hq, rfl⟩ := List.mem_map.1 hy
                exact short_good (fg q hq)) (by omega)
              rw [hfR] at hoa
              have hll := fsL_length fs i
              have hlo : ∀ v ∈ fsL fs i, v.cells.all AV.one = true := fsL_ones
              generalize fsL fs i = l at *
              (repeat refine AW.seq_k fun K hK => ?_)
              refine AW.rg ?_
              simp [hi, hfl, i3, ↓hgc]
              try (refine hK _ rfl ?_; clear hK; clear K)
              (repeat refine AW.seq_k fun K hK => ?_)
              refine AW.rg ?_
              simp [hnil]
              try (refine hK _ rfl ?_; clear hK; clear K)
              refine AW.yes ?_ rfl
              cases o with
              | none =>
                have := q2 rfl
                subst this
                simp only [lvO, lmO]
                (repeat refine AW.seq_k fun K hK => ?_)
                refine AW.rgR [105] ?_
                simp
                try (refine hK _ rfl ?_; clear hK; clear K)
                refine CallK.make hoa ?_
                rintro b _ _ ⟨rfl, rfl⟩ hb _
                simp
                refine ⟨by unfold maxLen; omega, Fresh.intro fun b' hb' => ?_⟩
                have hbb : b ≠ b' := by rintro rfl; simp at hb'
                exact ⟨some b', _, ⟨recast_push (l := []) (r := f.map ofQ) (by simp) (by simp [hbb]) hbb hfR (by simp), by simp⟩, rfl, rfl⟩
              | some b0 =>
                simp only [lvO, lmO]
                (repeat refine AW.seq_k fun K hK => ?_)
                refine AW.rgR [105] ?_
                simp
                try (refine hK _ rfl ?_; clear hK; clear K)
                refine CallK.make hoa ?_
                rintro b _ _ ⟨rfl, rfl⟩ hb _
                have hb0 : b ≠ b0 := by rintro rfl; simp at hb
                simp [Ne.symm hb0]
                refine ⟨by omega, by unfold maxLen; omega, Fresh.intro fun b' hb' => ?_⟩
                have hbb : b ≠ b' := by rintro rfl; simp [Mem.del, hb0] at hb'
                exact ⟨some b', _, ⟨recast_push (l := l) (r := f.map ofQ) (by simp) (by simp [Mem.del, hbb, hb0]) hbb hfR hlo, by simp⟩, rfl, rfl⟩
          rintro ⟨o, M'⟩ ⟨k1, k2⟩
          refine AW.turn [(2, .sl 4 (wCells ws)), (94, .sl 1 (fCells fs)), (95, .int .i64 n), (96, .int .i64 (i : Nat)), (3, lvO o (fsL fs (i + 1)))] (lmO o (fsL fs (i + 1))) k1 (by simp) ?_
          (repeat refine AW.seq_k fun K hK => ?_)
          refine AW.rg ?_
          simp [-Int.natCast_add, w1]
          try (refine hK _ rfl ?_; clear hK; clear K)
          exact ⟨i + 1, o, ⟨hi, k2⟩, by omega, rfl, rfl, rfl⟩
        · refine AW.exit ?_
          try simp
          have : i = n := by omega
          subst this
          exact ⟨o, q2, rfl, rfl⟩
      rintro o ho
      (repeat refine AW.seq_k fun K hK => ?_)
      refine AW.rg ?_
      simp
      try (refine hK _ rfl ?_; clear hK; clear K)
      have hvo : View (lmO o (fsL fs n)) Mem.emp (lvO o (fsL fs n)) (.sl 1 (fsL fs n)) := by
        cases o with
        | none => rw [ho rfl]; exact .nilsl 1
        | some b =>
          refine .osl b 1 0 _ ⟨42, 1, fsL fs n⟩ _ (by simp [lmO]) rfl rfl rfl (by simp) fun a u u' g1 g2 => ?_
          simp only [Nat.zero_add] at g1
          rw [g1] at g2
          cases g2
          exact .same _
      have e1 : sqAV (sqOut (SqO.go l ws fs)) = .tup [.sl 4 (wCells ws), .sl 1 (fsL fs n), .sl 4 [], .int .i64 0] := by
        unfold sqAV sqOut fsL matAV rowAV wCells rrs
        rw [List.take_of_length_le (by omega), List.map_map]
        rfl
      rw [e1]
      exact AW.ret (ret_views [.sl 4 (wCells ws), .sl 1 (fsL fs n), .sl 4 [], .int .i64 0] rfl ⟨.same _, hvo, .nilsl 4, .same _, trivial⟩ ⟨rfl, rfl⟩)
  · have hR : sqR m = ⟨chk m, [], [], []⟩ := by unfold sqR; rw [if_pos (by simpa using h0)]
    rw [hR]
    generalize chk m = e at *
    refine acall_S Tryz.func31 rfl rfl 110 rfl (Nat.le_of_ble_eq_true rfl) ?_
    (repeat refine AW.seq_k fun K hK => ?_)
    refine AW.rg ?_
    simp [argsL]
    try (refine hK _ rfl ?_; clear hK; clear K)
    (repeat refine AW.seq_k fun K hK => ?_)
    refine AW.rg ?_
    simp
    try (refine hK _ rfl ?_; clear hK; clear K)
    refine CallK.val hck ?_
    simp
    refine hK _ rfl ?_
    clear hK
    clear K
    (repeat refine AW.seq_k fun K hK => ?_)
    refine AW.rg ?_
    simp [h0]
    try (refine hK _ rfl ?_; clear hK; clear K)
    refine AW.yes ?_ rfl
    (repeat refine AW.seq_k fun K hK => ?_)
    refine AW.rg ?_
    simp
    try (refine hK _ rfl ?_; clear hK; clear K)
    exact AW.ret (ret_views [rowAV [], matAV [], rowAV [], .int .i64 e] rfl ⟨.nilsl 4, .nilsl 1, .nilsl 4, .same _, trivial⟩ ⟨rfl, rfl⟩)
end Go.Av
end
section
namespace Go.Av
open Go.Proofs
/-- A function that says whether two values are the same. -/
def saysEq (p : Prop) (v : AV) : Prop := ∃ t : Bool, v = .bool t ∧ (t = true ↔ p)
theorem list_ext_nth {a b : List Nat} (h : a.length = b.length) (he : ∀ k, k < a.length → nth a k = nth b k) : a = b := by
  refine List.ext_getElem h fun k h1 h2 => ?_
  have := he k h1
  unfold nth at this
  rwa [List.getD_eq_getElem?_getD, List.getD_eq_getElem?_getD, List.getElem?_eq_getElem h1, List.getElem?_eq_getElem h2] at this
theorem ints2_call (n1 n2 : Bool) (l1 l2 : List Nat) (h1 : l1.length < 2^40) : ACall Tryz.prog 62 [.agg [.bool n1, lim l1], .agg [.bool n2, lim l2]] Mem.emp fun v m => saysEq (n1 = n2 ∧ l1 = l2) v ∧ m = Mem.emp := by
  by_cases hn : n1 = n2
  · subst hn
    by_cases hl : l1.length = l2.length
    · refine acall_S Tryz.func62 rfl rfl 38 rfl (Nat.le_of_ble_eq_true rfl) ?_
      (repeat refine AW.seq_k fun K hK => ?_)
      refine AW.rgR [2,3] ?_
      simp [argsL]
      try (refine hK _ rfl ?_; clear hK; clear K)
      (repeat refine AW.seq_k fun K hK => ?_)
      refine AW.rg ?_
      simp [hl]
      try (refine hK _ rfl ?_; clear hK; clear K)
      refine AW.no ?_ (by simp)
      refine AW.skip ?_
      try simp
      refine hK _ rfl ?_
      clear hK
      clear K
      refine AW.seq_ex (ι := Unit) (fun _ => []) (fun _ => Mem.emp) (fun _ => l1 = l2) ?_ ?_
      · (repeat refine AW.seq_k fun K hK => ?_)
        refine AW.rg ?_
        simp
        try (refine hK _ rfl ?_; clear hK; clear K)
        refine AW.block (AW.loopS (ι := Nat) (fun i => [(2, .rptr [.bool n1, lim l1]), (3, .rptr [.bool n1, lim l2]), (5, .int .i64 (i : Nat))]) (fun _ => Mem.emp) (fun i => i ≤ l1.length ∧ ∀ k, k < i → nth l1 k = nth l2 k) (fun i => l1.length - i) 0 ⟨by simp, by simp⟩ rfl (by simp) ?_)
        rintro i ⟨g1, g2⟩
        (repeat refine AW.seq_k fun K hK => ?_)
        refine AW.rg ?_
        simp
        try (refine hK _ rfl ?_; clear hK; clear K)
        (repeat refine AW.seq ?_)
        refine AW.cs (fun hi => ?_) (fun hi => ?_) rfl <;> (try simp at hi)
        · refine AW.skip ?_
          try simp
          refine hK _ rfl ?_
          clear hK
          clear K
          have hi2 : i < l2.length := by omega
          have w1 : IntKind.i64.wrap ((i + 1 : Nat) : Int) = ((i + 1 : Nat) : Int) := wi (by omega)
          refine AW.seq_ex (ι := Unit) (fun _ => [(2, .rptr [.bool n1, lim l1]), (3, .rptr [.bool n1, lim l2]), (5, .int .i64 (i : Nat))]) (fun _ => Mem.emp) (fun _ => nth l1 i = nth l2 i) ?_ ?_
          · (repeat refine AW.seq ?_)
            refine AW.block ?_
            (repeat refine AW.seq_k fun K hK => ?_)
            refine AW.rd [0, 1, 2, 3, 4, 5, 6, 7, 8, 9, 10] mix ?_
            simp [hi, hi2]
            try (refine hK _ rfl ?_; clear hK; clear K)
            by_cases h0 : nth l1 i = nth l2 i
            · refine AW.no ?_ (by simp [h0])
              exact AW.skip ⟨(), h0, by simp⟩
            · refine AW.yes ?_ (by simp [h0])
              (repeat refine AW.seq_k fun K hK => ?_)
              refine AW.rg ?_
              simp
              try (refine hK _ rfl ?_; clear hK; clear K)
              exact AW.ret (ret_views (vs := [.bool false]) [.bool false] (by simp) (by simp) ⟨⟨false, rfl, by simp; intro h; exact h0 (by rw [h])⟩, rfl⟩)
          rintro _ h0
          (repeat refine AW.seq_k fun K hK => ?_)
          refine AW.rg ?_
          simp [-Int.natCast_add, w1]
          try (refine hK _ rfl ?_; clear hK; clear K)
          refine ⟨⟨hi, fun k hk => ?_⟩, by omega⟩
          rcases Nat.lt_succ_iff_lt_or_eq.1 hk with h | rfl
          · exact g2 k h
          · exact h0
        · refine AW.exit ?_
          try simp
          exact list_ext_nth hl fun k hk => g2 k (by omega)
      rintro _ rfl
      (repeat refine AW.seq_k fun K hK => ?_)
      refine AW.rg ?_
      simp
      try (refine hK _ rfl ?_; clear hK; clear K)
      exact AW.ret (ret_views (vs := [.bool true]) [.bool true] (by simp) (by simp) ⟨⟨true, rfl, by simp⟩, rfl⟩)
    · refine acall_S Tryz.func62 rfl rfl 38 rfl (Nat.le_of_ble_eq_true rfl) ?_
      (repeat refine AW.seq_k fun K hK => ?_)
      refine AW.rgR [2,3] ?_
      simp [argsL]
      try (refine hK _ rfl ?_; clear hK; clear K)
      (repeat refine AW.seq_k fun K hK => ?_)
      refine AW.rg ?_
      simp [hl]
      try (refine hK _ rfl ?_; clear hK; clear K)
      refine AW.yes ?_ (by simp)
      (repeat refine AW.seq_k fun K hK => ?_)
      refine AW.rg ?_
      simp
      try (refine hK _ rfl ?_; clear hK; clear K)
      exact AW.ret (ret_views (vs := [.bool false]) [.bool false] (by simp) (by simp) ⟨⟨false, rfl, by simp; intro h; exact hl (by rw [h])⟩, rfl⟩)
  · refine acall_S Tryz.func62 rfl rfl 38 rfl (Nat.le_of_ble_eq_true rfl) ?_
    (repeat refine AW.seq_k fun K hK => ?_)
    refine AW.rgR [2,3] ?_
    simp [argsL]
    try (refine hK _ rfl ?_; clear hK; clear K)
    (repeat refine AW.seq_k fun K hK => ?_)
    refine AW.rg ?_
    simp [hn]
    try (refine hK _ rfl ?_; clear hK; clear K)
    refine AW.yes ?_ (by simp)
    (repeat refine AW.seq_k fun K hK => ?_)
    refine AW.rg ?_
    simp
    try (refine hK _ rfl ?_; clear hK; clear K)
    exact AW.ret (ret_views (vs := [.bool false]) [.bool false] (by simp) (by simp) ⟨⟨false, rfl, by simp [hn]⟩, rfl⟩)
def shortR (a : RR) : Prop := a.l1.length < 2^40 ∧ a.l2.length < 2^40
theorem same_call (a b : RR) (h : shortR a) : ACall Tryz.prog 26 [a.av, b.av] Mem.emp fun v m => saysEq (a = b) v ∧ m = Mem.emp := by
  have i1 := ints2_call a.n1 b.n1 a.l1 b.l1 h.1
  have i2 := ints2_call a.n2 b.n2 a.l2 b.l2 h.2
  have hab : a = b ↔ (a.n1 = b.n1 ∧ a.l1 = b.l1) ∧ (a.n2 = b.n2 ∧ a.l2 = b.l2) := by
    obtain ⟨x1, x2, x3, x4⟩ := a
    obtain ⟨y1, y2, y3, y4⟩ := b
    simp only [RR.mk.injEq, and_assoc]
  unfold RR.av
  refine acall_S Tryz.func26 rfl rfl 17 rfl (Nat.le_of_ble_eq_true rfl) ?_
  (repeat refine AW.seq_k fun K hK => ?_)
  refine AW.rgR [2,3] ?_
  simp [argsL]
  try (refine hK _ rfl ?_; clear hK; clear K)
  (repeat refine AW.seq_k fun K hK => ?_)
  refine AW.rg ?_
  simp
  try (refine hK _ rfl ?_; clear hK; clear K)
  refine CallK.pure i1 ?_
  rintro _ ⟨t1, rfl, h1⟩
  simp
  cases t1
  · simp
    refine hK _ rfl ?_
    clear hK
    clear K
    exact AW.ret (ret_views (vs := [.bool false]) [.bool false] (by simp) (by simp) ⟨⟨false, rfl, by simp only [Bool.false_eq_true, false_iff]; intro h; have := h1.2 (hab.1 h).1; cases this⟩, rfl⟩)
  · simp
    refine CallK.pure i2 ?_
    rintro _ ⟨t2, rfl, h2⟩
    simp
    refine hK _ rfl ?_
    clear hK
    clear K
    exact AW.ret (ret_views (vs := [.bool t2]) [.bool t2] (by simp) (by simp) ⟨⟨t2, rfl, by rw [h2, hab]; exact ⟨fun h => ⟨h1.1 rfl, h⟩, fun h => h.2⟩⟩, rfl⟩)
theorem list_ext_rr {a b : List RR} (h : a.length = b.length) (he : ∀ k, k < a.length → rr a k = rr b k) : a = b := by
  refine List.ext_getElem h fun k h1 h2 => ?_
  have := he k h1
  rwa [rr_eq h1, rr_eq h2] at this
theorem list_ext_row {α : Type} {a b : List (List α)} (h : a.length = b.length) (he : ∀ k, k < a.length → mrow a k = mrow b k) : a = b := by
  refine List.ext_getElem h fun k h1 h2 => ?_
  have := he k h1
  rwa [mrow_eq h1, mrow_eq h2] at this
theorem row_call (a b : List RR) (h : ∀ x ∈ a, shortR x) (hl : a.length < 2^40) : ACall Tryz.prog 44 [rowAV a, rowAV b] Mem.emp fun v m => saysEq (a = b) v ∧ m = Mem.emp := by
  by_cases hab : a.length = b.length
  · refine acall_S Tryz.func44 rfl rfl 27 rfl (Nat.le_of_ble_eq_true rfl) ?_
    (repeat refine AW.seq_k fun K hK => ?_)
    refine AW.rg ?_
    simp [argsL]
    try (refine hK _ rfl ?_; clear hK; clear K)
    (repeat refine AW.seq_k fun K hK => ?_)
    refine AW.rg ?_
    simp
    try (refine hK _ rfl ?_; clear hK; clear K)
    refine AW.no ?_ (by simp [hab])
    refine AW.skip ?_
    try simp
    refine hK _ rfl ?_
    clear hK
    clear K
    refine AW.seq_ex (ι := Unit) (fun _ => []) (fun _ => Mem.emp) (fun _ => a = b) ?_ ?_
    · (repeat refine AW.seq_k fun K hK => ?_)
      refine AW.rg ?_
      simp
      try (refine hK _ rfl ?_; clear hK; clear K)
      refine AW.block (AW.loopS (ι := Nat) (fun i => [(0, rowAV a), (1, rowAV b), (5, .int .i64 (i : Nat))]) (fun _ => Mem.emp) (fun i => i ≤ a.length ∧ ∀ k, k < i → rr a k = rr b k) (fun i => a.length - i) 0 ⟨by simp, by simp⟩ rfl (by simp) ?_)
      rintro i ⟨g1, g2⟩
      (repeat refine AW.seq_k fun K hK => ?_)
      refine AW.rg ?_
      simp
      try (refine hK _ rfl ?_; clear hK; clear K)
      (repeat refine AW.seq ?_)
      refine AW.cs (fun hi => ?_) (fun hi => ?_) rfl <;> (try simp at hi)
      · refine AW.skip ?_
        try simp
        refine hK _ rfl ?_
        clear hK
        clear K
        have hi2 : i < b.length := by omega
        have w1 : IntKind.i64.wrap ((i + 1 : Nat) : Int) = ((i + 1 : Nat) : Int) := wi (by omega)
        have hs := same_call (rr a i) (rr b i) (h _ (by rw [rr_eq hi]; exact List.getElem_mem hi))
        refine AW.seq_ex (ι := Unit) (fun _ => [(0, rowAV a), (1, rowAV b), (5, .int .i64 (i : Nat))]) (fun _ => Mem.emp) (fun _ => rr a i = rr b i) ?_ ?_
        · (repeat refine AW.seq ?_)
          refine AW.block ?_
          (repeat refine AW.seq_k fun K hK => ?_)
          refine AW.rd [0, 1, 2, 3, 4, 5, 6, 7, 8, 9] mix ?_
          simp [hi, hi2]
          try (refine hK _ rfl ?_; clear hK; clear K)
          refine CallK.pure hs ?_
          rintro _ ⟨t, rfl, ht⟩
          simp
          refine hK _ rfl ?_
          clear hK
          clear K
          cases t
          · refine AW.yes ?_ rfl
            (repeat refine AW.seq_k fun K hK => ?_)
            refine AW.rg ?_
            simp
            try (refine hK _ rfl ?_; clear hK; clear K)
            exact AW.ret (ret_views (vs := [.bool false]) [.bool false] (by simp) (by simp) ⟨⟨false, rfl, by simp only [Bool.false_eq_true, false_iff]; intro h; have := ht.2 (by rw [h]); cases this⟩, rfl⟩)
          · refine AW.no ?_ rfl
            exact AW.skip ⟨(), ht.1 rfl, by simp⟩
        rintro _ h0
        (repeat refine AW.seq_k fun K hK => ?_)
        refine AW.rg ?_
        simp [-Int.natCast_add, w1]
        try (refine hK _ rfl ?_; clear hK; clear K)
        refine ⟨⟨hi, fun k hk => ?_⟩, by omega⟩
        rcases Nat.lt_succ_iff_lt_or_eq.1 hk with h | rfl
        · exact g2 k h
        · exact h0
      · refine AW.exit ?_
        try simp
        exact list_ext_rr hab fun k hk => g2 k (by omega)
    rintro _ rfl
    (repeat refine AW.seq_k fun K hK => ?_)
    refine AW.rg ?_
    simp
    try (refine hK _ rfl ?_; clear hK; clear K)
    exact AW.ret (ret_views (vs := [.bool true]) [.bool true] (by simp) (by simp) ⟨⟨true, rfl, by simp⟩, rfl⟩)
  · refine acall_S Tryz.func44 rfl rfl 27 rfl (Nat.le_of_ble_eq_true rfl) ?_
    (repeat refine AW.seq_k fun K hK => ?_)
    refine AW.rg ?_
    simp [argsL]
    try (refine hK _ rfl ?_; clear hK; clear K)
    (repeat refine AW.seq_k fun K hK => ?_)
    refine AW.rg ?_
    simp
    try (refine hK _ rfl ?_; clear hK; clear K)
    refine AW.yes ?_ (by simp [hab])
    (repeat refine AW.seq_k fun K hK => ?_)
    refine AW.rg ?_
    simp
    try (refine hK _ rfl ?_; clear hK; clear K)
    exact AW.ret (ret_views (vs := [.bool false]) [.bool false] (by simp) (by simp) ⟨⟨false, rfl, by simp; intro h; exact hab (by rw [h])⟩, rfl⟩)
theorem rows_call (a b : List (List RR)) (h : ∀ r ∈ a, ∀ x ∈ r, shortR x) (hl : a.length < 2^40) (hr : ∀ r ∈ a, r.length < 2^40) : ACall Tryz.prog 21 [matAV a, matAV b] Mem.emp fun v m => saysEq (a = b) v ∧ m = Mem.emp := by
  by_cases hab : a.length = b.length
  · refine acall_S Tryz.func21 rfl rfl 27 rfl (Nat.le_of_ble_eq_true rfl) ?_
    (repeat refine AW.seq_k fun K hK => ?_)
    refine AW.rg ?_
    simp [argsL]
    try (refine hK _ rfl ?_; clear hK; clear K)
    (repeat refine AW.seq_k fun K hK => ?_)
    refine AW.rg ?_
    simp
    try (refine hK _ rfl ?_; clear hK; clear K)
    refine AW.no ?_ (by simp [hab])
    refine AW.skip ?_
    try simp
    refine hK _ rfl ?_
    clear hK
    clear K
    refine AW.seq_ex (ι := Unit) (fun _ => []) (fun _ => Mem.emp) (fun _ => a = b) ?_ ?_
    · (repeat refine AW.seq_k fun K hK => ?_)
      refine AW.rg ?_
      simp
      try (refine hK _ rfl ?_; clear hK; clear K)
      refine AW.block (AW.loopS (ι := Nat) (fun i => [(0, matAV a), (1, matAV b), (5, .int .i64 (i : Nat))]) (fun _ => Mem.emp) (fun i => i ≤ a.length ∧ ∀ k, k < i → mrow a k = mrow b k) (fun i => a.length - i) 0 ⟨by simp, by simp⟩ rfl (by simp) ?_)
      rintro i ⟨g1, g2⟩
      (repeat refine AW.seq_k fun K hK => ?_)
      refine AW.rg ?_
      simp
      try (refine hK _ rfl ?_; clear hK; clear K)
      (repeat refine AW.seq ?_)
      refine AW.cs (fun hi => ?_) (fun hi => ?_) rfl <;> (try simp at hi)
      · refine AW.skip ?_
        try simp
        refine hK _ rfl ?_
        clear hK
        clear K
        have hi2 : i < b.length := by omega
        have w1 : IntKind.i64.wrap ((i + 1 : Nat) : Int) = ((i + 1 : Nat) : Int) := wi (by omega)
        have hm : mrow a i ∈ a := by rw [mrow_eq hi]; exact List.getElem_mem hi
        have hs := row_call (mrow a i) (mrow b i) (h _ hm) (hr _ hm)
        refine AW.seq_ex (ι := Unit) (fun _ => [(0, matAV a), (1, matAV b), (5, .int .i64 (i : Nat))]) (fun _ => Mem.emp) (fun _ => mrow a i = mrow b i) ?_ ?_
        · (repeat refine AW.seq ?_)
          refine AW.block ?_
          (repeat refine AW.seq_k fun K hK => ?_)
          refine AW.rd [0, 1, 2, 3, 4, 5, 6, 7, 8, 9] mix ?_
          simp [hi, hi2]
          try (refine hK _ rfl ?_; clear hK; clear K)
          refine CallK.pure hs ?_
          rintro _ ⟨t, rfl, ht⟩
          simp
          refine hK _ rfl ?_
          clear hK
          clear K
          cases t
          · refine AW.yes ?_ rfl
            (repeat refine AW.seq_k fun K hK => ?_)
            refine AW.rg ?_
            simp
            try (refine hK _ rfl ?_; clear hK; clear K)
            exact AW.ret (ret_views (vs := [.bool false]) [.bool false] (by simp) (by simp) ⟨⟨false, rfl, by simp only [Bool.false_eq_true, false_iff]; intro h; have := ht.2 (by rw [h]); cases this⟩, rfl⟩)
          · refine AW.no ?_ rfl
            exact AW.skip ⟨(), ht.1 rfl, by simp⟩
        rintro _ h0
        (repeat refine AW.seq_k fun K hK => ?_)
        refine AW.rg ?_
        simp [-Int.natCast_add, w1]
        try (refine hK _ rfl ?_; clear hK; clear K)
        refine ⟨⟨hi, fun k hk => ?_⟩, by omega⟩
        rcases Nat.lt_succ_iff_lt_or_eq.1 hk with h | rfl
        · exact g2 k h
        · exact h0
      · refine AW.exit ?_
        try simp
        exact list_ext_row hab fun k hk => g2 k (by omega)
    rintro _ rfl
    (repeat refine AW.seq_k fun K hK => ?_)
    refine AW.rg ?_
    simp
    try (refine hK _ rfl ?_; clear hK; clear K)
    exact AW.ret (ret_views (vs := [.bool true]) [.bool true] (by simp) (by simp) ⟨⟨true, rfl, by simp⟩, rfl⟩)
  · refine acall_S Tryz.func21 rfl rfl 27 rfl (Nat.le_of_ble_eq_true rfl) ?_
    (repeat refine AW.seq_k fun K hK => ?_)
    refine AW.rg ?_
    simp [argsL]
    try (refine hK _ rfl ?_; clear hK; clear K)
    (repeat refine AW.seq_k fun K hK => ?_)
    refine AW.rg ?_
    simp
    try (refine hK _ rfl ?_; clear hK; clear K)
    refine AW.yes ?_ (by simp [hab])
    (repeat refine AW.seq_k fun K hK => ?_)
    refine AW.rg ?_
    simp
    try (refine hK _ rfl ?_; clear hK; clear K)
    exact AW.ret (ret_views (vs := [.bool false]) [.bool false] (by simp) (by simp) ⟨⟨false, rfl, by simp; intro h; exact hab (by rw [h])⟩, rfl⟩)
end Go.Av
end
section
namespace Go.Av
open Go.Proofs
theorem wholeW_call (n : Int) (h1 : -9223372036854775808 ≤ n) (h2 : n < 9223372036854775808) : ACall Tryz.prog 37 [.int .i64 n] Mem.emp fun v m => v = (ofQ (intQ n)).av ∧ m = Mem.emp := by
  have ho := of2_call n 1 h1 h2 (by omega) (by omega) (by omega)
  have e : Rat.divInt n 1 = intQ n := rfl
  rw [e, resQ] at ho
  generalize intQ n = q at *
  unfold qAV at ho
  unfold RR.av ofQ
  simp only
  refine acall_S Tryz.func37 rfl rfl 11 rfl (Nat.le_of_ble_eq_true rfl) ?_
  (repeat refine AW.seq_k fun K hK => ?_)
  refine AW.rg ?_
  simp [argsL]
  try (refine hK _ rfl ?_; clear hK; clear K)
  refine Fresh.intro fun b2 hb2 => ?_
  refine hK _ rfl ?_
  clear hK
  clear K
  (repeat refine AW.seq_k fun K hK => ?_)
  refine AW.rg ?_
  simp
  try (refine hK _ rfl ?_; clear hK; clear K)
  refine CallK.val ho ?_
  simp
  refine Fresh.intro fun b3 hb3 => ?_
  simp only [set_none2, emp_at, and_true] at hb3
  try simp [hb3]
  refine hK _ rfl ?_
  clear hK
  clear K
  (repeat refine AW.seq_k fun K hK => ?_)
  refine AW.rg ?_
  simp [hb3]
  try (refine hK _ rfl ?_; clear hK; clear K)
  exact AW.ret (ret_views (vs := [.agg [.bool (decide (q.num < 0)), lim (dig q.num.natAbs), .bool false, lim (dig q.den)]]) [.agg [.bool (decide (q.num < 0)), lim (dig q.num.natAbs), .bool false, lim (dig q.den)]] (by simp [hb3]) (by simp) ⟨rfl, rfl⟩)
end Go.Av
end
section
namespace Go.Av
open Go.Proofs
theorem unq_emb (X : List (List Rat)) : unq (emb X) = X := by
  unfold unq emb
  rw [List.map_map]
  conv => rhs; rw [← List.map_id X]
  refine List.map_congr_left fun r _ => ?_
  show (r.map ofQ).map RR.q = r
  rw [List.map_map]
  conv => rhs; rw [← List.map_id r]
  exact List.map_congr_left fun q _ => ofQ_q q
theorem chk_good {n w : Nat} {X : List (List Rat)} (h : matGood n w X) (hw : (mrow X 0).length = w) (h1 : n ≤ 64) (h2 : w ≤ 64) : chk (emb X) = 0 := by
  refine chk_ok ?_ ?_
  · rintro (h' | ⟨k, hk, h'⟩)
    · rw [emb_length, h.2.2] at h'; omega
    · rw [emb_length, h.2.2] at hk
      rw [emb_row, List.length_map, (h.row hk).2] at h'; omega
  · intro k hk
    rw [emb_length, h.2.2] at hk
    rw [emb_row, emb_row, List.length_map, List.length_map, (h.row hk).2, hw]
    refine ⟨rfl, fun j hj => ?_⟩
    have hjl : j < (mrow X k).length := by rw [(h.row hk).2]; exact hj
    rw [rr_map hjl]
    exact ofQ_ok ((h.row hk).1.at hjl)
def exK : List (List Rat) := [[intQ 0, intQ 2, intQ 4], [intQ 1, intQ 1, intQ 1]]
def exD : List (List Rat) := [[intQ 1, intQ 2], [intQ 3, intQ 4]]
def exS : List (List Rat) := [[intQ 1, intQ 2], [intQ 2, intQ 1]]
theorem exK_good : matGood 2 3 exK := ⟨by unfold GoodM Good; decide +kernel, by unfold dimM; decide +kernel, rfl⟩
theorem exD_good : matGood 2 2 exD := ⟨by unfold GoodM Good; decide +kernel, by unfold dimM; decide +kernel, rfl⟩
theorem exS_good : matGood 2 2 exS := ⟨by unfold GoodM Good; decide +kernel, by unfold dimM; decide +kernel, rfl⟩
theorem exK_red : reduceQ exK = some ([[intQ 1, intQ 0, intQ (-1)], [intQ 0, intQ 1, intQ 2]], [0, 1]) := by decide +kernel
theorem exK_ker : kerP [[intQ 1, intQ 0, intQ (-1)], [intQ 0, intQ 1, intQ 2]] [0, 1] 3 3 = [[intQ 1, intQ (-2), intQ 1]] := by decide +kernel
theorem exK_R : kerR (emb exK) = (0, [[intQ 1, intQ (-2), intQ 1]]) := by
  have hc := chk_good exK_good rfl (by omega) (by omega)
  have hr : redR (emb exK) = (0, [[intQ 1, intQ 0, intQ (-1)], [intQ 0, intQ 1, intQ 2]], [0, 1]) := by
    unfold redR
    rw [if_neg (by simp [hc]), unq_emb, exK_red]
  unfold kerR
  rw [hr, if_neg (by simp)]
  exact congrArg _ exK_ker
theorem exD_det : detQ 2 exD = some (intQ (-2)) := by decide +kernel
theorem exD_R : detR (emb exD) = (0, ofQ (intQ (-2))) := by
  have hc := chk_good exD_good rfl (by omega) (by omega)
  unfold detR
  rw [if_neg (by simp [hc]), unq_emb, if_neg (by simp [emb, exD, mrow]), show (emb exD).length = 2 from rfl, exD_det]
theorem exS_sq : sqIter 2 exS 2 = .vec [intQ (-2), intQ 1] := by
  have : (match sqIter 2 exS 2 with | .vec v => decide (v = [intQ (-2), intQ 1]) | _ => false) = true := by decide +kernel
  revert this
  cases sqIter 2 exS 2 <;> simp
theorem exS_R : sqR (emb exS) = ⟨0, [], [], [intQ (-2), intQ 1]⟩ := by
  have hc := chk_good exS_good rfl (by omega) (by omega)
  unfold sqR
  rw [if_neg (by simp [hc]), unq_emb, show (emb exS).length = 2 from rfl, if_pos ⟨rfl, by unfold symm; decide +kernel⟩, exS_sq]
  rfl
set_option maxHeartbeats 1000000
theorem works_call : ACall Tryz.prog 16 [] Mem.emp fun v m => v = .bool true ∧ m = Mem.emp := by
  have hw := fun (n : Int) (h1 : -9223372036854775808 ≤ n) (h2 : n < 9223372036854775808) => wholeW_call n h1 h2
  have hk := kernelL_call (emb exK) (lb_emb _)
  rw [exK_R] at hk
  have hd := detL_call (emb exD) (lb_emb _)
  rw [exD_R] at hd
  have hs := squaresL_call (emb exS) (lb_emb _)
  rw [exS_R] at hs
  have sh : ∀ q, Good q → shortR (ofQ q) := fun q h => short_good h
  have g1 : Good (intQ 1) := intQ_good (by decide)
  have g2 : Good (intQ (-2)) := intQ_good (by decide)
  have hrows := rows_call (emb [[intQ 1, intQ (-2), intQ 1]]) (emb [[intQ 1, intQ (-2), intQ 1]]) (by
    intro r hr x hx
    simp [emb] at hr
    subst hr
    simp at hx
    rcases hx with rfl | rfl | rfl
    · exact sh _ g1
    · exact sh _ g2
    · exact sh _ g1) (by decide) (by
    intro r hr
    simp [emb] at hr
    subst hr
    decide)
  have hrow := row_call ([intQ (-2), intQ 1].map ofQ) ([intQ (-2), intQ 1].map ofQ) (by
    intro x hx
    simp at hx
    rcases hx with rfl | rfl
    · exact sh _ g2
    · exact sh _ g1) (by decide)
  have hsame := same_call (ofQ (intQ (-2))) (ofQ (intQ (-2))) (sh _ g2)
  refine acall_S Tryz.func16 rfl rfl 79 rfl (Nat.le_of_ble_eq_true rfl) ?_
  (repeat refine AW.seq_k fun K hK => ?_)
  refine AW.rg ?_
  simp [argsL]
  try (refine hK _ rfl ?_; clear hK; clear K)
  (repeat refine AW.seq_k fun K hK => ?_)
  refine AW.rgR [13,17,18] ?_
  simp
  try (refine hK _ rfl ?_; clear hK; clear K)
  refine CallK.val (hw 0 (by omega) (by omega)) ?_
  simp
  refine CallK.val (hw 2 (by omega) (by omega)) ?_
  simp
  refine CallK.val (hw 4 (by omega) (by omega)) ?_
  simp
  refine CallK.val (hw 1 (by omega) (by omega)) ?_
  simp
  refine CallK.val (hw 1 (by omega) (by omega)) ?_
  simp
  refine CallK.val (hw 1 (by omega) (by omega)) ?_
  simp
  refine hK _ rfl ?_
  clear hK
  clear K
  (repeat refine AW.seq_k fun K hK => ?_)
  refine AW.rg ?_
  simp
  try (refine hK _ rfl ?_; clear hK; clear K)
  refine CallK.val hk ?_
  simp
  refine hK _ rfl ?_
  clear hK
  clear K
  (repeat refine AW.seq_k fun K hK => ?_)
  refine AW.rgR [27,30,31] ?_
  simp
  try (refine hK _ rfl ?_; clear hK; clear K)
  refine CallK.val (hw 1 (by omega) (by omega)) ?_
  simp
  refine CallK.val (hw 2 (by omega) (by omega)) ?_
  simp
  refine CallK.val (hw 3 (by omega) (by omega)) ?_
  simp
  refine CallK.val (hw 4 (by omega) (by omega)) ?_
  simp
  refine CallK.val hd ?_
  simp
  refine Fresh.intro fun b4 _ => ?_
  refine hK _ rfl ?_
  clear hK
  clear K
  refine AW.toEmp [(2, matAV (emb [[intQ 1, intQ (-2), intQ 1]])), (3, .int .i64 0), (4, .rptr [.bool (ofQ (intQ (-2))).n1, lim (ofQ (intQ (-2))).l1, .bool (ofQ (intQ (-2))).n2, lim (ofQ (intQ (-2))).l2]), (5, .int .i64 0)] (by simp; exact view_temp rfl) ?_
  (repeat refine AW.seq_k fun K hK => ?_)
  refine AW.rgR [38,41,42] ?_
  simp
  try (refine hK _ rfl ?_; clear hK; clear K)
  refine CallK.val (hw 1 (by omega) (by omega)) ?_
  simp
  refine CallK.val (hw 2 (by omega) (by omega)) ?_
  simp
  refine CallK.val (hw 2 (by omega) (by omega)) ?_
  simp
  refine CallK.val (hw 1 (by omega) (by omega)) ?_
  simp
  refine CallK.val hs ?_
  simp [sqAV]
  refine hK _ rfl ?_
  clear hK
  clear K
  have yes : ∀ {p : Prop} {v : AV} {m : Mem}, p → saysEq p v ∧ m = Mem.emp → v = .bool true ∧ m = Mem.emp := by
    rintro p v m hp ⟨⟨t, rfl, h⟩, h2⟩
    exact ⟨by rw [h.2 hp], h2⟩
  replace hrows := hrows.mono fun v m h => yes rfl h
  replace hrow := hrow.mono fun v m h => yes rfl h
  replace hsame := hsame.mono fun v m h => yes rfl h
  refine AW.seq_k fun K hK => ?_
  refine AW.rdR [55, 56, 76] [0,1,2,3,4,5,6,7,8,9,10,11,12,13,14,15,16,17,18,19,20,21,22,23,24,25,26,27,28,29,30,31] mix ?_
  simp
  refine CallK.val (hw 1 (by omega) (by omega)) ?_
  simp
  refine CallK.val (hw (-2) (by omega) (by omega)) ?_
  simp
  refine CallK.val (hw 1 (by omega) (by omega)) ?_
  simp
  refine CallK.val hrows ?_
  simp
  refine CallK.val (hw (-2) (by omega) (by omega)) ?_
  simp
  refine CallK.val hsame ?_
  simp
  refine CallK.val (hw (-2) (by omega) (by omega)) ?_
  simp
  refine CallK.val (hw 1 (by omega) (by omega)) ?_
  simp
  refine CallK.val hrow ?_
  simp
  refine hK _ rfl ?_
  clear hK
  clear K
  exact AW.ret (ret_views (vs := [.bool true]) [.bool true] (by simp) (by simp) ⟨rfl, rfl⟩)
end Go.Av
end
section
namespace Go.Av
open Go.Proofs
def pivI (o : Option Nat) : Int := match o with
  | some i => i
  | none => -1
theorem less_call (a f b : Rat) (ha : Good a) (hf : Good f) (hb : Good b) : ACall Tryz.prog 112 [(ofQ a).av, (ofQ f).av, (ofQ b).av] Mem.emp fun v m => v = resQ (lessQ a f b) ∧ m = Mem.emp := by
  have hm := mul2_call b f hb hf
  have hl : lessQ a f b = (mulQ b f).bind (subQ a) := rfl
  rw [hl]
  cases hq : mulQ b f with
  | none =>
    rw [hq] at hm
    simp only [resQ] at hm
    refine acall_S Tryz.func112 rfl rfl 25 rfl (Nat.le_of_ble_eq_true rfl) ?_
    (repeat refine AW.seq_k fun K hK => ?_)
    refine AW.rgR [3,4,5] ?_
    simp [argsL]
    try (refine hK _ rfl ?_; clear hK; clear K)
    refine Fresh.intro fun b6 hb6 => ?_
    refine hK _ rfl ?_
    clear hK
    clear K
    (repeat refine AW.seq_k fun K hK => ?_)
    refine AW.rg ?_
    simp
    try (refine hK _ rfl ?_; clear hK; clear K)
    refine CallK.val hm ?_
    simp [zeroRat]
    refine Fresh.intro fun b8 hb8 => ?_
    simp only [set_none2, emp_at, and_true] at hb8
    try simp [hb8]
    refine hK _ rfl ?_
    clear hK
    clear K
    (repeat refine AW.seq_k fun K hK => ?_)
    refine AW.rg ?_
    simp [hb8]
    try (refine hK _ rfl ?_; clear hK; clear K)
    refine AW.yes ?_ rfl
    (repeat refine AW.seq_k fun K hK => ?_)
    refine AW.rg ?_
    simp [hb8]
    try (refine hK _ rfl ?_; clear hK; clear K)
    exact AW.ret (ret_rat (b := b6) (.bool false) (lim []) (.bool false) (lim []) rfl rfl (by simp [hb8]) rfl ⟨.same _, .nilsl 1, .same _, .nilsl 1, trivial⟩ ⟨rfl, rfl⟩)
  | some p =>
    rw [hq] at hm
    simp only [resQ] at hm
    have hs := sub2_call a p ha (good_mul hq)
    show ACall Tryz.prog 112 _ _ fun v m => v = resQ (subQ a p) ∧ m = Mem.emp
    refine acall_S Tryz.func112 rfl rfl 25 rfl (Nat.le_of_ble_eq_true rfl) ?_
    (repeat refine AW.seq_k fun K hK => ?_)
    refine AW.rgR [3,4,5] ?_
    simp [argsL]
    try (refine hK _ rfl ?_; clear hK; clear K)
    refine Fresh.intro fun b6 hb6 => ?_
    refine hK _ rfl ?_
    clear hK
    clear K
    (repeat refine AW.seq_k fun K hK => ?_)
    refine AW.rg ?_
    simp
    try (refine hK _ rfl ?_; clear hK; clear K)
    refine CallK.val hm ?_
    simp [qAV]
    refine Fresh.intro fun b8 hb8 => ?_
    simp only [set_none2, emp_at, and_true] at hb8
    try simp [hb8]
    refine hK _ rfl ?_
    clear hK
    clear K
    (repeat refine AW.seq_k fun K hK => ?_)
    refine AW.rg ?_
    simp [hb8]
    try (refine hK _ rfl ?_; clear hK; clear K)
    refine AW.no ?_ rfl
    refine AW.skip ?_
    try simp
    refine hK _ rfl ?_
    clear hK
    clear K
    (repeat refine AW.seq_k fun K hK => ?_)
    refine AW.rg ?_
    simp [hb8]
    try (refine hK _ rfl ?_; clear hK; clear K)
    refine CallK.val hs ?_
    cases hsq : subQ a p with
    | none =>
      simp only [resQ]
      simp [zeroRat, hb8]
      refine hK _ rfl ?_
      clear hK
      clear K
      exact AW.ret (ret_rat (b := b6) (.bool false) (lim []) (.bool false) (lim []) rfl rfl (by simp [hb8]) rfl ⟨.same _, .same _, .same _, .same _, trivial⟩ ⟨by rw [hsq]; rfl, rfl⟩)
    | some z =>
      simp only [resQ]
      simp [qAV, hb8]
      refine hK _ rfl ?_
      clear hK
      clear K
      exact AW.ret (ret_rr (b := b6) (ofQ z) rfl rfl (by simp [hb8]; rfl) rfl ⟨by rw [hsq]; rfl, rfl⟩)
end Go.Av
end
section
namespace Go.Av
open Go.Proofs
def twoM (bi br : Nat) (a b : List Rat) : Mem := (Mem.emp.set bi ⟨36, 4, rrs (a.map ofQ)⟩).set br ⟨36, 4, rrs (b.map ofQ)⟩
def subOut (bi br : Nat) (by_ : List Rat) (X : Option (List Rat)) (v : AV) (M : Mem) : Prop :=
  match X with
  | some row => v = .int .i64 0 ∧ M = twoM bi br row by_
  | none => v = .int .i64 2 ∧ OnesM M ∧ ∀ b, M b ≠ none → b = bi ∨ b = br
end Go.Av
end
section
namespace Go.Av
open Go.Proofs
/-- A matrix of the reference in memory. -/
def RefM (M : Mem) (B : Nat) (bs : List Nat) (X : List (List Rat)) : Prop := MatM M B bs (emb X) ∧ OnlyM M (B :: bs)
theorem RefM.ones {M : Mem} {B : Nat} {bs : List Nat} {X : List (List Rat)} (h : RefM M B bs X) : OnesM M := h.1.ones (l := []) h.2 (by simp)
theorem RefM.setRow {M : Mem} {B : Nat} {bs : List Nat} {X : List (List Rat)} (h : RefM M B bs X) {i : Nat} (hi : i < X.length) {r : List Rat} (hr : r.length = (mrow X i).length) : RefM (M.set (nb bs i) ⟨36, 4, rrs (r.map ofQ)⟩) B bs (X.set i r) := by
  refine ⟨?_, h.2.set ?_ _⟩
  · rw [emb_set]
    exact h.1.setRow (by rw [emb_length]; exact hi) _ (by rw [emb_row, List.length_map, List.length_map, hr])
  · exact List.mem_cons_of_mem _ (nb_mem (by rw [h.1.len, emb_length]; exact hi))
def clearOut (B : Nat) (bs : List Nat) (Z : Option (List (List Rat))) (v : AV) (M : Mem) : Prop :=
  match Z with
  | some Y => v = .int .i64 0 ∧ RefM M B bs Y
  | none => v = .int .i64 2 ∧ OnesM M
set_option maxHeartbeats 1000000
end Go.Av
end
section
namespace Go.Av
open Go.Proofs
/-- A matrix whose rows are appended one after the other. -/
def CopM (M : Mem) (ov : AV) (bs : List Nat) (rows : List (List RR)) : Prop :=
  (rows = [] ∧ bs = [] ∧ ov = .nil ∧ M = Mem.emp) ∨ ∃ B, ov = .osl B 1 0 rows.length ∧ MatM M B bs rows ∧ OnlyM M (B :: bs)
theorem MatM.snoc {M' : Mem} {B : Nat} {bs : List Nat} {rows : List (List RR)} {b : Nat} {r : List RR} (hl : bs.length = rows.length) (htop : M' B = some ⟨42, 1, hdrs bs rows ++ [.osl b 4 0 r.length]⟩) (hrow : ∀ i, i < rows.length → M' (nb bs i) = some ⟨36, 4, rrs (mrow rows i)⟩) (hb : M' b = some ⟨36, 4, rrs r⟩) (hnd : bs.Nodup) (hbb : b ∉ bs) (hB : B ∉ bs) (hBb : B ≠ b) : MatM M' B (bs ++ [b]) (rows ++ [r]) := by
  refine ⟨by rw [hdrs_snoc hl]; exact htop, by simp [hl], fun i hi => ?_, ?_, ?_⟩
  · have hi' : i < rows.length + 1 := by simpa using hi
    rw [nb_snoc bs b i (by rw [hl]; exact hi'), mrow_snoc rows r i hi', hl]
    by_cases hlt : i < rows.length
    · rw [if_pos hlt, if_pos hlt]; exact hrow i hlt
    · rw [if_neg hlt, if_neg hlt]; exact hb
  · rw [List.nodup_append]
    exact ⟨hnd, by simp, fun x hx y hy => by simp at hy; subst hy; exact fun e => hbb (e ▸ hx)⟩
  · simp only [List.mem_append, List.mem_singleton, not_or]
    exact ⟨hB, hBb⟩
theorem del_none {m : Mem} {b : Nat} (h : m b = none) : m.del b = m := by
  funext k
  show (if k = b then none else m k) = m k
  split
  · rename_i e; rw [e, h]
  · rfl
theorem copied_call (m : List (List RR)) (h1 : m.length ≤ 64) (h2 : ∀ r ∈ m, r.length ≤ 64) : ACall Tryz.prog 47 [matAV m] Mem.emp fun v M => ∃ bs, CopM M v bs m := by
  refine acall_S Tryz.func47 rfl rfl 21 rfl (Nat.le_of_ble_eq_true rfl) ?_
  (repeat refine AW.seq_k fun K hK => ?_)
  refine AW.rg ?_
  simp [argsL]
  try (refine hK _ rfl ?_; clear hK; clear K)
  (repeat refine AW.seq_k fun K hK => ?_)
  refine AW.rg ?_
  simp
  try (refine hK _ rfl ?_; clear hK; clear K)
  refine AW.seq_ex (ι := Mem × AV × List Nat) (fun z => [(3, z.2.1)]) (fun z => z.1) (fun z => CopM z.1 z.2.1 z.2.2 m) ?_ ?_
  · (repeat refine AW.seq_k fun K hK => ?_)
    refine AW.rg ?_
    simp
    try (refine hK _ rfl ?_; clear hK; clear K)
    refine AW.block (AW.loopS (ι := Nat × Mem × AV × List Nat) (fun z => [(0, matAV m), (3, z.2.2.1), (4, .int .i64 (z.1 : Nat))]) (fun z => z.2.1) (fun z => z.1 ≤ m.length ∧ CopM z.2.1 z.2.2.1 z.2.2.2 (m.take z.1)) (fun z => m.length - z.1) (0, Mem.emp, .nil, []) ⟨by simp, .inl ⟨by simp, rfl, rfl, rfl⟩⟩ rfl (by simp) ?_)
    rintro ⟨i, M, ov, bs⟩ ⟨g1, g2⟩
    simp only at g1 g2
    (repeat refine AW.seq_k fun K hK => ?_)
    refine AW.rg ?_
    simp
    try (refine hK _ rfl ?_; clear hK; clear K)
    (repeat refine AW.seq ?_)
    refine AW.cs (fun hi => ?_) (fun hi => ?_) rfl <;> (try simp at hi)
    · refine AW.skip ?_
      try simp
      refine hK _ rfl ?_
      clear hK
      clear K
      have w1 : IntKind.i64.wrap ((i + 1 : Nat) : Int) = ((i + 1 : Nat) : Int) := wi (by omega)
      have hm : mrow m i ∈ m := by rw [mrow_eq hi]; exact List.getElem_mem hi
      have hrl := h2 _ hm
      have et : m.take (i + 1) = m.take i ++ [mrow m i] := by rw [List.take_add_one, List.getElem?_eq_getElem hi, mrow_eq hi]; rfl
      have htl : (m.take i).length = i := by simp; omega
      refine AW.seq_ex (ι := Mem × AV × List Nat) (fun z => [(0, matAV m), (3, z.2.1), (4, .int .i64 (i : Nat))]) (fun z => z.1) (fun z => CopM z.1 z.2.1 z.2.2 (m.take (i + 1))) ?_ ?_
      · (repeat refine AW.seq ?_)
        refine AW.block ?_
        rcases g2 with ⟨z1, z2, z3, z4⟩ | ⟨B, z1, z2, z3⟩
        · subst z2 z3 z4
          rw [z1] at htl
          simp at htl
          subst htl
          (repeat refine AW.seq_k fun K hK => ?_)
          refine AW.rgR [18] ?_
          simp [hi]
          try (refine hK _ rfl ?_; clear hK; clear K)
          refine Fresh.intro fun b _ => ⟨by omega, by unfold maxLen; omega, Fresh.intro fun b' _ => ⟨by unfold maxLen; omega, Fresh.intro fun B hB => ⟨[b'], .inr ⟨B, ?_, ?_, ?_⟩⟩⟩⟩
          · rw [et]; simp
          · have hBb : B ≠ b' := by rintro rfl; simp at hB
            rw [et, List.take_zero]
            exact MatM.snoc (bs := []) (rows := []) rfl (by simp [hdrs]) (fun i hi => (by cases hi)) (by simp [Ne.symm hBb]) List.nodup_nil (by simp) (by simp) hBb
          · exact (OnlyM.set (OnlyM.set (l := [B, b']) (fun k hk => absurd rfl hk) (by simp) _) (by simp) _)
        · subst z1
          rw [htl]
          (repeat refine AW.seq_k fun K hK => ?_)
          refine AW.rgR [18] ?_
          simp [hi, z2.top]
          try (refine hK _ rfl ?_; clear hK; clear K)
          refine Fresh.intro fun b hb => ⟨by omega, by unfold maxLen; omega, ?_⟩
          rw [del_none hb]
          refine Fresh.intro fun b' hb' => ?_
          have n1 : B ≠ b' := by rintro rfl; rw [z2.top] at hb'; cases hb'
          have n2 : B ≠ b := by rintro rfl; rw [z2.top] at hb; cases hb
          have hl : bs.length = (m.take i).length := z2.len
          refine ⟨hdrs bs (m.take i), by rw [if_neg n1, if_neg n2], by rw [hdrs_length hl, htl], by rw [hdrs_length hl, htl]; omega, by rw [hdrs_length hl, htl]; unfold maxLen; omega, ?_⟩
          refine Fresh.intro fun B1 hB1 => ⟨bs ++ [b'], .inr ⟨B1, ?_, ?_, ?_⟩⟩
          · rw [hdrs_length hl, et]; simp [htl]
          · have hbn : b' ∉ bs := by
              intro hm'
              obtain ⟨k, hk, e⟩ := List.mem_iff_getElem.1 hm'
              rw [← nb_eq hk] at e
              have := z2.row k (by rw [← hl]; exact hk)
              rw [e, hb'] at this; cases this
            have hrow : ∀ k, k < (m.take i).length → (((M.set b' ⟨36, 4, rrs (mrow m i)⟩).del B) (nb bs k)) = some ⟨36, 4, rrs (mrow (m.take i) k)⟩ := by
              intro k hk
              have q1 : nb bs k ≠ B := z2.ne hk
              have q2 : nb bs k ≠ b' := fun e => hbn (e ▸ nb_mem (by rw [hl]; exact hk))
              show (if nb bs k = B then none else (M.set b' _) (nb bs k)) = _
              rw [if_neg q1, Mem.set_other _ _ q2]
              exact z2.row k hk
            have hbv : ((M.set b' ⟨36, 4, rrs (mrow m i)⟩).del B) b' = some ⟨36, 4, rrs (mrow m i)⟩ := by
              show (if b' = B then none else (M.set b' _) b') = _
              rw [if_neg (Ne.symm n1), Mem.set_same]
            have hne : ∀ k y, ((M.set b' ⟨36, 4, rrs (mrow m i)⟩).del B) k = some y → k ≠ B1 := by
              rintro k y hk rfl
              rw [hB1] at hk; cases hk
            rw [et]
            refine MatM.snoc hl (by simp) (fun k hk => ?_) ?_ z2.nd hbn ?_ ?_
            · rw [Mem.set_other _ _ (hne _ _ (hrow k hk))]; exact hrow k hk
            · rw [Mem.set_other _ _ (hne _ _ hbv)]; exact hbv
            · intro hm'
              obtain ⟨k, hk, e⟩ := List.mem_iff_getElem.1 hm'
              rw [← nb_eq hk] at e
              exact hne _ _ (hrow k (by rw [← hl]; exact hk)) e
            · exact Ne.symm (hne _ _ hbv)
          · intro k hk
            simp only [set_at] at hk
            by_cases k1 : k = B1
            · simp [k1]
            · rw [if_neg k1] at hk
              have hk2 : (if k = B then none else (M.set b' ⟨36, 4, rrs (mrow m i)⟩) k) ≠ none := hk
              by_cases k2 : k = B
              · rw [if_pos k2] at hk2; exact absurd rfl hk2
              · rw [if_neg k2] at hk2
                by_cases k3 : k = b'
                · simp [k3]
                · rw [Mem.set_other _ _ k3] at hk2
                  have := z3 k hk2
                  simp [k2] at this
                  simp [this]
      rintro ⟨M, ov, bs⟩ hs
      (repeat refine AW.seq_k fun K hK => ?_)
      refine AW.rg ?_
      simp [-Int.natCast_add, w1]
      try (refine hK _ rfl ?_; clear hK; clear K)
      exact ⟨i + 1, M, ov, ⟨hi, bs, hs⟩, by omega, rfl, rfl, rfl⟩
    · refine AW.exit ?_
      try simp
      have : i = m.length := by omega
      subst this
      rw [List.take_length] at g2
      exact ⟨bs, g2⟩
  rintro ⟨M, ov, bs⟩ hs
  simp only at hs
  (repeat refine AW.seq_k fun K hK => ?_)
  refine AW.rg ?_
  simp
  try (refine hK _ rfl ?_; clear hK; clear K)
  refine AW.ret (ret_mem rfl ?_ ⟨bs, hs⟩)
  rcases hs with ⟨_, _, _, z4⟩ | ⟨B, _, z2, z3⟩
  · intro b y hy
    rw [z4] at hy; cases hy
  · exact z2.ones (l := []) z3 (by simp)
end Go.Av
end
section
namespace Go.Av
open Go.Proofs
structure RefP (M : Mem) (B : Nat) (bs : List Nat) (X : List (List Rat)) (pv : AV) (pb ps : List Nat) : Prop where
  mat : MatM M B bs (emb X)
  piv : PivV M pv pb ps
  npb : ∀ b ∈ pb, b ∉ B :: bs
  ones : OnesM M
section
variable {M : Mem} {B : Nat} {bs : List Nat} {X : List (List Rat)} {pv : AV} {pb ps : List Nat}
theorem RefP.back (h : RefP M B bs X pv pb ps) {g : Mem} {X' : List (List Rat)} (hg : RefM g B bs X') : RefP (M.back (B :: bs) g) B bs X' pv pb ps :=
  ⟨hg.1.back _, h.piv.keep fun b hb => back_out (hg.2.none (h.npb b hb)) (h.npb b hb), h.npb, back_ones h.ones hg.ones⟩
theorem RefP.swap (h : RefP M B bs X pv pb ps) {i r : Nat} (hi : i < X.length) (hr : r < X.length) :
    RefP (M.set B ⟨42, 1, ((hdrs bs (emb X)).set i (.osl (nb bs r) 4 0 (mrow (emb X) r).length)).set r (.osl (nb bs i) 4 0 (mrow (emb X) i).length)⟩) B (swapB bs i r) (swapL X i r) pv pb ps := by
  have hiE : i < (emb X).length := by rw [emb_length]; exact hi
  have hrE : r < (emb X).length := by rw [emb_length]; exact hr
  have hb : ∀ b, b ∈ swapB bs i r ↔ b ∈ bs := fun b => swapB_mem (by rw [h.mat.len]; exact hiE) (by rw [h.mat.len]; exact hrE) b
  refine ⟨by rw [emb_swap]; exact h.mat.swap hiE hrE, h.piv.keep fun b hb' => ?_, fun b hb' => ?_, OnesM.set h.ones B fun v hv => ?_⟩
  · simp only [set_at]; rw [if_neg (by rintro rfl; exact h.npb _ hb' (by simp))]
  · have := h.npb b hb'; simpa [hb] using this
  · rcases List.mem_or_eq_of_mem_set hv with hv | rfl
    · rcases List.mem_or_eq_of_mem_set hv with hv | rfl
      · exact hdrs_ones bs (emb X) v hv
      · rfl
    · rfl
theorem RefP.fresh (h : RefP M B bs X pv pb ps) {b : Nat} (hb : M b = none) : b ∉ B :: bs := by
  intro hm
  rcases List.mem_cons.1 hm with rfl | hm
  · rw [h.mat.top] at hb; cases hb
  · obtain ⟨k, hk, e⟩ := List.mem_iff_getElem.1 hm
    rw [← nb_eq hk] at e
    have := h.mat.row k (by rw [← h.mat.len]; exact hk)
    rw [e, hb] at this; cases this
theorem RefP.push0 (h : RefP M B bs X .nil [] []) {b : Nat} (hb : M b = none) (j : Nat) : RefP (M.set b ⟨3, 1, [.int .i64 (j : Nat)]⟩) B bs X (.osl b 1 0 1) [b] [j] := by
  have hn := h.fresh hb
  have h1 : b ≠ B := fun e => hn (by simp [e])
  have h2 : b ∉ bs := fun e => hn (by simp [e])
  exact ⟨h.mat.other h1 h2 _, .inr ⟨b, rfl, rfl, by simp [ints]⟩, fun a ha => by simp at ha; subst ha; exact hn, h.ones.set b fun v hv => by simp at hv; subst hv; rfl⟩
theorem RefP.push1 {b0 : Nat} (h : RefP M B bs X (.osl b0 1 0 ps.length) [b0] ps) {b : Nat} (hb : (M.del b0) b = none) (j : Nat) : RefP ((M.del b0).set b ⟨3, 1, ints ps ++ [.int .i64 (j : Nat)]⟩) B bs X (.osl b 1 0 (ps.length + 1)) [b] (ps ++ [j]) := by
  have h0 := h.npb b0 (by simp)
  have hh : RefP (M.del b0) B bs X .nil [] [] := by
    have hdel : ∀ a, a ≠ b0 → (M.del b0) a = M a := fun a ha => if_neg ha
    refine ⟨⟨by rw [hdel B (by rintro rfl; exact h0 (by simp))]; exact h.mat.top, h.mat.len, fun i hi => ?_, h.mat.nd, h.mat.nB⟩, .inl ⟨rfl, rfl, rfl⟩, by simp, h.ones.del b0⟩
    rw [hdel _ (fun e => h0 (e ▸ List.mem_cons_of_mem _ (nb_mem (by rw [h.mat.len]; exact hi))))]
    exact h.mat.row i hi
  have hn := hh.fresh hb
  have h1 : b ≠ B := fun e => hn (by simp [e])
  have h2 : b ∉ bs := fun e => hn (by simp [e])
  refine ⟨hh.mat.other h1 h2 _, .inr ⟨b, rfl, by simp, by simp [ints_snoc]⟩, fun a ha => by simp at ha; subst ha; exact hn, hh.ones.set b fun v hv => ?_⟩
  rcases List.mem_append.1 hv with hv | hv
  · exact ints_one ps v hv
  · simp at hv; subst hv; rfl
end
structure RefS where
  X : List (List Rat)
  ps : List Nat
  M : Mem
  bs : List Nat
  pv : AV
  pb : List Nat
def InvQ (X0 : List (List Rat)) (B w j : Nat) (s : RefS) : Prop :=
  iterO colStep j (X0, []) = some (s.X, s.ps) ∧ matGood X0.length w s.X ∧ s.ps.length ≤ X0.length ∧ RefP s.M B s.bs s.X s.pv s.pb s.ps
set_option maxHeartbeats 1000000
end Go.Av
end
section
namespace Go.Av
open Go.Proofs
theorem rows_same {X : List (List Rat)} {n w : Nat} (h : matGood n w X) (hn : n ≤ 64) (hw : w ≤ 64) : ACall Tryz.prog 21 [matAV (emb X), matAV (emb X)] Mem.emp fun v m => v = .bool true ∧ m = Mem.emp := by
  refine (rows_call (emb X) (emb X) (short_emb h.1) (by rw [emb_length, h.2.2]; omega) (fun r hr => ?_)).mono ?_
  · obtain ⟨i, hi, rfl⟩ := mem_row hr
    rw [emb_length, h.2.2] at hi
    rw [emb_row, List.length_map, (h.row hi).2]; omega
  · rintro v m ⟨⟨t, rfl, ht⟩, h2⟩
    exact ⟨by rw [ht.2 rfl], h2⟩
end Go.Av
end
section
namespace Go.Av
open Go.Proofs
theorem ty22 : Tryz.prog.underlying 22 = some (.slice 42) := by kernel_rfl
theorem ty42 : Tryz.prog.underlying 42 = some (.slice 36) := by kernel_rfl
theorem ty32 : Tryz.prog.underlying 32 = some (.slice 87) := by kernel_rfl
theorem ty87 : Tryz.prog.underlying 87 = some (.int .u32) := by kernel_rfl
theorem ty4 : Tryz.prog.underlying 4 = some .bool := by kernel_rfl
theorem cl87 : Tryz.prog.cellsOf 87 = 1 := by kernel_rfl
theorem cl42 : Tryz.prog.cellsOf 42 = 1 := by kernel_rfl
theorem cl36 : Tryz.prog.cellsOf 36 = 4 := by kernel_rfl
theorem cl34 : Tryz.prog.cellsOf 34 = 2 := by kernel_rfl
theorem cl32 : Tryz.prog.cellsOf 32 = 1 := by kernel_rfl
theorem cl4 : Tryz.prog.cellsOf 4 = 1 := by kernel_rfl
noncomputable def flds (t : TypeId) : Array Field := match Tryz.prog.underlying t with
  | some (.struct fs) => fs
  | _ => #[]
noncomputable def fldT (t : TypeId) (i : Nat) : Option (TypeId × Nat) := ((flds t)[i]?).map fun f => (f.type, f.offset)
theorem ty36 : Tryz.prog.underlying 36 = some (.struct (flds 36)) := by kernel_rfl
theorem ty34 : Tryz.prog.underlying 34 = some (.struct (flds 34)) := by kernel_rfl
theorem f36_0 : fldT 36 0 = some (34, 0) := by kernel_rfl
theorem f36_1 : fldT 36 1 = some (34, 2) := by kernel_rfl
theorem f34_0 : fldT 34 0 = some (4, 0) := by kernel_rfl
theorem f34_1 : fldT 34 1 = some (32, 1) := by kernel_rfl
theorem fld_get {t : TypeId} {i : Nat} {p : TypeId × Nat} (h : fldT t i = some p) : ∃ f : Field, (flds t)[i]? = some f ∧ f.type = p.1 ∧ f.offset = p.2 := by
  unfold fldT at h
  cases hf : (flds t)[i]? with
  | none => rw [hf] at h; cases h
  | some f => rw [hf] at h; cases h; exact ⟨f, rfl, rfl, rfl⟩
variable {H : Type} {enc : TypeId × Value → H} {W : World}
theorem cell_lt {a : Addr} {v : Value} (h : W.cell? a = some v) : a.block < W.heap.size := by
  unfold World.cell? at h
  rcases Nat.lt_or_ge a.block W.heap.size with hl | hl
  · exact hl
  · rw [Array.getElem?_eq_none hl] at h
    simp at h
theorem cellAt_u32s {l : List Nat} {i j : Nat} {u : AV} (h : cellAt (u32s l) i j = some u) : j = 0 ∧ i < l.length ∧ u = .int .u32 (nth l i : Nat) := by
  unfold cellAt u32s at h
  rw [List.getElem?_map] at h
  cases hi : l[i]? with
  | none => rw [hi] at h; cases h
  | some y =>
    rw [hi] at h
    have hl := (List.getElem?_eq_some_iff.1 hi).1
    cases j with
    | zero =>
      cases h
      refine ⟨rfl, hl, ?_⟩
      unfold nth
      rw [List.getD_eq_getElem?_getD, hi]; rfl
    | succ k => cases h
theorem read_mag {fuel : Nat} {c : Value} {x : DataW H × List MemPlace} (h : DataW.trod enc Tryz.prog W 0 (fun _ => true) true fuel 32 [c] = some x) : ∃ l, Lb l ∧ VR W (fun _ => False) (lim l) c := by
  rcases Go.ChangeShapes.open_ints ty32 ty87 cl87 h with ⟨hc, _⟩ | ⟨a, len, cap, zs, hc, _, hl, hm, hz, _, hcell, hwf⟩
  · simp only [List.cons.injEq, and_true] at hc
    subst hc
    exact ⟨[], fun y hy => (by cases hy), .sl0 1 none 0⟩
  · simp only [List.cons.injEq, and_true] at hc
    subst hc
    simp at hz
    rcases Nat.eq_zero_or_pos len with h0 | h0
    · subst h0
      exact ⟨[], fun y hy => (by cases hy), .sl0 1 (some a) cap⟩
    · have h00 := hcell 0 (by omega)
      have hsp := World.cell?_spot h00
      have hbl := cell_lt h00
      obtain ⟨b, o, sp⟩ := a
      simp [Addr.add] at hsp hbl
      subst hsp
      have hzl : ∀ i, i < len → 0 ≤ zs.getD i 0 ∧ zs.getD i 0 ≤ 4294967295 := fun i hi => by
        have : zs.getD i 0 = zs[i]'(by omega) := by rw [List.getD_eq_getElem?_getD, List.getElem?_eq_getElem (by omega)]; rfl
        rw [this]
        exact Go.bounds_u32 (hwf _ (List.getElem_mem _))
      refine ⟨(List.range len).map fun i => (zs.getD i 0).toNat, fun y hy => ?_, ?_⟩
      · obtain ⟨i, hi, rfl⟩ := List.mem_map.1 hy
        have := hzl i (List.mem_range.1 hi)
        omega
      · have e : ((List.range len).map fun i => (zs.getD i 0).toNat).length = len := by simp
        have := VR.sl (w := W) (F := fun _ => False) 1 (u32s ((List.range len).map fun i => (zs.getD i 0).toNat)) b o cap (fun i _ => .int .u32 (zs.getD i 0)) (by simp) hbl (by simp; exact hl) (by
          intro v hv
          obtain ⟨y, _, rfl⟩ := List.mem_map.1 hv
          rfl) ?_ ?_
        · rw [u32s_length, e] at this
          exact this
        · intro i j u hu
          obtain ⟨rfl, q1, rfl⟩ := cellAt_u32s hu
          rw [e] at q1
          have := hzl i q1
          have hn : nth ((List.range len).map fun i => (zs.getD i 0).toNat) i = (zs.getD i 0).toNat := by
            unfold nth
            rw [List.getD_eq_getElem?_getD, List.getElem?_map, List.getElem?_range q1]
            rfl
          rw [hn, Int.toNat_of_nonneg this.1]
          exact .int _ _
        · intro i j u hu
          obtain ⟨rfl, q1, rfl⟩ := cellAt_u32s hu
          rw [e] at q1
          have := hcell i (by omega)
          rcases Nat.eq_zero_or_pos i with h' | h'
          · subst h'; simpa [Addr.add] using this
          · have h'' : i ≠ 0 := by omega
            simpa [Addr.add, h''] using this
set_option maxRecDepth 100000
theorem read_int {fuel : Nat} {cs : List Value} {x : DataW H × List MemPlace} (h : DataW.trod enc Tryz.prog W 0 (fun _ => true) true fuel 34 cs = some x) : ∃ n l c, cs = [.bool n, c] ∧ Lb l ∧ VR W (fun _ => False) (lim l) c := by
  obtain ⟨xs, n, _, rfl, hl, hlen, hf⟩ := DataW.trod_struct ty34 h
  rw [cl34] at hl
  obtain ⟨c0, c1, rfl⟩ : ∃ c0 c1, cs = [c0, c1] := by
    match cs, hl with
    | [c0, c1], _ => exact ⟨c0, c1, rfl⟩
  obtain ⟨f0, g1, g2, g3⟩ := fld_get f34_0
  obtain ⟨f1, k1, k2, k3⟩ := fld_get f34_1
  have h0 := hf 0 f0 g1
  have h1 := hf 1 f1 k1
  simp only at g2 g3 k2 k3
  rw [g2, g3, cl4] at h0
  rw [k2, k3, cl32] at h1
  have hs : xs.length = 2 := by rw [hlen]; kernel_rfl
  obtain ⟨b, hb, _⟩ := DataW.trod_bool ty4 (h0.trans (List.getElem?_eq_getElem (by omega)))
  obtain ⟨l, hl1, hl2⟩ := read_mag (h1.trans (List.getElem?_eq_getElem (by omega)))
  simp at hb
  exact ⟨b, l, c1, by rw [hb], hl1, hl2⟩
theorem read_rat {fuel : Nat} {cs : List Value} {x : DataW H × List MemPlace} (h : DataW.trod enc Tryz.prog W 0 (fun _ => true) true fuel 36 cs = some x) : ∃ r : RR, r.Lb ∧ cs.length = 4 ∧ ∀ (j : Nat) (u : AV), r.av.cells[j]? = some u → ∃ c, cs[j]? = some c ∧ VR W (fun _ => False) u c := by
  obtain ⟨xs, n, _, rfl, hl, hlen, hf⟩ := DataW.trod_struct ty36 h
  rw [cl36] at hl
  obtain ⟨c0, c1, c2, c3, rfl⟩ : ∃ c0 c1 c2 c3, cs = [c0, c1, c2, c3] := by
    match cs, hl with
    | [c0, c1, c2, c3], _ => exact ⟨c0, c1, c2, c3, rfl⟩
  obtain ⟨f0, g1, g2, g3⟩ := fld_get f36_0
  obtain ⟨f1, k1, k2, k3⟩ := fld_get f36_1
  have h0 := hf 0 f0 g1
  have h1 := hf 1 f1 k1
  simp only at g2 g3 k2 k3
  rw [g2, g3, cl34] at h0
  rw [k2, k3, cl34] at h1
  have hs : xs.length = 2 := by rw [hlen]; kernel_rfl
  obtain ⟨n1, l1, d1, e1, b1, v1⟩ := read_int (h0.trans (List.getElem?_eq_getElem (by omega)))
  obtain ⟨n2, l2, d2, e2, b2, v2⟩ := read_int (h1.trans (List.getElem?_eq_getElem (by omega)))
  simp at e1 e2
  obtain ⟨rfl, rfl⟩ := e1
  obtain ⟨rfl, rfl⟩ := e2
  refine ⟨⟨n1, l1, n2, l2⟩, ⟨b1, b2⟩, rfl, fun j u hu => ?_⟩
  match j, hu with
  | 0, hu => cases hu; exact ⟨_, rfl, .bool _⟩
  | 1, hu => cases hu; exact ⟨_, rfl, v1⟩
  | 2, hu => cases hu; exact ⟨_, rfl, .bool _⟩
  | 3, hu => cases hu; exact ⟨_, rfl, v2⟩
  | k + 4, hu => cases hu
end Go.Av
end
section
namespace Go.Av
open Go.Proofs
variable {H : Type} {enc : TypeId × Value → H} {W : World}
theorem choose_fun {α : Type} [Inhabited α] {n : Nat} {p : Nat → α → Prop} (h : ∀ i, i < n → ∃ a, p i a) : ∃ f : Nat → α, ∀ i, i < n → p i (f i) := by
  classical
  exact ⟨fun i => if hi : i < n then Classical.choose (h i hi) else default, fun i hi => by
    simp only [dif_pos hi]
    exact Classical.choose_spec (h i hi)⟩
theorem addr_add2 (b o i j : Nat) : ((⟨b, o, none⟩ : Addr).add i).add j = ⟨b, o + (i + j), none⟩ := by
  by_cases hi : i = 0
  · subst hi
    by_cases hj : j = 0
    · subst hj; simp [Addr.add]
    · simp [Addr.add, hj]
  · by_cases hj : j = 0
    · subst hj; simp [Addr.add, hi]
    · simp [Addr.add, hi, hj, Nat.add_assoc]
theorem read_row {fuel : Nat} {c : Value} {x : DataW H × List MemPlace} (h : DataW.trod enc Tryz.prog W 0 (fun _ => true) true fuel 42 [c] = some x) : ∃ r : List RR, (∀ y ∈ r, y.Lb) ∧ VR W (fun _ => False) (rowAV r) c := by
  rcases Go.Deep.open_slice ty42 h with ⟨hc, _⟩ | ⟨a, len, cap, m, n, D, Pl, hc, _, hl, hm, hmm, _, hx⟩
  · simp only [List.cons.injEq, and_true] at hc
    subst hc
    exact ⟨[], fun y hy => (by cases hy), .sl0 4 none 0⟩
  · simp only [List.cons.injEq, and_true] at hc
    subst hc
    simp at hmm
    subst hmm
    rcases Nat.eq_zero_or_pos len with h0 | h0
    · subst h0
      exact ⟨[], fun y hy => (by cases hy), .sl0 4 (some a) m⟩
    · rw [cl36] at hx
      obtain ⟨C, hC⟩ := choose_fun (α := List Value) (p := fun i cs => W.cells? 0 (a.add (i * 4)) 4 = some cs ∧ DataW.trod enc Tryz.prog W 0 (fun _ => true) true n 36 cs = some (D i, Pl i)) (n := len) (fun i hi => hx i (by omega))
      obtain ⟨R, hR⟩ := choose_fun (α := RR) (n := len) (fun i hi => read_rat (hC i hi).2)
      have hcell : ∀ i, i < len → ∀ j, j < 4 → W.cell? ((a.add (i * 4)).add j) = (C i)[j]? := fun i hi => (World.cells?_some (hC i hi).1).2.2
      obtain ⟨c00, hc00, _⟩ := (hR 0 h0).2.2 0 (.bool (R 0).n1) rfl
      have h00 := (hcell 0 h0 0 (by omega)).trans hc00
      have hsp := World.cell?_spot h00
      have hbl := cell_lt h00
      obtain ⟨b, o, sp⟩ := a
      simp [Addr.add] at hsp hbl
      subst hsp
      have hcellAt : ∀ i j u, cellAt (rrs ((List.range len).map R)) i j = some u → i < len ∧ (R i).av.cells[j]? = some u := by
        intro i j u hu
        unfold cellAt rrs at hu
        rw [List.map_map, List.getElem?_map] at hu
        by_cases hi : i < len
        · rw [List.getElem?_range hi] at hu
          exact ⟨hi, hu⟩
        · rw [List.getElem?_eq_none (by simp; omega)] at hu
          cases hu
      refine ⟨(List.range len).map R, fun y hy => ?_, ?_⟩
      · obtain ⟨i, hi, rfl⟩ := List.mem_map.1 hy
        exact (hR i (List.mem_range.1 hi)).1
      · have := VR.sl (w := W) (F := fun _ => False) 4 (rrs ((List.range len).map R)) b o m (fun i j => ((C i)[j]?).getD (.bool false)) (by simp) hbl (by simp; exact hl) (by
          intro v hv
          obtain ⟨y, _, rfl⟩ := List.mem_map.1 hv
          rfl) (fun i j u hu => by
            obtain ⟨hi, hu⟩ := hcellAt i j u hu
            obtain ⟨c, q1, q2⟩ := (hR i hi).2.2 j u hu
            rw [q1]; exact q2) (fun i j u hu => by
            obtain ⟨hi, hu⟩ := hcellAt i j u hu
            obtain ⟨c, q1, q2⟩ := (hR i hi).2.2 j u hu
            have hj : j < 4 := by
              have := (List.getElem?_eq_some_iff.1 q1).1
              rw [(hR i hi).2.1] at this; exact this
            have := hcell i hi j hj
            rw [addr_add2, q1] at this
            rw [this, q1]; rfl)
        rw [rrs_length, List.length_map, List.length_range] at this
        exact this
theorem read_mat {fuel : Nat} {c : Value} {x : DataW H × List MemPlace} (h : DataW.trod enc Tryz.prog W 0 (fun _ => true) true fuel 22 [c] = some x) : ∃ m : List (List RR), LbM m ∧ VR W (fun _ => False) (matAV m) c := by
  rcases Go.Deep.open_slice1 ty22 cl42 h with ⟨hc, _⟩ | ⟨a, len, cap, m, n, V, D, Pl, hc, _, hl, hm, hmm, _, hx⟩
  · simp only [List.cons.injEq, and_true] at hc
    subst hc
    exact ⟨[], fun y hy => (by cases hy), .sl0 1 none 0⟩
  · simp only [List.cons.injEq, and_true] at hc
    subst hc
    simp at hmm
    subst hmm
    rcases Nat.eq_zero_or_pos len with h0 | h0
    · subst h0
      exact ⟨[], fun y hy => (by cases hy), .sl0 1 (some a) m⟩
    · obtain ⟨R, hR⟩ := choose_fun (α := List RR) (n := len) (fun i hi => read_row (hx i (by omega)).2)
      have h00 := (hx 0 (by omega)).1
      have hsp := World.cell?_spot h00
      have hbl := cell_lt h00
      obtain ⟨b, o, sp⟩ := a
      simp [Addr.add] at hsp hbl
      subst hsp
      have hcellAt : ∀ i j u, cellAt (((List.range len).map R).map rowAV) i j = some u → i < len ∧ j = 0 ∧ u = rowAV (R i) := by
        intro i j u hu
        unfold cellAt at hu
        rw [List.map_map, List.getElem?_map] at hu
        by_cases hi : i < len
        · rw [List.getElem?_range hi] at hu
          cases j with
          | zero => cases hu; exact ⟨hi, rfl, rfl⟩
          | succ k => cases hu
        · rw [List.getElem?_eq_none (by simp; omega)] at hu
          cases hu
      refine ⟨(List.range len).map R, fun y hy => ?_, ?_⟩
      · obtain ⟨i, hi, rfl⟩ := List.mem_map.1 hy
        exact (hR i (List.mem_range.1 hi)).1
      · have := VR.sl (w := W) (F := fun _ => False) 1 (((List.range len).map R).map rowAV) b o m (fun i _ => V i) (by simp) hbl (by simp; exact hl) (by
          intro v hv
          obtain ⟨y, _, rfl⟩ := List.mem_map.1 hv
          rfl) (fun i j u hu => by
            obtain ⟨hi, rfl, rfl⟩ := hcellAt i j u hu
            exact (hR i hi).2) (fun i j u hu => by
            obtain ⟨hi, rfl, rfl⟩ := hcellAt i j u hu
            have := (hx i (by omega)).1
            rcases Nat.eq_zero_or_pos i with h' | h'
            · subst h'; simpa [Addr.add] using this
            · have h'' : i ≠ 0 := by omega
              simpa [Addr.add, h''] using this)
        rw [List.length_map, List.length_map, List.length_range] at this
        exact this
/-- A statement over one matrix: true, whatever the matrix; all that was there stays. -/
theorem call_mat {f : FuncId} (hf : ∀ m, LbM m → ACall Tryz.prog f [matAV m] Mem.emp fun v mm => v = .bool true ∧ mm = Mem.emp) {c : Value} {m : List (List RR)} (hm : LbM m) (hv : VR W (fun _ => False) (matAV m) c) :
    Calls Tryz.prog f #[c] W fun e W' => e = .returned (.bool true) ∧ RowKit.Below W.heap.size W W' := by
  have hO : Own (fun _ => False) Mem.emp = fun _ => False := by funext b; simp [Own, Mem.emp]
  refine ((hf m hm).2 W (fun _ => False) #[c] (fun b hb => hb.elim) (fun b x hx => by cases hx) ?_).mono ?_
  · rw [hO]
    refine ⟨rfl, fun j u v hu hv' => ?_⟩
    match j, hu with
    | 0, hu => cases hu; cases hv'; exact hv
    | k + 1, hu => cases hu
  · rintro e W' ⟨v, cv, g', rfl, ⟨rfl, _⟩, _, hvr, hg, _⟩
    cases hvr
    exact ⟨rfl, ⟨hg.os, hg.tape, hg.output, hg.size, fun k hk => hg.block k hk (by simp [Mem.emp])⟩⟩
end Go.Av
end
section
namespace Go.Av
open Go.Proofs
theorem whole7_call (n : Int) (h1 : -9223372036854775808 ≤ n) (h2 : n < 9223372036854775808) : ACall Tryz.prog 60 [.int .i64 n] Mem.emp fun v m => v = (ofQ (intQ n)).av ∧ m = Mem.emp := by
  have ho := of2_call n 1 h1 h2 (by omega) (by omega) (by omega)
  have e : Rat.divInt n 1 = intQ n := rfl
  rw [e, resQ] at ho
  generalize intQ n = q at *
  unfold qAV at ho
  unfold RR.av ofQ
  simp only
  refine acall_S Tryz.func60 rfl rfl 11 rfl (Nat.le_of_ble_eq_true rfl) ?_
  (repeat refine AW.seq_k fun K hK => ?_)
  refine AW.rg ?_
  simp [argsL]
  try (refine hK _ rfl ?_; clear hK; clear K)
  refine Fresh.intro fun b2 hb2 => ?_
  refine hK _ rfl ?_
  clear hK
  clear K
  (repeat refine AW.seq_k fun K hK => ?_)
  refine AW.rg ?_
  simp
  try (refine hK _ rfl ?_; clear hK; clear K)
  refine CallK.val ho ?_
  simp
  refine Fresh.intro fun b3 hb3 => ?_
  simp only [set_none2, emp_at, and_true] at hb3
  try simp [hb3]
  refine hK _ rfl ?_
  clear hK
  clear K
  (repeat refine AW.seq_k fun K hK => ?_)
  refine AW.rg ?_
  simp [hb3]
  try (refine hK _ rfl ?_; clear hK; clear K)
  exact AW.ret (ret_views (vs := [.agg [.bool (decide (q.num < 0)), lim (dig q.num.natAbs), .bool false, lim (dig q.den)]]) [.agg [.bool (decide (q.num < 0)), lim (dig q.num.natAbs), .bool false, lim (dig q.den)]] (by simp [hb3]) (by simp) ⟨rfl, rfl⟩)
/-- A vector of zeros: nothing, or a block. -/
def ZerV (n : Nat) (v : AV) (M : Mem) : Prop := (n = 0 ∧ v = .nil ∧ M = Mem.emp) ∨ ∃ b, v = .osl b 4 0 n ∧ M = Mem.emp.set b ⟨36, 4, rrs (List.replicate n (ofQ 0))⟩
theorem zeros_call (n : Nat) (hn : n < 2^30) : ACall Tryz.prog 74 [.int .i64 n] Mem.emp (ZerV n) := by
  have hw := whole7_call 0 (by omega) (by omega)
  rw [intQ_zero] at hw
  refine acall_S Tryz.func74 rfl rfl 15 rfl (Nat.le_of_ble_eq_true rfl) ?_
  (repeat refine AW.seq_k fun K hK => ?_)
  refine AW.rg ?_
  simp [argsL]
  try (refine hK _ rfl ?_; clear hK; clear K)
  (repeat refine AW.seq_k fun K hK => ?_)
  refine AW.rg ?_
  simp
  try (refine hK _ rfl ?_; clear hK; clear K)
  refine AW.seq_ex (ι := AV × Mem) (fun z => [(3, z.1)]) (fun z => z.2) (fun z => ZerV n z.1 z.2) ?_ ?_
  · (repeat refine AW.seq_k fun K hK => ?_)
    refine AW.rg ?_
    simp
    try (refine hK _ rfl ?_; clear hK; clear K)
    refine AW.block (AW.loopS (ι := Nat × AV × Mem) (fun z => [(0, .int .i64 n), (3, z.2.1), (4, .int .i64 (z.1 : Nat))]) (fun z => z.2.2) (fun z => z.1 ≤ n ∧ ZerV z.1 z.2.1 z.2.2) (fun z => n - z.1) (0, .nil, Mem.emp) ⟨by simp, .inl ⟨rfl, rfl, rfl⟩⟩ rfl (by simp) ?_)
    rintro ⟨i, v, M⟩ ⟨g1, g2⟩
    simp only at g1 g2
    (repeat refine AW.seq_k fun K hK => ?_)
    refine AW.rg ?_
    simp
    try (refine hK _ rfl ?_; clear hK; clear K)
    (repeat refine AW.seq ?_)
    refine AW.cs (fun hi => ?_) (fun hi => ?_) rfl <;> (try simp at hi)
    · refine AW.skip ?_
      try simp
      refine hK _ rfl ?_
      clear hK
      clear K
      have w1 : IntKind.i64.wrap ((i + 1 : Nat) : Int) = ((i + 1 : Nat) : Int) := wi (by omega)
      refine AW.seq_ex (ι := AV × Mem) (fun z => [(0, .int .i64 n), (3, z.1), (4, .int .i64 (i : Nat))]) (fun z => z.2) (fun z => ZerV (i + 1) z.1 z.2) ?_ ?_
      · (repeat refine AW.seq ?_)
        refine AW.block ?_
        rcases g2 with ⟨z1, z2, z3⟩ | ⟨b0, z2, z3⟩
        · subst z1 z2 z3
          (repeat refine AW.seq_k fun K hK => ?_)
          refine AW.rgR [12] ?_
          simp
          try (refine hK _ rfl ?_; clear hK; clear K)
          refine CallK.val hw ?_
          simp
          exact ⟨by unfold maxLen; omega, Fresh.intro fun b hb => ⟨_, _, .inr ⟨b, rfl, rfl⟩, rfl, rfl⟩⟩
        · subst z2 z3
          (repeat refine AW.seq_k fun K hK => ?_)
          refine AW.rgR [12] ?_
          simp
          try (refine hK _ rfl ?_; clear hK; clear K)
          refine CallK.val hw ?_
          simp
          exact ⟨by omega, by unfold maxLen; omega, Fresh.intro fun b hb => ⟨_, _, .inr ⟨b, rfl, rfl⟩, by rw [List.replicate_succ']; simp [rrs], rfl⟩⟩
      rintro ⟨v, M⟩ hs
      (repeat refine AW.seq_k fun K hK => ?_)
      refine AW.rg ?_
      simp [-Int.natCast_add, w1]
      try (refine hK _ rfl ?_; clear hK; clear K)
      exact ⟨i + 1, v, M, ⟨hi, hs⟩, by omega, by simp⟩
    · refine AW.exit ?_
      try simp
      have : i = n := by omega
      subst this
      exact ⟨v, M, g2, rfl, rfl⟩
  rintro ⟨v, M⟩ hs
  simp only at hs
  (repeat refine AW.seq_k fun K hK => ?_)
  refine AW.rg ?_
  simp
  try (refine hK _ rfl ?_; clear hK; clear K)
  refine AW.ret (ret_mem rfl ?_ hs)
  rcases hs with ⟨_, _, z3⟩ | ⟨b, _, z3⟩
  · intro b y hy
    rw [z3] at hy; cases hy
  · rw [z3]
    exact OnesM.set (fun c y hy => by cases hy) b (rrs_ok _)
theorem zeros_pos (n : Nat) (h0 : 0 < n) (hn : n < 2^30) : ACall Tryz.prog 74 [.int .i64 n] Mem.emp fun v m => ∃ b x, (v = .osl b 4 0 n ∧ x = ⟨36, 4, rrs (List.replicate n (ofQ 0))⟩) ∧ m = Mem.emp.set b x := by
  refine (zeros_call n hn).mono ?_
  rintro v m (⟨h, _⟩ | ⟨b, h1, h2⟩)
  · omega
  · exact ⟨b, _, ⟨h1, rfl⟩, h2⟩
/-- A list that grows, alone in memory. -/
structure LstO (M : Mem) (ty : TypeId) (z : Nat) (ov : AV) (ob : List Nat) (l : List AV) : Prop where
  lst : LstV M ty z ov ob l
  only : OnlyM M ob
section
variable {M : Mem} {ov : AV} {ty : TypeId} {z : Nat} {ob : List Nat} {l : List AV}
theorem LstO.start (ty : TypeId) (z : Nat) : LstO Mem.emp ty z .nil [] [] := ⟨.inl ⟨rfl, rfl, rfl⟩, fun _ h => absurd rfl h⟩
theorem LstO.ones (h : LstO M ty z ov ob l) (hl : ∀ v ∈ l, v.cells.all AV.one = true) : OnesM M := by
  intro b y hy
  have hb := h.only b (by rw [hy]; simp)
  rcases h.lst with ⟨_, h1, _⟩ | ⟨b', h1, _, h3⟩
  · rw [h1] at hb; cases hb
  · rw [h1] at hb
    simp at hb
    subst hb
    rw [h3] at hy; cases hy
    exact hl
theorem LstO.push0 (h : LstO M ty z .nil [] []) (b : Nat) (v : AV) : LstO (M.set b ⟨ty, z, [v]⟩) ty z (.osl b z 0 1) [b] [v] :=
  ⟨.inr ⟨b, rfl, rfl, by simp⟩, (h.only.sub fun a ha => by cases ha).set (by simp) _⟩
theorem LstO.push1 {b0 : Nat} (h : LstO M ty z (.osl b0 z 0 l.length) [b0] l) (b : Nat) (v : AV) : LstO ((M.del b0).set b ⟨ty, z, l ++ [v]⟩) ty z (.osl b z 0 (l.length + 1)) [b] (l ++ [v]) := by
  refine ⟨.inr ⟨b, rfl, by simp, by simp⟩, OnlyM.set (l := [b]) (fun a ha => ?_) (by simp) _⟩
  by_cases h1 : a = b0
  · subst h1; exact absurd (if_pos rfl) ha
  · have e : (M.del b0) a = M a := if_neg h1
    rw [e] at ha
    have := h.only a ha
    simp at this
    exact absurd this h1
end
structure KerS7 where
  M : Mem
  ov : AV
  ob : List Nat
def InvK7 (Y : List (List Rat)) (ps : List Nat) (w j : Nat) (s : KerS7) : Prop := LstO s.M 42 1 s.ov s.ob ((emb (kerP Y ps w j)).map rowAV)
theorem rowAV_ones (X : List (List Rat)) : ∀ v ∈ (emb X).map rowAV, v.cells.all AV.one = true := by
  intro v hv
  obtain ⟨r, _, rfl⟩ := List.mem_map.1 hv
  rfl
end Go.Av
end
section
namespace Go.Av
open Go.Proofs
theorem isZeroI_call (z : Int) : ACall Tryz.prog 64 [intAV z] Mem.emp fun v m => v = .bool (decide (z = 0)) ∧ m = Mem.emp := by
  have h := isZero_call (decide (z < 0)) (dig z.natAbs)
  have e : decide ((dig z.natAbs).length = 0) = decide (z = 0) := by
    have h1 : dig z.natAbs = [] ↔ z.natAbs = 0 := dig_nil
    have h2 : (dig z.natAbs).length = 0 ↔ z = 0 := by rw [List.length_eq_zero_iff, h1]; omega
    simp [h2]
  rw [e] at h
  exact h
theorem cMem_ones {b4 b5 b6 b7 : Nat} {t : CmpS} {k : Nat} {z : Blk} (h : cMem b4 b5 b6 b7 t k = some z) : ∀ v ∈ z.l, v.cells.all AV.one = true := by
  unfold cMem iCell at h
  simp only [set_at, emp_at] at h
  split at h
  · cases h; simp
  · split at h
    · cases h; simp
    · split at h
      · cases h; simp
      · split at h
        · cases h; simp
        · cases h
set_option maxHeartbeats 1000000
theorem qcompare2_call (a b : Rat) (ha : Good a) (hb : Good b) : ACall Tryz.prog 151 [intAV a.num, intAV (a.den : Nat), intAV b.num, intAV (b.den : Nat)] Mem.emp fun v m => cmpOut a b v ∧ m = Mem.emp := by
  have hab : a = b ↔ a.num * b.den = b.num * a.den := Rat.eq_iff_mul_eq_mul
  have d1 : 0 < (a.den : Int) := by have := a.den_pos; omega
  have d2 : 0 < (b.den : Int) := by have := b.den_pos; omega
  unfold intAV
  refine acall_S Tryz.func151 rfl rfl 54 rfl (Nat.le_of_ble_eq_true rfl) ?_
  (repeat refine AW.seq_k fun K hK => ?_)
  refine AW.rg ?_
  simp [argsL]
  try (refine hK _ rfl ?_; clear hK; clear K)
  refine Fresh.intro fun b4 hb4 => ?_
  simp only [set_none2, emp_at, and_true] at hb4
  refine Fresh.intro fun b5 hb5 => ?_
  simp only [set_none2, emp_at, and_true] at hb5
  refine Fresh.intro fun b6 hb6 => ?_
  simp only [set_none2, emp_at, and_true] at hb6
  refine Fresh.intro fun b7 hb7 => ?_
  simp only [set_none2, emp_at, and_true] at hb7
  try simp [hb4, hb5, hb6, hb7]
  refine hK _ rfl ?_
  clear hK
  clear K
  refine AW.block (AW.loopS (ι := CmpS × Mem) (fun _ => [(4, .ptr b4 2 0 0), (5, .ptr b5 2 0 0), (6, .ptr b6 2 0 0), (7, .ptr b7 2 0 0)]) (fun z => z.2) (fun z => InvC a b z.1 ∧ Recast z.2 (cMem b4 b5 b6 b7 z.1)) (fun z => z.1.y.natAbs + z.1.v.natAbs) (⟨a.num, (a.den : Nat), b.num, (b.den : Nat), 1⟩, cMem b4 b5 b6 b7 ⟨a.num, (a.den : Nat), b.num, (b.den : Nat), 1⟩) ⟨⟨d1, d2, ha.1, den_lt ha, hb.1, den_lt hb, hab, .inl rfl⟩, Recast.sub fun k z hz => ⟨hz, cMem_ones hz⟩⟩ ?_ (by simp) ?_)
  · rfl
  rintro ⟨⟨x, y, u, v, s⟩, M0⟩ ⟨⟨i1, i2, i3, i4, i5, i6, i7, i8⟩, hrc⟩
  simp only at i1 i2 i3 i4 i5 i6 i7 i8 hrc
  simp only
  refine AW.turn [(4, .ptr b4 2 0 0), (5, .ptr b5 2 0 0), (6, .ptr b6 2 0 0), (7, .ptr b7 2 0 0)] _ hrc (by simp) ?_
  clear hrc
  have c1 := divmod1_call x y i3 i4 (by omega)
  have c2 := divmod1_call u v i5 i6 (by omega)
  have e1 := fdiv_lt (y := y) i3 (by omega)
  have e2 := fdiv_lt (y := v) i5 (by omega)
  have e3 := fmod_lt (x := x) i4 (by omega)
  have e4 := fmod_lt (x := u) i6 (by omega)
  have c3 := cmp1_call (x.fdiv y) (u.fdiv v) e1 e2
  have c4 := isZeroI_call (x.fmod y)
  have c5 := isZeroI_call (u.fmod v)
  have f1 := fmod_range (x := x) i1
  have f2 := fmod_range (x := u) i2
  have p1 := euc_ne (x := x) (u := u) i1 i2
  have p2 := euc_eq (x := x) (y := y) (u := u) (v := v)
  generalize x.fdiv y = q1 at *
  generalize u.fdiv v = q2 at *
  generalize x.fmod y = r1 at *
  generalize u.fmod v = r2 at *
  unfold cMem iCell
  unfold intAV at *
  simp only
  (repeat refine AW.seq ?_)
  refine AW.block ?_
  (repeat refine AW.seq_k fun K hK => ?_)
  refine AW.rg ?_
  simp [hb4, hb5, hb6, hb7]
  try (refine hK _ rfl ?_; clear hK; clear K)
  refine CallK.val c1 ?_
  simp [hb4, hb5, hb6, hb7]
  refine Fresh.intro fun b9 hb9 => ?_
  simp only [set_none2, emp_at, and_true] at hb9
  refine Fresh.intro fun b10 hb10 => ?_
  simp only [set_none2, emp_at, and_true] at hb10
  simp [hb4, hb5, hb6, hb7, hb9, hb10, set_four hb10.1.2]
  refine hK _ rfl ?_
  clear hK
  clear K
  (repeat refine AW.seq_k fun K hK => ?_)
  refine AW.rg ?_
  simp [hb4, hb5, hb6, hb7, hb9, hb10]
  try (refine hK _ rfl ?_; clear hK; clear K)
  refine CallK.val c2 ?_
  simp [hb4, hb5, hb6, hb7, hb9, hb10]
  refine Fresh.intro fun b12 hb12 => ?_
  simp only [set_none2, emp_at, and_true] at hb12
  refine Fresh.intro fun b13 hb13 => ?_
  simp only [set_none2, emp_at, and_true] at hb13
  simp [hb4, hb5, hb6, hb7, hb9, hb10, hb12, hb13, set_four hb13.1.2]
  refine hK _ rfl ?_
  clear hK
  clear K
  (repeat refine AW.seq_k fun K hK => ?_)
  refine AW.rg ?_
  simp [hb4, hb5, hb6, hb7, hb9, hb10, hb12, hb13]
  try (refine hK _ rfl ?_; clear hK; clear K)
  refine CallK.val c3 ?_
  simp [hb4, hb5, hb6, hb7, hb9, hb10, hb12, hb13]
  refine hK _ rfl ?_
  clear hK
  clear K
  have hc1 : cmpI q1 q2 = 0 ↔ q1 = q2 := cmpI_zero
  have hc2 := cmpI_range q1 q2
  generalize cmpI q1 q2 = cc at *
  refine AW.seq_ex (ι := Unit) (fun _ => [(4, .ptr b4 2 0 0), (5, .ptr b5 2 0 0), (6, .ptr b6 2 0 0), (7, .ptr b7 2 0 0), (10, .ptr b10 2 0 0), (13, .ptr b13 2 0 0)]) (fun _ => ((((cMem b4 b5 b6 b7 ⟨x, y, u, v, s⟩).set b9 (iCell q1)).set b10 (iCell r1)).set b12 (iCell q2)).set b13 (iCell r2)) (fun _ => q1 = q2) ?_ ?_
  · (repeat refine AW.seq_k fun K hK => ?_)
    refine AW.rg ?_
    simp
    try (refine hK _ rfl ?_; clear hK; clear K)
    (repeat refine AW.seq ?_)
    refine AW.cs (fun hc => ?_) (fun hc => ?_) rfl <;> (try simp at hc)
    · (repeat refine AW.seq_k fun K hK => ?_)
      refine AW.rg ?_
      simp
      try (refine hK _ rfl ?_; clear hK; clear K)
      refine AW.ret (ret_views (vs := [.int .i64 cc]) [.int .i64 cc] (by simp) (by simp) ⟨⟨cc, rfl, ?_, hc2⟩, rfl⟩)
      have : a ≠ b := fun h => (p1 (fun h2 => hc (hc1.2 h2))) (i7.1 h)
      exact ⟨fun h0 => absurd h0 hc, fun h => absurd h this⟩
    · refine AW.skip ?_
      try simp
      refine ⟨hc1.1 hc, ?_⟩
      rfl
  rintro _ hq
  subst hq
  have p2 := p2 rfl
  obtain ⟨t1, ht1⟩ : ∃ t, t = decide (r1 = 0) := ⟨_, rfl⟩
  obtain ⟨t2, ht2⟩ : ∃ t, t = decide (r2 = 0) := ⟨_, rfl⟩
  rw [← ht1] at c4
  rw [← ht2] at c5
  have hne : (t1 = true ∨ t2 = true) → (a = b ↔ t1 = true ∧ t2 = true) := by
    intro h
    rw [i7, p2, ht1, ht2] at *
    simp only [decide_eq_true_eq] at h ⊢
    constructor
    · intro e
      rcases h with h | h
      · rw [h, Int.zero_mul] at e
        refine ⟨h, ?_⟩
        rcases Int.mul_eq_zero.1 e.symm with h' | h'
        · exact h'
        · omega
      · rw [h, Int.zero_mul] at e
        refine ⟨?_, h⟩
        rcases Int.mul_eq_zero.1 e with h' | h'
        · exact h'
        · omega
    · rintro ⟨h1, h2⟩
      rw [h1, h2]; simp
  refine AW.seq_ex (ι := Unit) (fun _ => [(4, .ptr b4 2 0 0), (5, .ptr b5 2 0 0), (6, .ptr b6 2 0 0), (7, .ptr b7 2 0 0), (10, .ptr b10 2 0 0), (13, .ptr b13 2 0 0)]) (fun _ => ((((cMem b4 b5 b6 b7 ⟨x, y, u, v, s⟩).set b9 (iCell q1)).set b10 (iCell r1)).set b12 (iCell q1)).set b13 (iCell r2)) (fun _ => ¬ (t1 = true ∧ t2 = true)) ?_ ?_
  · refine AW.seq_ex (ι := Unit) (fun _ => [(4, .ptr b4 2 0 0), (5, .ptr b5 2 0 0), (6, .ptr b6 2 0 0), (7, .ptr b7 2 0 0), (10, .ptr b10 2 0 0), (13, .ptr b13 2 0 0), (45, .bool (t1 && t2))]) (fun _ => ((((cMem b4 b5 b6 b7 ⟨x, y, u, v, s⟩).set b9 (iCell q1)).set b10 (iCell r1)).set b12 (iCell q1)).set b13 (iCell r2)) (fun _ => True) ?_ ?_
    · cases t1
      · (repeat refine AW.seq_k fun K hK => ?_)
        refine AW.rg ?_
        simp [iCell, cMem, hb4, hb5, hb6, hb7, hb9, hb10, hb12, hb13]
        try (refine hK _ rfl ?_; clear hK; clear K)
        refine CallK.val c4 ?_
        simp [hb4, hb5, hb6, hb7, hb9, hb10, hb12, hb13]
      · (repeat refine AW.seq_k fun K hK => ?_)
        refine AW.rg ?_
        simp [iCell, cMem, hb4, hb5, hb6, hb7, hb9, hb10, hb12, hb13]
        try (refine hK _ rfl ?_; clear hK; clear K)
        refine CallK.val c4 ?_
        simp [hb4, hb5, hb6, hb7, hb9, hb10, hb12, hb13]
        refine CallK.val c5 ?_
        simp [hb4, hb5, hb6, hb7, hb9, hb10, hb12, hb13]
    rintro _ -
    cases h12 : (t1 && t2)
    · refine AW.no ?_ rfl
      refine AW.skip ?_
      try simp
      intro h; rw [h] at h12; simpa using h12
    · refine AW.yes ?_ rfl
      (repeat refine AW.seq_k fun K hK => ?_)
      refine AW.rg ?_
      simp
      try (refine hK _ rfl ?_; clear hK; clear K)
      have hb : t1 = true ∧ t2 = true := by simpa using h12
      refine AW.ret (ret_views (vs := [.int .i64 0]) [.int .i64 0] (by simp) (by simp) ⟨⟨0, rfl, ⟨fun _ => (hne (.inl hb.1)).2 hb, fun _ => rfl⟩, .inr (.inl rfl)⟩, rfl⟩)
  rintro _ h12
  refine AW.seq_ex (ι := Unit) (fun _ => [(4, .ptr b4 2 0 0), (5, .ptr b5 2 0 0), (6, .ptr b6 2 0 0), (7, .ptr b7 2 0 0), (10, .ptr b10 2 0 0), (13, .ptr b13 2 0 0)]) (fun _ => ((((cMem b4 b5 b6 b7 ⟨x, y, u, v, s⟩).set b9 (iCell q1)).set b10 (iCell r1)).set b12 (iCell q1)).set b13 (iCell r2)) (fun _ => t1 = false) ?_ ?_
  · refine AW.seq_ex (ι := Unit) (fun _ => [(4, .ptr b4 2 0 0), (5, .ptr b5 2 0 0), (6, .ptr b6 2 0 0), (7, .ptr b7 2 0 0), (10, .ptr b10 2 0 0), (13, .ptr b13 2 0 0), (47, .bool t1)]) (fun _ => ((((cMem b4 b5 b6 b7 ⟨x, y, u, v, s⟩).set b9 (iCell q1)).set b10 (iCell r1)).set b12 (iCell q1)).set b13 (iCell r2)) (fun _ => True) ?_ ?_
    · (repeat refine AW.seq_k fun K hK => ?_)
      refine AW.rg ?_
      simp [iCell, cMem, hb4, hb5, hb6, hb7, hb9, hb10, hb12, hb13]
      try (refine hK _ rfl ?_; clear hK; clear K)
      refine CallK.val c4 ?_
      simp [hb4, hb5, hb6, hb7, hb9, hb10, hb12, hb13]
    rintro _ -
    cases t1
    · refine AW.no ?_ rfl
      refine AW.skip ?_
      try simp
    · refine AW.yes ?_ rfl
      (repeat refine AW.seq_k fun K hK => ?_)
      refine AW.rg ?_
      simp
      try (refine hK _ rfl ?_; clear hK; clear K)
      refine AW.ret (ret_views (vs := [.int .i64 (-1)]) [.int .i64 (-1)] (by simp) (by simp) ⟨⟨-1, rfl, ⟨fun h => by omega, fun h => absurd ((hne (.inl rfl)).1 h) h12⟩, .inl rfl⟩, rfl⟩)
  rintro _ z1
  refine AW.seq_ex (ι := Unit) (fun _ => [(4, .ptr b4 2 0 0), (5, .ptr b5 2 0 0), (6, .ptr b6 2 0 0), (7, .ptr b7 2 0 0), (10, .ptr b10 2 0 0), (13, .ptr b13 2 0 0)]) (fun _ => ((((cMem b4 b5 b6 b7 ⟨x, y, u, v, s⟩).set b9 (iCell q1)).set b10 (iCell r1)).set b12 (iCell q1)).set b13 (iCell r2)) (fun _ => t2 = false) ?_ ?_
  · refine AW.seq_ex (ι := Unit) (fun _ => [(4, .ptr b4 2 0 0), (5, .ptr b5 2 0 0), (6, .ptr b6 2 0 0), (7, .ptr b7 2 0 0), (10, .ptr b10 2 0 0), (13, .ptr b13 2 0 0), (49, .bool t2)]) (fun _ => ((((cMem b4 b5 b6 b7 ⟨x, y, u, v, s⟩).set b9 (iCell q1)).set b10 (iCell r1)).set b12 (iCell q1)).set b13 (iCell r2)) (fun _ => True) ?_ ?_
    · (repeat refine AW.seq_k fun K hK => ?_)
      refine AW.rg ?_
      simp [iCell, cMem, hb4, hb5, hb6, hb7, hb9, hb10, hb12, hb13]
      try (refine hK _ rfl ?_; clear hK; clear K)
      refine CallK.val c5 ?_
      simp [hb4, hb5, hb6, hb7, hb9, hb10, hb12, hb13]
    rintro _ -
    cases t2
    · refine AW.no ?_ rfl
      refine AW.skip ?_
      try simp
    · refine AW.yes ?_ rfl
      (repeat refine AW.seq_k fun K hK => ?_)
      refine AW.rg ?_
      simp
      try (refine hK _ rfl ?_; clear hK; clear K)
      refine AW.ret (ret_views (vs := [.int .i64 1]) [.int .i64 1] (by simp) (by simp) ⟨⟨1, rfl, ⟨fun h => by omega, fun h => absurd ((hne (.inr rfl)).1 h) h12⟩, .inr (.inr rfl)⟩, rfl⟩)
  rintro _ z2
  rw [ht1] at z1
  rw [ht2] at z2
  have z1 : r1 ≠ 0 := by simpa using z1
  have z2 : r2 ≠ 0 := by simpa using z2
  clear ht1 ht2 hne h12 c1 c2 c3 c4 c5
  (repeat refine AW.seq_k fun K hK => ?_)
  refine AW.rdT [(4, b4), (5, b5), (6, b6), (7, b7), (10, b10), (13, b13)] [] [] [b5, b7, b10, b13] [0, 1, 2, 3, 4, 5, 6, 7] mix (by simp [iCell, cMem, hb4, hb5, hb6, hb7, hb9, hb10, hb12, hb13]) (by simp [iCell, cMem, hb4, hb5, hb6, hb7, hb9, hb10, hb12, hb13]) (by simp [iCell, cMem, hb4, hb5, hb6, hb7, hb9, hb10, hb12, hb13]) (by simp [iCell, cMem, hb4, hb5, hb6, hb7, hb9, hb10, hb12, hb13]) (by simp [iCell, cMem, hb4, hb5, hb6, hb7, hb9, hb10, hb12, hb13]) ?_
  simp [iCell, cMem, hb4, hb5, hb6, hb7, hb9, hb10, hb12, hb13]
  try (refine hK _ rfl ?_; clear hK; clear K)
  refine ⟨⟨v, r2, y, r1, 1⟩, ⟨⟨ipos_of f2.1 z2, ipos_of f1.1 z1, i6, e4, i4, e3, ?_, .inl rfl⟩, Recast.sub fun k z hz => ⟨?_, cMem_ones hz⟩⟩, ?_⟩
  · rw [i7, p2, Int.mul_comm r1, Int.mul_comm r2]
  · simp only [set_at, emp_at] at hz ⊢
    by_cases k8 : k = b7
    · rw [if_pos k8] at hz ⊢; exact hz
    rw [if_neg k8] at hz ⊢
    by_cases k7 : k = b6
    · rw [if_pos k7] at hz ⊢; exact hz
    rw [if_neg k7] at hz ⊢
    by_cases k6 : k = b5
    · rw [if_pos k6] at hz ⊢; exact hz
    rw [if_neg k6] at hz ⊢
    by_cases k5 : k = b4
    · rw [if_pos k5] at hz ⊢; exact hz
    rw [if_neg k5] at hz
    cases hz
  · have h1 := iabs_lt f1.1 f1.2
    have h2 := iabs_lt f2.1 f2.2
    simp only
    omega
theorem qcmp2_call (a b : Rat) (ha : Good a) (hb : Good b) : ACall Tryz.prog 131 [(ofQ a).av, (ofQ b).av] Mem.emp fun v m => (∃ c : Int, v = .tup [.int .i64 c, .int .i64 0] ∧ (c = 0 ↔ a = b)) ∧ m = Mem.emp := by
  have hal := both2_call (ofQ a) (ofQ b) (ofQ_lb a) (ofQ_lb b)
  rw [ofQ_ok ha, ofQ_ok hb] at hal
  have hc := qcompare2_call a b ha hb
  have ed : ∀ n : Nat, intAV (n : Int) = .agg [.bool false, lim (dig n)] := fun n => by
    unfold intAV
    rw [show decide ((n : Int) < 0) = false by simp]; rfl
  rw [ed, ed] at hc
  refine acall_S Tryz.func131 rfl rfl 19 rfl (Nat.le_of_ble_eq_true rfl) ?_
  (repeat refine AW.seq_k fun K hK => ?_)
  refine AW.rgR [2,3] ?_
  simp [argsL]
  try (refine hK _ rfl ?_; clear hK; clear K)
  (repeat refine AW.seq_k fun K hK => ?_)
  refine AW.rg ?_
  simp
  try (refine hK _ rfl ?_; clear hK; clear K)
  refine CallK.val hal ?_
  simp
  refine hK _ rfl ?_
  clear hK
  clear K
  refine AW.no ?_ rfl
  refine AW.skip ?_
  try simp
  refine hK _ rfl ?_
  clear hK
  clear K
  (repeat refine AW.seq_k fun K hK => ?_)
  refine AW.rg ?_
  simp
  try (refine hK _ rfl ?_; clear hK; clear K)
  refine CallK.pure hc ?_
  rintro _ ⟨c, rfl, h1, h2⟩
  simp
  refine hK _ rfl ?_
  clear hK
  clear K
  exact AW.ret (ret_views (vs := [.int .i64 c, .int .i64 0]) [.int .i64 c, .int .i64 0] (by simp) (by simp) ⟨⟨c, rfl, h1⟩, rfl⟩)
theorem symmetric2_call (X : List (List Rat)) (n : Nat) (hX : matGood n (mrow X 0).length X) (hn : n ≤ 64) (hw : (mrow X 0).length ≤ 64) : ACall Tryz.prog 96 [matAV (emb X)] Mem.emp fun v mm => ∃ t, v = .bool t ∧ (t = true ↔ n = (mrow X 0).length ∧ symm X n) ∧ mm = Mem.emp := by
  have hwid := columns_call (emb X)
  have e0 : (mrow (emb X) 0).length = (mrow X 0).length := by rw [emb_row, List.length_map]
  rw [e0] at hwid
  generalize (mrow X 0).length = w at *
  have hE : (emb X).length = n := by rw [emb_length]; exact hX.2.2
  refine acall_S Tryz.func96 rfl rfl 43 rfl (Nat.le_of_ble_eq_true rfl) ?_
  (repeat refine AW.seq_k fun K hK => ?_)
  refine AW.rg ?_
  simp [argsL]
  try (refine hK _ rfl ?_; clear hK; clear K)
  (repeat refine AW.seq_k fun K hK => ?_)
  refine AW.rg ?_
  simp
  try (refine hK _ rfl ?_; clear hK; clear K)
  refine CallK.val hwid ?_
  simp [hE]
  refine hK _ rfl ?_
  clear hK
  clear K
  by_cases hsq : n = w
  · subst hsq
    refine AW.no ?_ (by simp)
    refine AW.skip ?_
    try simp
    refine hK _ rfl ?_
    clear hK
    clear K
    refine AW.seq_ex (ι := Unit) (fun _ => []) (fun _ => Mem.emp) (fun _ => symm X n) ?_ ?_
    · (repeat refine AW.seq_k fun K hK => ?_)
      refine AW.rg ?_
      simp
      try (refine hK _ rfl ?_; clear hK; clear K)
      refine AW.block (AW.loopS (ι := Nat) (fun i => [(0, matAV (emb X)), (3, .int .i64 (i : Nat))]) (fun _ => Mem.emp) (fun i => i ≤ n ∧ symm X i) (fun i => n - i) 0 ⟨by simp, fun i hi => by omega⟩ rfl (by simp) ?_)
      rintro i ⟨g1, g2⟩
      (repeat refine AW.seq_k fun K hK => ?_)
      refine AW.rg ?_
      simp [hE]
      try (refine hK _ rfl ?_; clear hK; clear K)
      (repeat refine AW.seq ?_)
      refine AW.cs (fun hi => ?_) (fun hi => ?_) rfl <;> (try simp at hi)
      · refine AW.skip ?_
        try simp
        refine hK _ rfl ?_
        clear hK
        clear K
        have hi' : i < (emb X).length := by rw [hE]; exact hi
        have hli : (mrow (emb X) i).length = n := by rw [emb_row, List.length_map]; exact (hX.row hi).2
        have w1 : IntKind.i64.wrap ((i + 1 : Nat) : Int) = ((i + 1 : Nat) : Int) := wi (by omega)
        refine AW.seq_ex (ι := Unit) (fun _ => [(0, matAV (emb X)), (3, .int .i64 (i : Nat))]) (fun _ => Mem.emp) (fun _ => ∀ k, k < i → qel X i k = qel X k i) ?_ ?_
        · (repeat refine AW.seq ?_)
          refine AW.block ?_
          (repeat refine AW.seq_k fun K hK => ?_)
          refine AW.rg ?_
          simp
          try (refine hK _ rfl ?_; clear hK; clear K)
          refine AW.block (AW.loopS (ι := Nat) (fun k => [(0, matAV (emb X)), (3, .int .i64 (i : Nat)), (4, .int .i64 (k : Nat))]) (fun _ => Mem.emp) (fun k => k ≤ i ∧ ∀ k', k' < k → qel X i k' = qel X k' i) (fun k => i - k) 0 ⟨by simp, fun i hi => by omega⟩ rfl (by simp) ?_)
          rintro k ⟨q1, q2⟩
          (repeat refine AW.seq_k fun K hK => ?_)
          refine AW.rg ?_
          simp
          try (refine hK _ rfl ?_; clear hK; clear K)
          (repeat refine AW.seq ?_)
          refine AW.cs (fun hk => ?_) (fun hk => ?_) rfl <;> (try simp at hk)
          · refine AW.skip ?_
            try simp
            refine hK _ rfl ?_
            clear hK
            clear K
            have hkn : k < n := by omega
            have hk' : k < (emb X).length := by rw [hE]; exact hkn
            have hlk : (mrow (emb X) k).length = n := by rw [emb_row, List.length_map]; exact (hX.row hkn).2
            have w2 : IntKind.i64.wrap ((k + 1 : Nat) : Int) = ((k + 1 : Nat) : Int) := wi (by omega)
            have l1 : k < (mrow X i).length := by rw [(hX.row hi).2]; exact hkn
            have l2 : i < (mrow X k).length := by rw [(hX.row hkn).2]; exact hi
            have hc := qcmp2_call (qel X i k) (qel X k i) (hX.1.at l1) (hX.1.at l2)
            have f1 : rr (mrow (emb X) i) k = ofQ (qel X i k) := by rw [emb_row, rr_map l1]; rfl
            have f2 : rr (mrow (emb X) k) i = ofQ (qel X k i) := by rw [emb_row, rr_map l2]; rfl
            refine AW.seq_ex (ι := Unit) (fun _ => [(0, matAV (emb X)), (3, .int .i64 (i : Nat)), (4, .int .i64 (k : Nat))]) (fun _ => Mem.emp) (fun _ => qel X i k = qel X k i) ?_ ?_
            · (repeat refine AW.seq ?_)
              refine AW.block ?_
              (repeat refine AW.seq_k fun K hK => ?_)
              refine AW.rd [0, 1, 2, 3, 4, 5, 6, 7, 8, 9, 10, 11, 12, 13, 14, 15, 16, 17, 18, 19] mix ?_
              simp [hi', hk', hli, hlk, hkn, hi, f1, f2]
              try (refine hK _ rfl ?_; clear hK; clear K)
              refine CallK.pure hc ?_
              rintro _ ⟨c, rfl, hcz⟩
              simp
              refine hK _ rfl ?_
              clear hK
              clear K
              (repeat refine AW.seq_k fun K hK => ?_)
              refine AW.rg ?_
              simp
              try (refine hK _ rfl ?_; clear hK; clear K)
              (repeat refine AW.seq ?_)
              refine AW.cs (fun h0 => ?_) (fun h0 => ?_) rfl <;> (try simp at h0)
              · (repeat refine AW.seq_k fun K hK => ?_)
                refine AW.rg ?_
                simp
                try (refine hK _ rfl ?_; clear hK; clear K)
                refine AW.ret (ret_views (vs := [.bool false]) [.bool false] (by simp) (by simp) ⟨false, rfl, ?_, rfl⟩)
                simp only [Bool.false_eq_true, false_iff, not_and]
                intro _ hs
                exact h0 (hcz.2 (hs i hi k hk))
              · refine AW.skip ?_
                try simp
                exact hcz.1 h0
            rintro _ h0
            (repeat refine AW.seq_k fun K hK => ?_)
            refine AW.rg ?_
            simp [-Int.natCast_add, w2]
            try (refine hK _ rfl ?_; clear hK; clear K)
            refine ⟨⟨by omega, fun k' hk' => ?_⟩, by omega⟩
            rcases Nat.lt_succ_iff_lt_or_eq.1 hk' with h | rfl
            · exact q2 k' h
            · exact h0
          · refine AW.exit ?_
            try simp
            have : k = i := by omega
            subst this
            exact q2
        rintro _ h0
        (repeat refine AW.seq_k fun K hK => ?_)
        refine AW.rg ?_
        simp [-Int.natCast_add, w1]
        try (refine hK _ rfl ?_; clear hK; clear K)
        refine ⟨⟨by omega, fun i' hi' => ?_⟩, by omega⟩
        rcases Nat.lt_succ_iff_lt_or_eq.1 hi' with h | rfl
        · exact g2 i' h
        · exact h0
      · refine AW.exit ?_
        try simp
        have : i = n := by omega
        subst this
        exact g2
    rintro _ hs
    (repeat refine AW.seq_k fun K hK => ?_)
    refine AW.rg ?_
    simp
    try (refine hK _ rfl ?_; clear hK; clear K)
    exact AW.ret (ret_views (vs := [.bool true]) [.bool true] (by simp) (by simp) ⟨true, rfl, by simp [hs], rfl⟩)
  · refine AW.yes ?_ (by simp [hsq])
    (repeat refine AW.seq_k fun K hK => ?_)
    refine AW.rg ?_
    simp
    try (refine hK _ rfl ?_; clear hK; clear K)
    exact AW.ret (ret_views (vs := [.bool false]) [.bool false] (by simp) (by simp) ⟨false, rfl, by simp [hsq], rfl⟩)
end Go.Av
end
section
namespace Go.Av
open Go.Proofs
theorem RefM.swap {M : Mem} {B : Nat} {bs : List Nat} {X : List (List Rat)} (h : RefM M B bs X) {i r : Nat} (hi : i < X.length) (hr : r < X.length) :
    RefM (M.set B ⟨42, 1, ((hdrs bs (emb X)).set i (.osl (nb bs r) 4 0 (mrow (emb X) r).length)).set r (.osl (nb bs i) 4 0 (mrow (emb X) i).length)⟩) B (swapB bs i r) (swapL X i r) := by
  have hiE : i < (emb X).length := by rw [emb_length]; exact hi
  have hrE : r < (emb X).length := by rw [emb_length]; exact hr
  have hb : ∀ b, b ∈ swapB bs i r ↔ b ∈ bs := fun b => swapB_mem (by rw [h.1.len]; exact hiE) (by rw [h.1.len]; exact hrE) b
  refine ⟨by rw [emb_swap]; exact h.1.swap hiE hrE, fun b hb' => ?_⟩
  have := (h.2.set (by simp) _) b hb'
  simpa [hb] using this
def D2 (M : Mem) (b6 b2 : Nat) (d : Rat) : Mem := (M.set b6 ⟨36, 4, [(ofQ d).av]⟩).set b2 ⟨36, 4, [.agg [.bool false, .nil, .bool false, .nil]]⟩
section
variable {M : Mem} {B b6 b2 : Nat} {d : Rat}
end
theorem RefM.fresh {M : Mem} {B : Nat} {bs : List Nat} {X : List (List Rat)} (h : RefM M B bs X) {b : Nat} (hb : M b = none) : b ∉ B :: bs := by
  intro hm
  rcases List.mem_cons.1 hm with rfl | hm
  · rw [h.1.top] at hb; cases hb
  · obtain ⟨k, hk, e⟩ := List.mem_iff_getElem.1 hm
    rw [← nb_eq hk] at e
    have := h.1.row k (by rw [← h.1.len]; exact hk)
    rw [e, hb] at this; cases this
theorem emp_back (g : Mem) : Mem.emp.back [] g = g := by
  funext k
  cases hk : g k with
  | some y => exact back_some hk
  | none => rw [back_out hk (by simp)]; rfl
def OffL (b : Nat) (l : List Nat) : Prop := b ∉ l
structure DS7 where
  X : List (List Rat)
  d : Rat
  M : Mem
  bs : List Nat
def InvD7 (n : Nat) (X0 : List (List Rat)) (B b6 b2 j : Nat) (s : DS7) : Prop :=
  detIter n X0 j = some (some (s.X, s.d)) ∧ matGood n n s.X ∧ Good s.d ∧ RefM s.M B s.bs s.X ∧ OffL b6 (B :: s.bs) ∧ OffL b2 (B :: s.bs)
set_option maxHeartbeats 1000000
end Go.Av
end
section
namespace Go.Av
open Go.Proofs
theorem other2_call (row : List Rat) (hg : rowGood row) (j n : Nat) (hl : row.length = n) (hj : j < n) (hn : n ≤ 64) : ACall Tryz.prog 98 [rowAV (row.map ofQ), .int .i64 j] Mem.emp fun v m => v = .int .i64 (besideI row j) ∧ m = Mem.emp := by
  have hlR : (row.map ofQ).length = n := by rw [List.length_map, hl]
  have w1 : IntKind.i64.wrap ((j + 1 : Nat) : Int) = ((j + 1 : Nat) : Int) := wi (by omega)
  refine acall_S Tryz.func98 rfl rfl 21 rfl (Nat.le_of_ble_eq_true rfl) ?_
  (repeat refine AW.seq_k fun K hK => ?_)
  refine AW.rg ?_
  simp [argsL]
  try (refine hK _ rfl ?_; clear hK; clear K)
  refine AW.seq_ex (ι := Unit) (fun _ => []) (fun _ => Mem.emp) (fun _ => ∀ k, j < k → k < n → qat row k = 0) ?_ ?_
  · (repeat refine AW.seq_k fun K hK => ?_)
    refine AW.rg ?_
    simp [-Int.natCast_add, w1]
    try (refine hK _ rfl ?_; clear hK; clear K)
    refine AW.block (AW.loopS (ι := Nat) (fun k => [(0, rowAV (row.map ofQ)), (1, .int .i64 j), (5, .int .i64 (k : Nat))]) (fun _ => Mem.emp) (fun k => j < k ∧ ∀ i, j < i → i < k → qat row i = 0) (fun k => n - k) (j + 1) ⟨by omega, by omega⟩ rfl (by simp [-Int.natCast_add]) ?_)
    rintro k ⟨g1, g2⟩
    (repeat refine AW.seq_k fun K hK => ?_)
    refine AW.rg ?_
    simp [hlR]
    try (refine hK _ rfl ?_; clear hK; clear K)
    (repeat refine AW.seq ?_)
    refine AW.cs (fun hk => ?_) (fun hk => ?_) rfl <;> (try simp at hk)
    · refine AW.skip ?_
      try simp
      refine hK _ rfl ?_
      clear hK
      clear K
      have hkl : k < row.length := by omega
      have e1 : rr (row.map ofQ) k = ofQ (qat row k) := rr_map hkl
      have hs := rsign2_call (ofQ (qat row k)) (ofQ_lb _)
      rw [signR_ofQ (hg.at hkl)] at hs
      have w2 : IntKind.i64.wrap ((k + 1 : Nat) : Int) = ((k + 1 : Nat) : Int) := wi (by omega)
      refine AW.seq_ex (ι := Unit) (fun _ => [(0, rowAV (row.map ofQ)), (1, .int .i64 j), (5, .int .i64 (k : Nat))]) (fun _ => Mem.emp) (fun _ => qat row k = 0) ?_ ?_
      · (repeat refine AW.seq ?_)
        refine AW.block ?_
        (repeat refine AW.seq_k fun K hK => ?_)
        refine AW.rg ?_
        simp [hlR, hk, e1]
        try (refine hK _ rfl ?_; clear hK; clear K)
        refine CallK.val hs ?_
        simp
        refine hK _ rfl ?_
        clear hK
        clear K
        (repeat refine AW.seq ?_)
        refine AW.cs (fun h0 => ?_) (fun h0 => ?_) rfl <;> (try simp at h0)
        · (repeat refine AW.seq_k fun K hK => ?_)
          refine AW.rg ?_
          simp
          try (refine hK _ rfl ?_; clear hK; clear K)
          have h0 : qat row k ≠ 0 := fun h => h0 (signQ_zero.2 h)
          refine AW.ret (ret_views (vs := [.int .i64 (k : Nat)]) [.int .i64 (k : Nat)] (by simp) (by simp) ⟨?_, rfl⟩)
          unfold besideI
          rw [besideQ_some g2 g1 hkl h0]
          rfl
        · refine AW.skip ?_
          try simp
          exact signQ_zero.1 h0
      rintro _ h0
      (repeat refine AW.seq_k fun K hK => ?_)
      refine AW.rg ?_
      simp [-Int.natCast_add, w2]
      try (refine hK _ rfl ?_; clear hK; clear K)
      refine ⟨⟨by omega, fun i hi hi2 => ?_⟩, by omega⟩
      rcases Nat.lt_succ_iff_lt_or_eq.1 hi2 with h | rfl
      · exact g2 i hi h
      · exact h0
    · refine AW.exit ?_
      try simp
      exact fun i hi hi2 => g2 i hi (by omega)
  rintro _ hno
  (repeat refine AW.seq_k fun K hK => ?_)
  refine AW.rg ?_
  simp
  try (refine hK _ rfl ?_; clear hK; clear K)
  refine AW.ret (ret_views (vs := [.int .i64 (-1)]) [.int .i64 (-1)] (by simp) (by simp) ⟨?_, rfl⟩)
  unfold besideI
  rw [besideQ_none (fun k h1 h2 => hno k h1 (by omega))]
  rfl
theorem cross_vec {n j k : Nat} (h : j ≠ k) (t : Rat) : ((eQ n j).set k 1).set j t = ((List.replicate n (0 : Rat)).set k 1).set j t := by
  unfold eQ
  rw [List.set_comm _ _ h, List.set_set]
/-- What cross leaves: a vector, or the error. -/
def crossOut (M : Mem) (n : Nat) (Z : Option (List Rat)) (v : AV) (M' : Mem) : Prop :=
  match Z with
  | some q => ∃ bv, v = .tup [.osl bv 4 0 n, .int .i64 0] ∧ M bv = none ∧ M' = M.set bv ⟨36, 4, rrs (q.map ofQ)⟩
  | none => (∃ x, v = .tup [x, .int .i64 2])
set_option maxHeartbeats 1000000
theorem cross2_call (M : Mem) (B : Nat) (bs : List Nat) (l : List (List Rat)) (n j k : Nat) (hR : RefM M B bs l) (hG : matGood n n l) (hj : j < n) (hk : k < n) (hjk : j ≠ k) (hne : qel l j k ≠ 0) (hn : n ≤ 64) :
    ACall Tryz.prog 99 [.osl B 1 0 n, .int .i64 j, .int .i64 k] M (crossOut M n (crossQ n j k l)) := by
  have hone := whole7_call 1 (by omega) (by omega)
  have hzero := whole7_call 0 (by omega) (by omega)
  rw [intQ_one] at hone
  rw [intQ_zero] at hzero
  have hz := zeros_pos n (by omega) (by omega)
  have hjE : j < (emb l).length := by rw [emb_length, hG.2.2]; exact hj
  have hkE : k < (emb l).length := by rw [emb_length, hG.2.2]; exact hk
  have hlj : (mrow (emb l) j).length = n := by rw [emb_row, List.length_map]; exact (hG.row hj).2
  have hlk : (mrow (emb l) k).length = n := by rw [emb_row, List.length_map]; exact (hG.row hk).2
  have hkk : k < (mrow l k).length := by rw [(hG.row hk).2]; exact hk
  have hkj : k < (mrow l j).length := by rw [(hG.row hj).2]; exact hk
  have ekk : rr (mrow (emb l) k) k = ofQ (qel l k k) := by rw [emb_row, rr_map hkk]; rfl
  have ejk : rr (mrow (emb l) j) k = ofQ (qel l j k) := by rw [emb_row, rr_map hkj]; rfl
  have gkk : Good (qel l k k) := hG.1.at hkk
  have gjk : Good (qel l j k) := hG.1.at hkj
  have gtj := hR.1.get hjE
  have gtk := hR.1.get hkE
  rw [hlj] at gtj
  rw [hlk] at gtk
  have rj := hR.1.row j hjE
  have rk := hR.1.row k hkE
  have htop := hR.1.top
  have hones := hR.ones
  have hadd := add2_call (qel l k k) 1 gkk good_one
  have hadd2 := add2_call (qel l j k) (qel l j k) gjk gjk
  unfold crossQ
  cases hq1 : addQ (qel l k k) 1 with
  | none =>
    rw [hq1] at hadd
    simp only [resQ] at hadd
    refine acall_S Tryz.func99 rfl rfl 79 rfl (Nat.le_of_ble_eq_true rfl) ?_
    (repeat refine AW.seq_k fun K hK => ?_)
    refine AW.rg ?_
    simp [argsL]
    try (refine hK _ rfl ?_; clear hK; clear K)
    (repeat refine AW.seq_k fun K hK => ?_)
    refine AW.rdT [] [] [] [B, nb bs k] [0, 1, 2, 3, 4, 5, 6, 7, 8, 9, 10, 11, 12, 13, 14] mix (by simp [hk, htop, ↓gtk, rk, hlk, ekk]) (by simp [hk, htop, ↓gtk, rk, hlk, ekk]) (by simp [hk, htop, ↓gtk, rk, hlk, ekk]) (by simp [hk, htop, ↓gtk, rk, hlk, ekk]) (by simp [hk, htop, ↓gtk, rk, hlk, ekk]) ?_
    simp [hk, htop, ↓gtk, rk, hlk, ekk]
    try (refine hK _ rfl ?_; clear hK; clear K)
    refine CallK.val hone ?_
    simp
    refine CallK.val hadd ?_
    simp [zeroRat]
    refine Fresh.intro fun b8 hb8 => ?_
    refine hK _ rfl ?_
    clear hK
    clear K
    refine AW.turn [(9, .int .i64 2)] M (Recast.drop hb8 hones) (by simp) ?_
    (repeat refine AW.seq_k fun K hK => ?_)
    refine AW.rg ?_
    simp
    try (refine hK _ rfl ?_; clear hK; clear K)
    refine AW.yes ?_ rfl
    (repeat refine AW.seq_k fun K hK => ?_)
    refine AW.rg ?_
    simp
    try (refine hK _ rfl ?_; clear hK; clear K)
    exact AW.ret (ret_mem rfl hones ⟨_, rfl⟩)
  | some s1 =>
    rw [hq1] at hadd
    simp only [resQ] at hadd
    have gs1 := good_add hq1
    obtain ⟨n1, n2⟩ := good_neg gs1
    have hsub := sub2_call 0 s1 good_zero gs1
    rw [n1] at hsub
    simp only [resQ] at hsub
    have e1 : (((some s1).bind fun s => subQ 0 s).bind fun s => (addQ (qel l j k) (qel l j k)).bind fun d => (divQ s d).map fun t => ((eQ n j).set k 1).set j t) = (addQ (qel l j k) (qel l j k)).bind fun d => (divQ (-s1) d).map fun t => ((eQ n j).set k 1).set j t := by
      show ((subQ 0 s1).bind _) = _
      rw [n1]; rfl
    rw [e1]
    clear e1
    generalize -s1 = s at *
    refine acall_S Tryz.func99 rfl rfl 79 rfl (Nat.le_of_ble_eq_true rfl) ?_
    (repeat refine AW.seq_k fun K hK => ?_)
    refine AW.rg ?_
    simp [argsL]
    try (refine hK _ rfl ?_; clear hK; clear K)
    (repeat refine AW.seq_k fun K hK => ?_)
    refine AW.rdT [] [] [] [B, nb bs k] [0, 1, 2, 3, 4, 5, 6, 7, 8, 9, 10, 11, 12, 13, 14] mix (by simp [hk, htop, ↓gtk, rk, hlk, ekk]) (by simp [hk, htop, ↓gtk, rk, hlk, ekk]) (by simp [hk, htop, ↓gtk, rk, hlk, ekk]) (by simp [hk, htop, ↓gtk, rk, hlk, ekk]) (by simp [hk, htop, ↓gtk, rk, hlk, ekk]) ?_
    simp [hk, htop, ↓gtk, rk, hlk, ekk]
    try (refine hK _ rfl ?_; clear hK; clear K)
    refine CallK.val hone ?_
    simp
    refine CallK.val hadd ?_
    simp [qAV]
    refine Fresh.intro fun b8 hb8 => ?_
    refine hK _ rfl ?_
    clear hK
    clear K
    (repeat refine AW.seq_k fun K hK => ?_)
    refine AW.rg ?_
    simp
    try (refine hK _ rfl ?_; clear hK; clear K)
    refine AW.no ?_ rfl
    refine AW.skip ?_
    try simp
    refine hK _ rfl ?_
    clear hK
    clear K
    (repeat refine AW.seq_k fun K hK => ?_)
    refine AW.rdT [] [] [] [b8] [1,0,2,3,4,5,6,7] mix (by simp) (by simp) (by simp) (by simp) (by simp) ?_
    simp
    try (refine hK _ rfl ?_; clear hK; clear K)
    refine CallK.val hzero ?_
    simp
    refine CallK.val hsub ?_
    simp [qAV]
    refine hK _ rfl ?_
    clear hK
    clear K
    refine AW.turn [(0, .osl B 1 0 n), (1, .int .i64 j), (2, .int .i64 k), (8, .rptr [.bool (ofQ s).n1, lim (ofQ s).l1, .bool (ofQ s).n2, lim (ofQ s).l2]), (9, .int .i64 0)] M (Recast.drop hb8 hones) ?_ ?_
    · simp
      exact view_temp hb8
    (repeat refine AW.seq_k fun K hK => ?_)
    refine AW.rg ?_
    simp
    try (refine hK _ rfl ?_; clear hK; clear K)
    refine AW.no ?_ rfl
    refine AW.skip ?_
    try simp
    refine hK _ rfl ?_
    clear hK
    clear K
    cases hq2 : addQ (qel l j k) (qel l j k) with
    | none =>
      rw [hq2] at hadd2
      simp only [resQ] at hadd2
      (repeat refine AW.seq_k fun K hK => ?_)
      refine AW.rdT [] [8] [] [B, nb bs j] [0, 1, 2, 3, 4, 5, 6, 7, 8, 9, 10, 11, 12, 13, 14, 15, 16, 17, 18, 19, 20] mix (by simp [hj, hk, htop, ↓gtj, rj, hlj, ejk]) (by simp [hj, hk, htop, ↓gtj, rj, hlj, ejk]) (by simp [hj, hk, htop, ↓gtj, rj, hlj, ejk]) (by simp [hj, hk, htop, ↓gtj, rj, hlj, ejk]) (by simp [hj, hk, htop, ↓gtj, rj, hlj, ejk]) ?_
      simp [hj, hk, htop, ↓gtj, rj, hlj, ejk]
      try (refine hK _ rfl ?_; clear hK; clear K)
      refine CallK.val hadd2 ?_
      simp [zeroRat]
      refine Fresh.intro fun b10 hb10 => ?_
      refine hK _ rfl ?_
      clear hK
      clear K
      refine AW.turn [(11, .int .i64 2)] M (Recast.drop hb10 hones) (by simp) ?_
      (repeat refine AW.seq_k fun K hK => ?_)
      refine AW.rg ?_
      simp
      try (refine hK _ rfl ?_; clear hK; clear K)
      refine AW.yes ?_ rfl
      (repeat refine AW.seq_k fun K hK => ?_)
      refine AW.rg ?_
      simp
      try (refine hK _ rfl ?_; clear hK; clear K)
      exact AW.ret (ret_mem rfl hones ⟨_, rfl⟩)
    | some d =>
      rw [hq2] at hadd2
      simp only [resQ] at hadd2
      have hd0 : d ≠ 0 := by
        have h2 := hq2
        unfold addQ at h2
        split at h2
        · have h2 := Option.some.inj h2
          rw [← h2]
          exact two_ne hne
        · cases h2
      have gd := good_add hq2
      have hdv := div2_call s d n2 gd hd0
      (repeat refine AW.seq_k fun K hK => ?_)
      refine AW.rdT [] [8] [] [B, nb bs j] [0, 1, 2, 3, 4, 5, 6, 7, 8, 9, 10, 11, 12, 13, 14, 15, 16, 17, 18, 19, 20] mix (by simp [hj, hk, htop, ↓gtj, rj, hlj, ejk]) (by simp [hj, hk, htop, ↓gtj, rj, hlj, ejk]) (by simp [hj, hk, htop, ↓gtj, rj, hlj, ejk]) (by simp [hj, hk, htop, ↓gtj, rj, hlj, ejk]) (by simp [hj, hk, htop, ↓gtj, rj, hlj, ejk]) ?_
      simp [hj, hk, htop, ↓gtj, rj, hlj, ejk]
      try (refine hK _ rfl ?_; clear hK; clear K)
      refine CallK.val hadd2 ?_
      simp [qAV]
      refine Fresh.intro fun b10 hb10 => ?_
      refine hK _ rfl ?_
      clear hK
      clear K
      refine AW.turn [(0, .osl B 1 0 n), (1, .int .i64 j), (2, .int .i64 k), (8, .rptr [.bool (ofQ s).n1, lim (ofQ s).l1, .bool (ofQ s).n2, lim (ofQ s).l2]), (9, .int .i64 0), (10, .rptr [.bool (ofQ d).n1, lim (ofQ d).l1, .bool (ofQ d).n2, lim (ofQ d).l2]), (11, .int .i64 0)] M (Recast.drop hb10 hones) ?_ ?_
      · simp
        exact view_temp hb10
      (repeat refine AW.seq_k fun K hK => ?_)
      refine AW.rg ?_
      simp
      try (refine hK _ rfl ?_; clear hK; clear K)
      refine AW.no ?_ rfl
      refine AW.skip ?_
      try simp
      refine hK _ rfl ?_
      clear hK
      clear K
      cases hq3 : divQ s d with
      | none =>
        rw [hq3] at hdv
        simp only [resQ] at hdv
        rw [show ((some d).bind fun d => (divQ s d).map fun t => ((eQ n j).set k 1).set j t) = none by show (divQ s d).map _ = none; rw [hq3]; rfl]
        (repeat refine AW.seq_k fun K hK => ?_)
        refine AW.rg ?_
        simp
        try (refine hK _ rfl ?_; clear hK; clear K)
        refine CallK.val hdv ?_
        simp [zeroRat]
        refine Fresh.intro fun b12 hb12 => ?_
        refine hK _ rfl ?_
        clear hK
        clear K
        refine AW.turn [(0, .osl B 1 0 n), (1, .int .i64 j), (2, .int .i64 k), (12, .rptr [.bool false, lim [], .bool false, lim []]), (13, .int .i64 2)] M (Recast.drop hb12 hones) ?_ ?_
        · simp
          exact view_temp hb12
        (repeat refine AW.seq_k fun K hK => ?_)
        refine AW.rg ?_
        simp
        try (refine hK _ rfl ?_; clear hK; clear K)
        refine CallK.make hz ?_
        rintro bv _ _ ⟨rfl, rfl⟩ hbv _
        simp
        refine hK _ rfl ?_
        clear hK
        clear K
        (repeat refine AW.seq_k fun K hK => ?_)
        refine AW.rg ?_
        simp
        try (refine hK _ rfl ?_; clear hK; clear K)
        refine CallK.val hone ?_
        simp [hk]
        refine hK _ rfl ?_
        clear hK
        clear K
        (repeat refine AW.seq_k fun K hK => ?_)
        refine AW.rg ?_
        simp [hj]
        try (refine hK _ rfl ?_; clear hK; clear K)
        (repeat refine AW.seq_k fun K hK => ?_)
        refine AW.rg ?_
        simp
        try (refine hK _ rfl ?_; clear hK; clear K)
        refine AW.ret (ret_mem rfl (OnesM.set hones bv fun v hv => ?_) ⟨_, rfl⟩)
        rcases List.mem_or_eq_of_mem_set hv with hv | rfl
        · exact rrs_ok _ v hv
        · rfl
      | some t =>
        rw [hq3] at hdv
        simp only [resQ] at hdv
        rw [show ((some d).bind fun d => (divQ s d).map fun t => ((eQ n j).set k 1).set j t) = some (((List.replicate n (0 : Rat)).set k 1).set j t) by show (divQ s d).map _ = _; rw [hq3, ← cross_vec hjk]; rfl]
        (repeat refine AW.seq_k fun K hK => ?_)
        refine AW.rg ?_
        simp
        try (refine hK _ rfl ?_; clear hK; clear K)
        refine CallK.val hdv ?_
        simp [qAV]
        refine Fresh.intro fun b12 hb12 => ?_
        refine hK _ rfl ?_
        clear hK
        clear K
        refine AW.turn [(0, .osl B 1 0 n), (1, .int .i64 j), (2, .int .i64 k), (12, .rptr [.bool (ofQ t).n1, lim (ofQ t).l1, .bool (ofQ t).n2, lim (ofQ t).l2]), (13, .int .i64 0)] M (Recast.drop hb12 hones) ?_ ?_
        · simp
          exact view_temp hb12
        (repeat refine AW.seq_k fun K hK => ?_)
        refine AW.rg ?_
        simp
        try (refine hK _ rfl ?_; clear hK; clear K)
        refine CallK.make hz ?_
        rintro bv _ _ ⟨rfl, rfl⟩ hbv _
        simp
        refine hK _ rfl ?_
        clear hK
        clear K
        (repeat refine AW.seq_k fun K hK => ?_)
        refine AW.rg ?_
        simp
        try (refine hK _ rfl ?_; clear hK; clear K)
        refine CallK.val hone ?_
        simp [hk]
        refine hK _ rfl ?_
        clear hK
        clear K
        (repeat refine AW.seq_k fun K hK => ?_)
        refine AW.rg ?_
        simp [hj]
        try (refine hK _ rfl ?_; clear hK; clear K)
        (repeat refine AW.seq_k fun K hK => ?_)
        refine AW.rg ?_
        simp
        try (refine hK _ rfl ?_; clear hK; clear K)
        have e2 : (rrs ((List.replicate n (ofQ 0)).set k (ofQ 1))).set j (.agg [.bool (ofQ t).n1, lim (ofQ t).l1, .bool (ofQ t).n2, lim (ofQ t).l2]) = rrs ((((List.replicate n (0 : Rat)).set k 1).set j t).map ofQ) := by
          rw [List.map_set, List.map_set, List.map_replicate]
          exact rrs_set _ j (ofQ t)
        rw [e2]
        exact AW.ret (ret_mem rfl (OnesM.set hones bv (rrs_ok _)) ⟨bv, rfl, hbv, rfl⟩)
end Go.Av
end
section
namespace Go.Av
open Go.Proofs
/-- Forms by columns, and as a list with their numbers. -/
def FA (n : Nat) (fs : List (Option (List Rat))) (fm : List (List Rat)) (at_ : List Nat) : Prop :=
  fs.length = n ∧ at_.length = n ∧ fm.length ≤ n ∧ ∀ i, i < n → match fs.getD i none with
    | none => at_.getD i 0 = 0
    | some f => 0 < at_.getD i 0 ∧ at_.getD i 0 - 1 < fm.length ∧ mrow fm (at_.getD i 0 - 1) = f
def E2 (bv b11 : Nat) (v : List Rat) (s : Rat) : Mem := (Mem.emp.set bv ⟨36, 4, rrs (v.map ofQ)⟩).set b11 ⟨36, 4, [(ofQ s).av]⟩
section
variable {bv b11 : Nat} {v : List Rat} {s : Rat}
theorem E2_at (h : b11 ≠ bv) : E2 bv b11 v s b11 = some ⟨36, 4, [(ofQ s).av]⟩ ∧ E2 bv b11 v s bv = some ⟨36, 4, rrs (v.map ofQ)⟩ := by unfold E2; simp [Ne.symm h]
theorem E2_s (s' : Rat) : (E2 bv b11 v s).set b11 ⟨36, 4, [(ofQ s').av]⟩ = E2 bv b11 v s' := by
  unfold E2; funext k; simp only [set_at]
  by_cases e : k = b11 <;> simp [e]
theorem vec_ones (bv : Nat) (v : List Rat) : OnesM (Mem.emp.set bv ⟨36, 4, rrs (v.map ofQ)⟩) := OnesM.set (fun c y hy => by cases hy) bv (rrs_ok _)
theorem E2_ones (bv b11 : Nat) (v : List Rat) (s : Rat) : OnesM (E2 bv b11 v s) := by
  unfold E2
  refine OnesM.set (vec_ones bv v) b11 fun u hu => ?_
  simp at hu; subst hu; rfl
end
theorem dot_good {form v : List Rat} {i : Nat} : ∀ {u : Nat} {q : Rat}, iterO (dotStep form v i) u 0 = some q → Good q
  | 0, q, h => by cases h; exact good_zero
  | u + 1, q, h => by
    rw [iterO_succ] at h
    cases hs : iterO (dotStep form v i) u 0 with
    | none => rw [hs] at h; cases h
    | some s =>
      rw [hs] at h
      replace h : (mulQ (qat form (i + 1 + u)) (qat v (i + 1 + u))).bind (addQ s) = some q := h
      cases hm : mulQ (qat form (i + 1 + u)) (qat v (i + 1 + u)) with
      | none => rw [hm] at h; cases h
      | some m => rw [hm] at h; exact good_add h
def ext2Out (bv n : Nat) (Z : Option (List Rat)) (r : AV) (M : Mem) : Prop :=
  match Z with
  | some q => r = .tup [.osl bv 4 0 n, .int .i64 0] ∧ M = Mem.emp.set bv ⟨36, 4, rrs (q.map ofQ)⟩ ∧ q.length = n ∧ rowGood q
  | none => r = .tup [.nil, .int .i64 2]
set_option maxHeartbeats 1000000
theorem extend2_call (bv : Nat) (v : List Rat) (fs : List (Option (List Rat))) (fm : List (List Rat)) (at_ : List Nat) (n j : Nat) (hv : rowGood v) (hl : v.length = n) (hfa : FA n fs fm at_) (hfo : formsOk n fs) (hj : j < n) (hn : n ≤ 64) :
    ACall Tryz.prog 100 [.osl bv 4 0 n, matAV (emb fm), .sl 1 (ints at_), .int .i64 j] (Mem.emp.set bv ⟨36, 4, rrs (v.map ofQ)⟩) (ext2Out bv n (extQ fs n j v)) := by
  have hzero := whole7_call 0 (by omega) (by omega)
  rw [intQ_zero] at hzero
  obtain ⟨hf1, hf2, hf3, hf4⟩ := hfa
  have w0 : IntKind.i64.wrap ((j : Int) - 1) = (j : Int) - 1 := wrap_i64 (by omega) (by omega)
  refine acall_S Tryz.func100 rfl rfl 85 rfl (Nat.le_of_ble_eq_true rfl) ?_
  (repeat refine AW.seq_k fun K hK => ?_)
  refine AW.rg ?_
  simp [argsL]
  try (refine hK _ rfl ?_; clear hK; clear K)
  refine AW.seq_ex (ι := List Rat) (fun _ => [(0, .osl bv 4 0 n)]) (fun v => Mem.emp.set bv ⟨36, 4, rrs (v.map ofQ)⟩) (fun q => extQ fs n j v = some q ∧ q.length = n ∧ rowGood q) ?_ ?_
  · (repeat refine AW.seq_k fun K hK => ?_)
    refine AW.rg ?_
    simp [w0]
    try (refine hK _ rfl ?_; clear hK; clear K)
    refine AW.block (AW.loopS (ι := Nat × List Rat) (fun z => [(0, .osl bv 4 0 n), (1, matAV (emb fm)), (2, .sl 1 (ints at_)), (3, .int .i64 j), (10, .int .i64 ((j : Int) - 1 - (z.1 : Nat)))]) (fun z => Mem.emp.set bv ⟨36, 4, rrs (z.2.map ofQ)⟩) (fun z => z.1 ≤ j ∧ iterO (extStep fs n j) z.1 v = some z.2 ∧ z.2.length = n ∧ rowGood z.2) (fun z => n - z.1) (0, v) ⟨by simp, rfl, hl, hv⟩ rfl (by simp) ?_)
    rintro ⟨t, v1⟩ ⟨g1, g2, g3, g4⟩
    simp only at g1 g2 g3 g4
    simp only
    (repeat refine AW.seq_k fun K hK => ?_)
    refine AW.rg ?_
    simp
    try (refine hK _ rfl ?_; clear hK; clear K)
    (repeat refine AW.seq ?_)
    refine AW.cs (fun ht => ?_) (fun ht => ?_) rfl <;> (try simp at ht)
    · refine AW.skip ?_
      try simp
      refine hK _ rfl ?_
      clear hK
      clear K
      have htj : t < j := by omega
      obtain ⟨i, hi2⟩ : ∃ i, j - 1 - t = i := ⟨_, rfl⟩
      have hiz : (j : Int) - 1 - (t : Nat) = (i : Nat) := by omega
      have hiz2 : (j : Int) - 1 - ((t + 1 : Nat) : Int) = (i : Int) - 1 := by omega
      have w1 : IntKind.i64.wrap ((i : Int) - 1) = (i : Int) - 1 := wrap_i64 (by omega) (by omega)
      have w2 : IntKind.i64.wrap ((i + 1 : Nat) : Int) = ((i + 1 : Nat) : Int) := wi (by omega)
      have hin : i < n := by omega
      have hia : i < at_.length := by omega
      have hga : at_.getD i 0 = at_[i] := by rw [List.getD_eq_getElem?_getD, List.getElem?_eq_getElem hia]; rfl
      rw [hiz]
      have hext : iterO (extStep fs n j) (t + 1) v = match fs.getD i none with
          | none => some v1
          | some form => (dotQ form v1 i n).bind fun s => (subQ 0 s).map (v1.set i) := by
        rw [iterO_succ, g2]; show extStep fs n j t v1 = _; unfold extStep; rw [hi2] <;> rfl
      have hfi := hf4 i hin
      refine AW.seq_ex (ι := List Rat) (fun _ => [(0, .osl bv 4 0 n), (1, matAV (emb fm)), (2, .sl 1 (ints at_)), (3, .int .i64 j), (10, .int .i64 (i : Nat))]) (fun v => Mem.emp.set bv ⟨36, 4, rrs (v.map ofQ)⟩) (fun q => iterO (extStep fs n j) (t + 1) v = some q ∧ q.length = n ∧ rowGood q) ?_ ?_
      · (repeat refine AW.seq ?_)
        refine AW.block ?_
        (repeat refine AW.seq_k fun K hK => ?_)
        refine AW.rg ?_
        simp [hia]
        try (refine hK _ rfl ?_; clear hK; clear K)
        cases hfs : fs.getD i none with
        | none =>
          rw [hfs] at hfi hext
          replace hfi : at_.getD i 0 = 0 := hfi
          rw [hga] at hfi
          refine AW.yes ?_ (by simp [hfi])
          refine AW.exit ?_
          try simp
          exact ⟨v1, ⟨hext, g3, g4⟩, rfl⟩
        | some form =>
          rw [hfs] at hfi hext
          obtain ⟨a1, a2, a3⟩ : 0 < at_.getD i 0 ∧ at_.getD i 0 - 1 < fm.length ∧ mrow fm (at_.getD i 0 - 1) = form := hfi
          replace hext : iterO (extStep fs n j) (t + 1) v = (dotQ form v1 i n).bind fun s => (subQ 0 s).map (v1.set i) := hext
          obtain ⟨fg, fl⟩ := hfo i form hfs
          rw [hga] at a1 a2 a3
          have ha0 : ¬ at_[i] = 0 := by omega
          refine AW.no ?_ (by simp [ha0])
          refine AW.skip ?_
          try simp
          refine hK _ rfl ?_
          clear hK
          clear K
          (repeat refine AW.seq_k fun K hK => ?_)
          refine AW.rg ?_
          simp
          try (refine hK _ rfl ?_; clear hK; clear K)
          refine CallK.val hzero ?_
          simp
          refine Fresh.intro fun b11 hb11 => ?_
          simp only [set_none2, emp_at, and_true] at hb11
          refine hK _ rfl ?_
          clear hK
          clear K
          obtain ⟨m1, m1'⟩ := hb11
          try simp [m1, m1']
          rw [show (Mem.emp.set bv ⟨36, 4, rrs (v1.map ofQ)⟩).set b11 ⟨36, 4, [(ofQ 0).av]⟩ = E2 bv b11 v1 0 from rfl]
          refine AW.seq_ex (ι := Rat) (fun _ => [(0, .osl bv 4 0 n), (1, matAV (emb fm)), (2, .sl 1 (ints at_)), (3, .int .i64 j), (10, .int .i64 (i : Nat)), (11, .ptr b11 4 0 0)]) (fun s => E2 bv b11 v1 s) (fun s => dotQ form v1 i n = some s) ?_ ?_
          · (repeat refine AW.seq_k fun K hK => ?_)
            refine AW.rg ?_
            simp [-Int.natCast_add, w2]
            try (refine hK _ rfl ?_; clear hK; clear K)
            refine AW.block (AW.loopS (ι := Nat × Rat) (fun z => [(0, .osl bv 4 0 n), (1, matAV (emb fm)), (2, .sl 1 (ints at_)), (3, .int .i64 j), (10, .int .i64 (i : Nat)), (11, .ptr b11 4 0 0), (12, .int .i64 ((i + 1 + z.1 : Nat) : Int))]) (fun z => E2 bv b11 v1 z.2) (fun z => z.1 ≤ n - (i + 1) ∧ iterO (dotStep form v1 i) z.1 0 = some z.2) (fun z => n - z.1) (0, 0) ⟨by simp, rfl⟩ rfl (by simp [-Int.natCast_add]) ?_)
            rintro ⟨u, s⟩ ⟨k1, k2⟩
            simp only at k1 k2
            simp only
            generalize hk : i + 1 + u = k at *
            (repeat refine AW.seq_k fun K hK => ?_)
            refine AW.rg ?_
            simp [-Int.natCast_add]
            try (refine hK _ rfl ?_; clear hK; clear K)
            (repeat refine AW.seq ?_)
            refine AW.cs (fun hkn => ?_) (fun hkn => ?_) rfl <;> (try simp at hkn)
            · refine AW.skip ?_
              try simp [-Int.natCast_add]
              refine hK _ rfl ?_
              clear hK
              clear K
              have w3 : IntKind.i64.wrap ((k + 1 : Nat) : Int) = ((k + 1 : Nat) : Int) := wi (by omega)
              have w4 : IntKind.i64.wrap ((at_[i] : Int) - 1) = ((at_[i] - 1 : Nat) : Int) := by rw [show ((at_[i] : Int) - 1) = ((at_[i] - 1 : Nat) : Int) by omega]; exact wi (by omega)
              have hkf : k < form.length := by omega
              have hkv : k < v1.length := by omega
              have hkvR : (v1.map ofQ).length = n := by rw [List.length_map, g3]
              have hafE : at_[i] - 1 < (emb fm).length := by rw [emb_length]; exact a2
              have hfr : mrow (emb fm) (at_[i] - 1) = form.map ofQ := by rw [emb_row, a3]
              have hflR : (form.map ofQ).length = n := by rw [List.length_map, fl]
              have e1 : rr (form.map ofQ) k = ofQ (qat form k) := rr_map hkf
              have e2 : rr (v1.map ofQ) k = ofQ (qat v1 k) := rr_map hkv
              have y1 : Good (qat form k) := fg.at hkf
              have y2 : Good (qat v1 k) := g4.at hkv
              have hmul := mul2_call _ _ y1 y2
              have hst : iterO (dotStep form v1 i) (u + 1) 0 = (mulQ (qat form k) (qat v1 k)).bind (addQ s) := by
                rw [iterO_succ, k2]; show dotStep form v1 i u s = _; unfold dotStep; rw [hk]
              have hno : iterO (dotStep form v1 i) (u + 1) 0 = none → extQ fs n j v = none := fun h => by
                have : dotQ form v1 i n = none := iterO_none' h (m := n - (i + 1)) (by omega)
                rw [this] at hext
                exact iterO_none' hext (m := j) (by omega)
              have gs := dot_good k2
              obtain ⟨t1, t2⟩ := E2_at (v := v1) (s := s) m1
              refine AW.seq_ex (ι := Rat) (fun _ => [(0, .osl bv 4 0 n), (1, matAV (emb fm)), (2, .sl 1 (ints at_)), (3, .int .i64 j), (10, .int .i64 (i : Nat)), (11, .ptr b11 4 0 0), (12, .int .i64 (k : Nat))]) (fun s => E2 bv b11 v1 s) (fun s => iterO (dotStep form v1 i) (u + 1) 0 = some s) ?_ ?_
              · (repeat refine AW.seq ?_)
                refine AW.block ?_
                cases hq : mulQ (qat form k) (qat v1 k) with
                | none =>
                  rw [hq] at hmul hst
                  simp only [resQ] at hmul
                  rw [hno hst]
                  (repeat refine AW.seq_k fun K hK => ?_)
                  refine AW.rdT [] [] [] [bv] [0, 1, 2, 3, 4, 5, 6, 7, 8, 9, 10, 11, 12, 13, 14, 15, 16, 17, 18, 19, 20, 21] mix (by simp [hia, w4, hafE, hfr, hflR, hkn, hkvR, t2, e1, e2]) (by simp [hia, w4, hafE, hfr, hflR, hkn, hkvR, t2, e1, e2]) (by simp [hia, w4, hafE, hfr, hflR, hkn, hkvR, t2, e1, e2]) (by simp [hia, w4, hafE, hfr, hflR, hkn, hkvR, t2, e1, e2]) (by simp [hia, w4, hafE, hfr, hflR, hkn, hkvR, t2, e1, e2]) ?_
                  simp [-Int.natCast_add, hia, w4, hafE, hfr, hflR, hkn, hkvR, t2, e1, e2]
                  try (refine hK _ rfl ?_; clear hK; clear K)
                  refine CallK.val hmul ?_
                  simp [zeroRat]
                  refine Fresh.intro fun b13 hb13 => ?_
                  refine hK _ rfl ?_
                  clear hK
                  clear K
                  refine AW.turn [(14, .int .i64 2)] (E2 bv b11 v1 s) (Recast.drop hb13 (E2_ones bv b11 v1 s)) (by simp) ?_
                  (repeat refine AW.seq_k fun K hK => ?_)
                  refine AW.rg ?_
                  simp [-Int.natCast_add]
                  try (refine hK _ rfl ?_; clear hK; clear K)
                  refine AW.yes ?_ rfl
                  (repeat refine AW.seq_k fun K hK => ?_)
                  refine AW.rg ?_
                  simp [-Int.natCast_add]
                  try (refine hK _ rfl ?_; clear hK; clear K)
                  exact AW.ret (ret_mem rfl (E2_ones bv b11 v1 s) rfl)
                | some p =>
                  rw [hq] at hmul hst
                  simp only [resQ] at hmul
                  replace hst : iterO (dotStep form v1 i) (u + 1) 0 = addQ s p := hst
                  have hadd := add2_call s p gs (good_mul hq)
                  (repeat refine AW.seq_k fun K hK => ?_)
                  refine AW.rdT [] [] [] [bv] [0, 1, 2, 3, 4, 5, 6, 7, 8, 9, 10, 11, 12, 13, 14, 15, 16, 17, 18, 19, 20, 21] mix (by simp [hia, w4, hafE, hfr, hflR, hkn, hkvR, t2, e1, e2]) (by simp [hia, w4, hafE, hfr, hflR, hkn, hkvR, t2, e1, e2]) (by simp [hia, w4, hafE, hfr, hflR, hkn, hkvR, t2, e1, e2]) (by simp [hia, w4, hafE, hfr, hflR, hkn, hkvR, t2, e1, e2]) (by simp [hia, w4, hafE, hfr, hflR, hkn, hkvR, t2, e1, e2]) ?_
                  simp [-Int.natCast_add, hia, w4, hafE, hfr, hflR, hkn, hkvR, t2, e1, e2]
                  try (refine hK _ rfl ?_; clear hK; clear K)
                  refine CallK.val hmul ?_
                  simp [qAV]
                  refine Fresh.intro fun b13 hb13 => ?_
                  refine hK _ rfl ?_
                  clear hK
                  clear K
                  refine AW.turn [(0, .osl bv 4 0 n), (1, matAV (emb fm)), (2, .sl 1 (ints at_)), (3, .int .i64 j), (10, .int .i64 (i : Nat)), (11, .ptr b11 4 0 0), (12, .int .i64 (k : Nat)), (13, .rptr [.bool (ofQ p).n1, lim (ofQ p).l1, .bool (ofQ p).n2, lim (ofQ p).l2]), (14, .int .i64 0)] (E2 bv b11 v1 s) (Recast.drop hb13 (E2_ones bv b11 v1 s)) ?_ ?_
                  · simp
                    exact view_temp hb13
                  (repeat refine AW.seq_k fun K hK => ?_)
                  refine AW.rg ?_
                  simp [-Int.natCast_add]
                  try (refine hK _ rfl ?_; clear hK; clear K)
                  refine AW.no ?_ rfl
                  refine AW.skip ?_
                  try simp [-Int.natCast_add]
                  refine hK _ rfl ?_
                  clear hK
                  clear K
                  cases hqa : addQ s p with
                  | none =>
                    rw [hqa] at hadd hst
                    simp only [resQ] at hadd
                    rw [hno hst]
                    (repeat refine AW.seq_k fun K hK => ?_)
                    refine AW.rg ?_
                    simp [-Int.natCast_add, t1]
                    try (refine hK _ rfl ?_; clear hK; clear K)
                    refine CallK.val hadd ?_
                    simp [zeroRat]
                    refine Fresh.intro fun b15 hb15 => ?_
                    refine hK _ rfl ?_
                    clear hK
                    clear K
                    refine AW.turn [(16, .int .i64 2)] (E2 bv b11 v1 s) (Recast.drop hb15 (E2_ones bv b11 v1 s)) (by simp) ?_
                    (repeat refine AW.seq_k fun K hK => ?_)
                    refine AW.rg ?_
                    simp [-Int.natCast_add]
                    try (refine hK _ rfl ?_; clear hK; clear K)
                    refine AW.yes ?_ rfl
                    (repeat refine AW.seq_k fun K hK => ?_)
                    refine AW.rg ?_
                    simp [-Int.natCast_add]
                    try (refine hK _ rfl ?_; clear hK; clear K)
                    exact AW.ret (ret_mem rfl (E2_ones bv b11 v1 s) rfl)
                  | some z =>
                    rw [hqa] at hadd hst
                    simp only [resQ] at hadd
                    (repeat refine AW.seq_k fun K hK => ?_)
                    refine AW.rg ?_
                    simp [-Int.natCast_add, t1]
                    try (refine hK _ rfl ?_; clear hK; clear K)
                    refine CallK.val hadd ?_
                    simp [qAV]
                    refine Fresh.intro fun b15 hb15 => ?_
                    refine hK _ rfl ?_
                    clear hK
                    clear K
                    refine AW.turn [(0, .osl bv 4 0 n), (1, matAV (emb fm)), (2, .sl 1 (ints at_)), (3, .int .i64 j), (10, .int .i64 (i : Nat)), (11, .ptr b11 4 0 0), (12, .int .i64 (k : Nat)), (15, .rptr [.bool (ofQ z).n1, lim (ofQ z).l1, .bool (ofQ z).n2, lim (ofQ z).l2]), (16, .int .i64 0)] (E2 bv b11 v1 s) (Recast.drop hb15 (E2_ones bv b11 v1 s)) ?_ ?_
                    · simp
                      exact view_temp hb15
                    (repeat refine AW.seq_k fun K hK => ?_)
                    refine AW.rg ?_
                    simp [-Int.natCast_add]
                    try (refine hK _ rfl ?_; clear hK; clear K)
                    refine AW.no ?_ rfl
                    refine AW.skip ?_
                    try simp [-Int.natCast_add]
                    refine hK _ rfl ?_
                    clear hK
                    clear K
                    (repeat refine AW.seq_k fun K hK => ?_)
                    refine AW.rg ?_
                    simp [-Int.natCast_add, t1]
                    try (refine hK _ rfl ?_; clear hK; clear K)
                    exact ⟨z, hst, E2_s z⟩
              rintro s hs
              (repeat refine AW.seq_k fun K hK => ?_)
              refine AW.rg ?_
              simp [-Int.natCast_add, w3]
              try (refine hK _ rfl ?_; clear hK; clear K)
              exact ⟨u + 1, s, ⟨by omega, hs⟩, by omega, rfl, by omega⟩
            · refine AW.exit ?_
              try simp [-Int.natCast_add]
              have : u = n - (i + 1) := by omega
              subst this
              exact ⟨s, k2, rfl⟩
          rintro s hs
          rw [hs] at hext
          replace hext : iterO (extStep fs n j) (t + 1) v = (subQ 0 s).map (v1.set i) := hext
          have gs := dot_good (show iterO (dotStep form v1 i) (n - (i + 1)) 0 = some s from hs)
          obtain ⟨n1, n2⟩ := good_neg gs
          have hsub := sub2_call 0 s good_zero gs
          rw [n1] at hsub hext
          simp only [resQ] at hsub
          replace hext : iterO (extStep fs n j) (t + 1) v = some (v1.set i (-s)) := hext
          generalize -s = y at *
          obtain ⟨t1, t2⟩ := E2_at (v := v1) (s := s) m1
          (repeat refine AW.seq_k fun K hK => ?_)
          refine AW.rdT [] [] [] [b11] [1,0,2,3,4,5,6,7,8] mix (by simp [t1]) (by simp [t1]) (by simp [t1]) (by simp [t1]) (by simp [t1]) ?_
          simp [t1]
          try (refine hK _ rfl ?_; clear hK; clear K)
          refine CallK.val hzero ?_
          simp
          refine CallK.val hsub ?_
          simp [qAV]
          refine Fresh.intro fun b17 hb17 => ?_
          refine hK _ rfl ?_
          clear hK
          clear K
          refine AW.turn [(0, .osl bv 4 0 n), (1, matAV (emb fm)), (2, .sl 1 (ints at_)), (3, .int .i64 j), (10, .int .i64 (i : Nat)), (17, .rptr [.bool (ofQ y).n1, lim (ofQ y).l1, .bool (ofQ y).n2, lim (ofQ y).l2]), (18, .int .i64 0)] (E2 bv b11 v1 s) (Recast.drop hb17 (E2_ones bv b11 v1 s)) ?_ ?_
          · simp
            exact view_temp hb17
          refine AW.turn [(0, .osl bv 4 0 n), (1, matAV (emb fm)), (2, .sl 1 (ints at_)), (3, .int .i64 j), (10, .int .i64 (i : Nat)), (17, .rptr [.bool (ofQ y).n1, lim (ofQ y).l1, .bool (ofQ y).n2, lim (ofQ y).l2]), (18, .int .i64 0)] (Mem.emp.set bv ⟨36, 4, rrs (v1.map ofQ)⟩) (Recast.drop (by simp [m1]) (vec_ones bv v1)) (by simp) ?_
          have hkvR : (v1.map ofQ).length = n := by rw [List.length_map, g3]
          (repeat refine AW.seq_k fun K hK => ?_)
          refine AW.rg ?_
          simp
          try (refine hK _ rfl ?_; clear hK; clear K)
          refine AW.no ?_ rfl
          refine AW.skip ?_
          try simp
          refine hK _ rfl ?_
          clear hK
          clear K
          (repeat refine AW.seq_k fun K hK => ?_)
          refine AW.rg ?_
          simp [hin, hkvR]
          try (refine hK _ rfl ?_; clear hK; clear K)
          refine ⟨v1.set i y, ⟨hext, by rw [List.length_set]; exact g3, good_set g4 i n2⟩, ?_⟩
          rw [List.map_set, ← rrs_set]
          rfl
      rintro q ⟨h1, h2, h3⟩
      (repeat refine AW.seq_k fun K hK => ?_)
      refine AW.rg ?_
      simp [w1]
      try (refine hK _ rfl ?_; clear hK; clear K)
      refine ⟨t + 1, q, ⟨by omega, h1, h2, h3⟩, by omega, rfl, ?_⟩
      omega
    · refine AW.exit ?_
      try simp
      have : t = j := by omega
      subst this
      exact ⟨v1, ⟨g2, g3, g4⟩, rfl⟩
  rintro q ⟨h1, h2, h3⟩
  rw [h1]
  (repeat refine AW.seq_k fun K hK => ?_)
  refine AW.rg ?_
  simp
  try (refine hK _ rfl ?_; clear hK; clear K)
  exact AW.ret (ret_mem rfl (vec_ones bv q) ⟨rfl, rfl, h2, h3⟩)
end Go.Av
end
section
namespace Go.Av
open Go.Proofs
def split2Out (B : Nat) (bs : List Nat) (n j : Nat) (l : List (List Rat)) (v : AV) (M' : Mem) : Prop :=
  match splitQ n j l with
  | some z => ∃ bv M1, v = .tup [.osl bv 4 0 n, .int .i64 0] ∧ M' = M1.set bv ⟨36, 4, rrs (z.1.map ofQ)⟩ ∧ RefM M1 B bs z.2 ∧ M1 bv = none ∧ z.1.length = n ∧ rowGood z.1 ∧ matGood n n z.2
  | none => v = .tup [.nil, .int .i64 2]
structure SpS where
  M : Mem
  X : List (List Rat)
set_option maxHeartbeats 1000000
theorem split2_call (M0 : Mem) (B : Nat) (bs : List Nat) (l : List (List Rat)) (n j : Nat) (hR : RefM M0 B bs l) (hG : matGood n n l) (hj : j < n) (hn : n ≤ 64) (hd : qel l j j ≠ 0) :
    ACall Tryz.prog 97 [.osl B 1 0 n, .int .i64 j] M0 (split2Out B bs n j l) := by
  have hone := whole7_call 1 (by omega) (by omega)
  rw [intQ_one] at hone
  have hz := zeros_pos n (by omega) (by omega)
  have hjE : j < (emb l).length := by rw [emb_length, hG.2.2]; exact hj
  have hlj : (mrow (emb l) j).length = n := by rw [emb_row, List.length_map]; exact (hG.row hj).2
  have hjj : j < (mrow l j).length := by rw [(hG.row hj).2]; exact hj
  have ejj : rr (mrow (emb l) j) j = ofQ (qel l j j) := by rw [emb_row, rr_map hjj]; rfl
  have gjj : Good (qel l j j) := hG.1.at hjj
  have gtj := hR.1.get hjE
  rw [hlj] at gtj
  have w1 : IntKind.i64.wrap ((j + 1 : Nat) : Int) = ((j + 1 : Nat) : Int) := wi (by omega)
  refine acall_S Tryz.func97 rfl rfl 103 rfl (Nat.le_of_ble_eq_true rfl) ?_
  (repeat refine AW.seq_k fun K hK => ?_)
  refine AW.rg ?_
  simp [argsL]
  try (refine hK _ rfl ?_; clear hK; clear K)
  (repeat refine AW.seq_k fun K hK => ?_)
  refine AW.rg ?_
  simp
  try (refine hK _ rfl ?_; clear hK; clear K)
  refine CallK.make hz ?_
  rintro bv _ _ ⟨rfl, rfl⟩ hbv _
  simp
  refine hK _ rfl ?_
  clear hK
  clear K
  have hoff := hR.fresh hbv
  have hjv : nb bs j ≠ bv := fun e => hoff (e ▸ List.mem_cons_of_mem _ (nb_mem (by rw [hR.1.len]; exact hjE)))
  have hBv : B ≠ bv := fun e => hoff (by simp [e])
  (repeat refine AW.seq_k fun K hK => ?_)
  refine AW.rg ?_
  simp
  try (refine hK _ rfl ?_; clear hK; clear K)
  refine CallK.val hone ?_
  simp [hj]
  refine hK _ rfl ?_
  clear hK
  clear K
  rw [show (List.replicate n (ofQ 0)).set j (ofQ 1) = (eQ n j).map ofQ by unfold eQ; rw [List.map_set, List.map_replicate]]
  have hvones : ∀ (M : Mem) (f : List Rat), OnesM M → OnesM (M.set bv ⟨36, 4, rrs (f.map ofQ)⟩) := fun M f h => OnesM.set h bv (rrs_ok _)
  refine AW.seq_ex (ι := List Rat) (fun _ => [(0, .osl B 1 0 n), (1, .int .i64 j), (6, .osl bv 4 0 n)]) (fun f => M0.set bv ⟨36, 4, rrs (f.map ofQ)⟩) (fun f => formQ n j l = some f ∧ rowGood f ∧ f.length = n) ?_ ?_
  · (repeat refine AW.seq_k fun K hK => ?_)
    refine AW.rg ?_
    simp [-Int.natCast_add, w1]
    try (refine hK _ rfl ?_; clear hK; clear K)
    refine AW.block (AW.loopS (ι := Nat × List Rat) (fun z => [(0, .osl B 1 0 n), (1, .int .i64 j), (6, .osl bv 4 0 n), (7, .int .i64 ((j + 1 + z.1 : Nat) : Int))]) (fun z => M0.set bv ⟨36, 4, rrs (z.2.map ofQ)⟩) (fun z => z.1 ≤ n - (j + 1) ∧ iterO (formStep (mrow l j) (qel l j j) j) z.1 (eQ n j) = some z.2 ∧ rowGood z.2 ∧ z.2.length = n) (fun z => n - z.1) (0, eQ n j) ⟨by simp, rfl, rowGood_e n j, eQ_length n j⟩ rfl (by simp [-Int.natCast_add]) ?_)
    rintro ⟨t, f⟩ ⟨g1, g2, g3, g4⟩
    simp only at g1 g2 g3 g4
    simp only
    generalize hk : j + 1 + t = k at *
    (repeat refine AW.seq_k fun K hK => ?_)
    refine AW.rg ?_
    simp [-Int.natCast_add]
    try (refine hK _ rfl ?_; clear hK; clear K)
    (repeat refine AW.seq ?_)
    refine AW.cs (fun hkn => ?_) (fun hkn => ?_) rfl <;> (try simp at hkn)
    · refine AW.skip ?_
      try simp [-Int.natCast_add]
      refine hK _ rfl ?_
      clear hK
      clear K
      have w2 : IntKind.i64.wrap ((k + 1 : Nat) : Int) = ((k + 1 : Nat) : Int) := wi (by omega)
      have hkl : k < (mrow l j).length := by rw [(hG.row hj).2]; exact hkn
      have ejk : rr (mrow (emb l) j) k = ofQ (qat (mrow l j) k) := by rw [emb_row, rr_map hkl]
      have gjk : Good (qat (mrow l j) k) := (hG.row hj).1.at hkl
      have hdv := div2_call _ _ gjk gjj hd
      have hfR : (f.map ofQ).length = n := by rw [List.length_map, g4]
      have hst : iterO (formStep (mrow l j) (qel l j j) j) (t + 1) (eQ n j) = (divQ (qat (mrow l j) k) (qel l j j)).map (f.set k) := by
        rw [iterO_succ, g2]; show formStep (mrow l j) (qel l j j) j t f = _; unfold formStep; rw [hk]; rfl
      have hfk := fun f' (h : iterO (formStep (mrow l j) (qel l j j) j) (t + 1) (eQ n j) = some f') => form_keep hd ⟨rowGood_e n j, eQ_length n j⟩ h
      refine AW.seq_ex (ι := List Rat) (fun _ => [(0, .osl B 1 0 n), (1, .int .i64 j), (6, .osl bv 4 0 n), (7, .int .i64 (k : Nat))]) (fun f => M0.set bv ⟨36, 4, rrs (f.map ofQ)⟩) (fun f => iterO (formStep (mrow l j) (qel l j j) j) (t + 1) (eQ n j) = some f) ?_ ?_
      · (repeat refine AW.seq ?_)
        refine AW.block ?_
        cases hq : divQ (qat (mrow l j) k) (qel l j j) with
        | none =>
          rw [hq] at hdv hst
          simp only [resQ] at hdv
          have hX : splitQ n j l = none := by
            unfold splitQ
            rw [show formQ n j l = none from iterO_none' hst (m := n - (j + 1)) (by omega)]; rfl
          (repeat refine AW.seq_k fun K hK => ?_)
          refine AW.rdT [] [] [] [B, nb bs j] [0, 1, 2, 3, 4, 5, 6, 7, 8, 9, 10, 11, 12, 13, 14, 15, 16, 17, 18, 19, 20] mix (by simp [hj, hkn, hBv, Ne.symm hBv, hjv, hR.1.top, ↓gtj, hR.1.row j hjE, hlj, ejj, ejk]) (by simp [hj, hkn, hBv, Ne.symm hBv, hjv, hR.1.top, ↓gtj, hR.1.row j hjE, hlj, ejj, ejk]) (by simp [hj, hkn, hBv, Ne.symm hBv, hjv, hR.1.top, ↓gtj, hR.1.row j hjE, hlj, ejj, ejk]) (by simp [hj, hkn, hBv, Ne.symm hBv, hjv, hR.1.top, ↓gtj, hR.1.row j hjE, hlj, ejj, ejk]) (by simp [hj, hkn, hBv, Ne.symm hBv, hjv, hR.1.top, ↓gtj, hR.1.row j hjE, hlj, ejj, ejk]) ?_
          simp [-Int.natCast_add, hj, hkn, hBv, Ne.symm hBv, hjv, hR.1.top, ↓gtj, hR.1.row j hjE, hlj, ejj, ejk]
          try (refine hK _ rfl ?_; clear hK; clear K)
          refine CallK.val hdv ?_
          simp [zeroRat]
          refine Fresh.intro fun b8 hb8 => ?_
          refine hK _ rfl ?_
          clear hK
          clear K
          refine AW.turn [(9, .int .i64 2)] _ (Recast.drop hb8 (hvones M0 f hR.ones)) (by simp) ?_
          (repeat refine AW.seq_k fun K hK => ?_)
          refine AW.rg ?_
          simp [-Int.natCast_add]
          try (refine hK _ rfl ?_; clear hK; clear K)
          refine AW.yes ?_ rfl
          (repeat refine AW.seq_k fun K hK => ?_)
          refine AW.rg ?_
          simp [-Int.natCast_add]
          try (refine hK _ rfl ?_; clear hK; clear K)
          refine AW.ret (ret_mem rfl (hvones M0 f hR.ones) ?_)
          unfold split2Out
          rw [hX]
          rfl
        | some z =>
          rw [hq] at hdv hst
          simp only [resQ] at hdv
          replace hst : iterO (formStep (mrow l j) (qel l j j) j) (t + 1) (eQ n j) = some (f.set k z) := hst
          (repeat refine AW.seq_k fun K hK => ?_)
          refine AW.rdT [] [] [] [B, nb bs j] [0, 1, 2, 3, 4, 5, 6, 7, 8, 9, 10, 11, 12, 13, 14, 15, 16, 17, 18, 19, 20] mix (by simp [hj, hkn, hBv, Ne.symm hBv, hjv, hR.1.top, ↓gtj, hR.1.row j hjE, hlj, ejj, ejk]) (by simp [hj, hkn, hBv, Ne.symm hBv, hjv, hR.1.top, ↓gtj, hR.1.row j hjE, hlj, ejj, ejk]) (by simp [hj, hkn, hBv, Ne.symm hBv, hjv, hR.1.top, ↓gtj, hR.1.row j hjE, hlj, ejj, ejk]) (by simp [hj, hkn, hBv, Ne.symm hBv, hjv, hR.1.top, ↓gtj, hR.1.row j hjE, hlj, ejj, ejk]) (by simp [hj, hkn, hBv, Ne.symm hBv, hjv, hR.1.top, ↓gtj, hR.1.row j hjE, hlj, ejj, ejk]) ?_
          simp [-Int.natCast_add, hj, hkn, hBv, Ne.symm hBv, hjv, hR.1.top, ↓gtj, hR.1.row j hjE, hlj, ejj, ejk]
          try (refine hK _ rfl ?_; clear hK; clear K)
          refine CallK.val hdv ?_
          simp [qAV]
          refine Fresh.intro fun b8 hb8 => ?_
          refine hK _ rfl ?_
          clear hK
          clear K
          refine AW.turn [(0, .osl B 1 0 n), (1, .int .i64 j), (6, .osl bv 4 0 n), (7, .int .i64 (k : Nat)), (8, .rptr [.bool (ofQ z).n1, lim (ofQ z).l1, .bool (ofQ z).n2, lim (ofQ z).l2]), (9, .int .i64 0)] _ (Recast.drop hb8 (hvones M0 f hR.ones)) ?_ ?_
          · simp
            exact view_temp hb8
          (repeat refine AW.seq_k fun K hK => ?_)
          refine AW.rg ?_
          simp [-Int.natCast_add]
          try (refine hK _ rfl ?_; clear hK; clear K)
          refine AW.no ?_ rfl
          refine AW.skip ?_
          try simp [-Int.natCast_add]
          refine hK _ rfl ?_
          clear hK
          clear K
          (repeat refine AW.seq_k fun K hK => ?_)
          refine AW.rg ?_
          simp [-Int.natCast_add, hkn, hfR]
          try (refine hK _ rfl ?_; clear hK; clear K)
          refine ⟨f.set k z, hst, ?_⟩
          rw [List.map_set, ← rrs_set]
          rfl
      rintro f hs
      obtain ⟨r1, r2⟩ := hfk f hs
      (repeat refine AW.seq_k fun K hK => ?_)
      refine AW.rg ?_
      simp [-Int.natCast_add, w2]
      try (refine hK _ rfl ?_; clear hK; clear K)
      exact ⟨t + 1, f, ⟨by omega, hs, r1, r2⟩, by omega, rfl, by omega⟩
    · refine AW.exit ?_
      try simp [-Int.natCast_add]
      have : t = n - (j + 1) := by omega
      subst this
      exact ⟨f, ⟨g2, g3, g4⟩, rfl⟩
  rintro form ⟨f1, f2, f3⟩
  have hsp : splitQ n j l = (iterO (splitStep n j form) (n - (j + 1)) l).map fun l' => (form, l') := by unfold splitQ; rw [f1]; rfl
  have hfR : (form.map ofQ).length = n := by rw [List.length_map, f3]
  have hno : ∀ {s : Nat}, s ≤ n - (j + 1) → iterO (splitStep n j form) s l = none → splitQ n j l = none := fun hs h => by
    rw [hsp, iterO_none' h (m := n - (j + 1)) (by omega)]; rfl
  generalize hFb : (⟨36, 4, rrs (form.map ofQ)⟩ : Blk) = FB at *
  have hFl : FB.l = rrs (form.map ofQ) ∧ FB.z = 4 := by rw [← hFb]; exact ⟨rfl, rfl⟩
  have hfones : ∀ M, OnesM M → OnesM (M.set bv FB) := fun M h => by rw [← hFb]; exact hvones M form h
  refine AW.seq_ex (ι := SpS) (fun _ => [(6, .osl bv 4 0 n)]) (fun s => s.M.set bv FB) (fun s => RefM s.M B bs s.X ∧ iterO (splitStep n j form) (n - (j + 1)) l = some s.X) ?_ ?_
  · (repeat refine AW.seq_k fun K hK => ?_)
    refine AW.rg ?_
    simp [-Int.natCast_add, w1]
    try (refine hK _ rfl ?_; clear hK; clear K)
    refine AW.block (AW.loopS (ι := Nat × SpS) (fun z => [(0, .osl B 1 0 n), (1, .int .i64 j), (6, .osl bv 4 0 n), (10, .int .i64 ((j + 1 + z.1 : Nat) : Int))]) (fun z => z.2.M.set bv FB) (fun z => z.1 ≤ n - (j + 1) ∧ RefM z.2.M B bs z.2.X ∧ iterO (splitStep n j form) z.1 l = some z.2.X) (fun z => n - z.1) (0, ⟨M0, l⟩) ⟨by simp, hR, rfl⟩ rfl (by simp [-Int.natCast_add]) ?_)
    rintro ⟨s, M, X⟩ ⟨g1, g2, g3⟩
    simp only at g1 g2 g3
    simp only
    generalize hi : j + 1 + s = i at *
    (repeat refine AW.seq_k fun K hK => ?_)
    refine AW.rg ?_
    simp [-Int.natCast_add]
    try (refine hK _ rfl ?_; clear hK; clear K)
    (repeat refine AW.seq ?_)
    refine AW.cs (fun hin => ?_) (fun hin => ?_) rfl <;> (try simp at hin)
    · refine AW.skip ?_
      try simp [-Int.natCast_add]
      refine hK _ rfl ?_
      clear hK
      clear K
      have w2 : IntKind.i64.wrap ((i + 1 : Nat) : Int) = ((i + 1 : Nat) : Int) := wi (by omega)
      obtain ⟨hGX, hXj⟩ := splits_keep (by omega) hG g3
      have hst : iterO (splitStep n j form) (s + 1) l = (iterO (sqRow (mrow X j) (qat form i) j) (n - (j + 1)) (mrow X i)).map (X.set i) := by
        rw [iterO_succ, g3]; show splitStep n j form s X = _; unfold splitStep; rw [hi]
      have hXl := hGX.2.2
      refine AW.seq_ex (ι := SpS) (fun _ => [(0, .osl B 1 0 n), (1, .int .i64 j), (6, .osl bv 4 0 n), (10, .int .i64 (i : Nat))]) (fun s => s.M.set bv FB) (fun z => RefM z.M B bs z.X ∧ iterO (splitStep n j form) (s + 1) l = some z.X) ?_ ?_
      · (repeat refine AW.seq ?_)
        refine AW.block ?_
        (repeat refine AW.seq_k fun K hK => ?_)
        refine AW.rg ?_
        simp [-Int.natCast_add, w1]
        try (refine hK _ rfl ?_; clear hK; clear K)
        refine AW.block (AW.loopS (ι := Nat × Mem × List Rat) (fun z => [(0, .osl B 1 0 n), (1, .int .i64 j), (6, .osl bv 4 0 n), (10, .int .i64 (i : Nat)), (11, .int .i64 ((j + 1 + z.1 : Nat) : Int))]) (fun z => z.2.1.set bv FB) (fun z => z.1 ≤ n - (j + 1) ∧ RefM z.2.1 B bs (X.set i z.2.2) ∧ iterO (sqRow (mrow X j) (qat form i) j) z.1 (mrow X i) = some z.2.2 ∧ rowGood z.2.2 ∧ z.2.2.length = n) (fun z => n - z.1) (0, M, mrow X i) ⟨by simp, by rw [mrow_eq (by omega), List.set_getElem_self]; exact g2, rfl, hGX.row hin⟩ rfl (by simp [-Int.natCast_add]) ?_)
        rintro ⟨t, M, row⟩ ⟨q1, q2, q3, q4, q5⟩
        simp only at q1 q2 q3 q4 q5
        simp only
        generalize hk : j + 1 + t = k at *
        (repeat refine AW.seq_k fun K hK => ?_)
        refine AW.rg ?_
        simp [-Int.natCast_add]
        try (refine hK _ rfl ?_; clear hK; clear K)
        (repeat refine AW.seq ?_)
        refine AW.cs (fun hkn => ?_) (fun hkn => ?_) rfl <;> (try simp at hkn)
        · refine AW.skip ?_
          try simp [-Int.natCast_add]
          refine hK _ rfl ?_
          clear hK
          clear K
          have w3 : IntKind.i64.wrap ((k + 1 : Nat) : Int) = ((k + 1 : Nat) : Int) := wi (by omega)
          have hji : j ≠ i := by omega
          have hiE : i < (emb (X.set i row)).length := by rw [emb_length, List.length_set]; omega
          have hjE' : j < (emb (X.set i row)).length := by rw [emb_length, List.length_set]; omega
          have hri : mrow (emb (X.set i row)) i = row.map ofQ := by rw [emb_row, mrow_set (by omega), if_pos rfl]
          have hrj : mrow (emb (X.set i row)) j = (mrow X j).map ofQ := by rw [emb_row, mrow_set (by omega), if_neg hji]
          have hrowR : (row.map ofQ).length = n := by rw [List.length_map, q5]
          have hjR : ((mrow X j).map ofQ).length = n := by rw [List.length_map]; exact (hGX.row hj).2
          have gti := q2.1.get hiE
          have gtj' := q2.1.get hjE'
          rw [hri, hrowR] at gti
          rw [hrj, hjR] at gtj'
          have Ri := q2.1.row i hiE
          have Rj := q2.1.row j hjE'
          rw [hri] at Ri
          rw [hrj] at Rj
          have hib : i < bs.length := by rw [q2.1.len]; exact hiE
          have hiv : nb bs i ≠ bv := fun e => hoff (e ▸ List.mem_cons_of_mem _ (nb_mem hib))
          have hkr : k < row.length := by omega
          have hkj : k < (mrow X j).length := by rw [(hGX.row hj).2]; exact hkn
          have hif : i < form.length := by omega
          have e1 : rr (row.map ofQ) k = ofQ (qat row k) := rr_map hkr
          have e2 : rr ((mrow X j).map ofQ) k = ofQ (qat (mrow X j) k) := rr_map hkj
          have e3 : rr (form.map ofQ) i = ofQ (qat form i) := rr_map hif
          have hle := less_call (qat row k) (qat (mrow X j) k) (qat form i) (q4.at hkr) ((hGX.row hj).1.at hkj) (f2.at hif)
          have hst2 : iterO (sqRow (mrow X j) (qat form i) j) (t + 1) (mrow X i) = (lessQ (qat row k) (qat (mrow X j) k) (qat form i)).map (row.set k) := by
            rw [iterO_succ, q3]; show sqRow (mrow X j) (qat form i) j t row = _; unfold sqRow; rw [hk]; rfl
          have hrk := fun r' (h : iterO (sqRow (mrow X j) (qat form i) j) (t + 1) (mrow X i) = some r') => sqRow_keep (hGX.row hin) h
          have htop := q2.1.top
          refine AW.seq_ex (ι := Mem × List Rat) (fun _ => [(0, .osl B 1 0 n), (1, .int .i64 j), (6, .osl bv 4 0 n), (10, .int .i64 (i : Nat)), (11, .int .i64 (k : Nat))]) (fun z => z.1.set bv FB) (fun z => RefM z.1 B bs (X.set i z.2) ∧ iterO (sqRow (mrow X j) (qat form i) j) (t + 1) (mrow X i) = some z.2) ?_ ?_
          · (repeat refine AW.seq ?_)
            refine AW.block ?_
            cases hq : lessQ (qat row k) (qat (mrow X j) k) (qat form i) with
            | none =>
              rw [hq] at hle hst2
              simp only [resQ] at hle
              rw [iterO_none' hst2 (m := n - (j + 1)) (by omega)] at hst
              have hX := hno (by omega) hst
              (repeat refine AW.seq_k fun K hK => ?_)
              refine AW.rdT [] [] [] [B, nb bs i, nb bs j, bv] [0, 1, 2, 3, 4, 5, 6, 7, 8, 9, 10, 11, 12, 13, 14, 15, 16, 17, 18, 19, 20, 21, 22, 23, 24] mix (by simp [hj, hin, hkn, hBv, Ne.symm hBv, hiv, hjv, htop, ↓gti, ↓gtj', Ri, Rj, hFl.1, hFl.2, hrowR, hjR, hfR, e1, e2, e3]) (by simp [hj, hin, hkn, hBv, Ne.symm hBv, hiv, hjv, htop, ↓gti, ↓gtj', Ri, Rj, hFl.1, hFl.2, hrowR, hjR, hfR, e1, e2, e3]) (by simp [hj, hin, hkn, hBv, Ne.symm hBv, hiv, hjv, htop, ↓gti, ↓gtj', Ri, Rj, hFl.1, hFl.2, hrowR, hjR, hfR, e1, e2, e3]) (by simp [hj, hin, hkn, hBv, Ne.symm hBv, hiv, hjv, htop, ↓gti, ↓gtj', Ri, Rj, hFl.1, hFl.2, hrowR, hjR, hfR, e1, e2, e3]) (by simp [hj, hin, hkn, hBv, Ne.symm hBv, hiv, hjv, htop, ↓gti, ↓gtj', Ri, Rj, hFl.1, hFl.2, hrowR, hjR, hfR, e1, e2, e3]) ?_
              simp [-Int.natCast_add, hj, hin, hkn, hBv, Ne.symm hBv, hiv, hjv, htop, ↓gti, ↓gtj', Ri, Rj, hFl.1, hFl.2, hrowR, hjR, hfR, e1, e2, e3]
              try (refine hK _ rfl ?_; clear hK; clear K)
              refine CallK.val hle ?_
              simp [zeroRat]
              refine Fresh.intro fun b12 hb12 => ?_
              refine hK _ rfl ?_
              clear hK
              clear K
              refine AW.turn [(13, .int .i64 2)] _ (Recast.drop hb12 (hfones M q2.ones)) (by simp) ?_
              (repeat refine AW.seq_k fun K hK => ?_)
              refine AW.rg ?_
              simp [-Int.natCast_add]
              try (refine hK _ rfl ?_; clear hK; clear K)
              refine AW.yes ?_ rfl
              (repeat refine AW.seq_k fun K hK => ?_)
              refine AW.rg ?_
              simp [-Int.natCast_add]
              try (refine hK _ rfl ?_; clear hK; clear K)
              refine AW.ret (ret_mem rfl (hfones M q2.ones) ?_)
              unfold split2Out
              rw [hX]
              rfl
            | some z =>
              rw [hq] at hle hst2
              simp only [resQ] at hle
              replace hst2 : iterO (sqRow (mrow X j) (qat form i) j) (t + 1) (mrow X i) = some (row.set k z) := hst2
              (repeat refine AW.seq_k fun K hK => ?_)
              refine AW.rdT [] [] [] [B, nb bs i, nb bs j, bv] [0, 1, 2, 3, 4, 5, 6, 7, 8, 9, 10, 11, 12, 13, 14, 15, 16, 17, 18, 19, 20, 21, 22, 23, 24] mix (by simp [hj, hin, hkn, hBv, Ne.symm hBv, hiv, hjv, htop, ↓gti, ↓gtj', Ri, Rj, hFl.1, hFl.2, hrowR, hjR, hfR, e1, e2, e3]) (by simp [hj, hin, hkn, hBv, Ne.symm hBv, hiv, hjv, htop, ↓gti, ↓gtj', Ri, Rj, hFl.1, hFl.2, hrowR, hjR, hfR, e1, e2, e3]) (by simp [hj, hin, hkn, hBv, Ne.symm hBv, hiv, hjv, htop, ↓gti, ↓gtj', Ri, Rj, hFl.1, hFl.2, hrowR, hjR, hfR, e1, e2, e3]) (by simp [hj, hin, hkn, hBv, Ne.symm hBv, hiv, hjv, htop, ↓gti, ↓gtj', Ri, Rj, hFl.1, hFl.2, hrowR, hjR, hfR, e1, e2, e3]) (by simp [hj, hin, hkn, hBv, Ne.symm hBv, hiv, hjv, htop, ↓gti, ↓gtj', Ri, Rj, hFl.1, hFl.2, hrowR, hjR, hfR, e1, e2, e3]) ?_
              simp [-Int.natCast_add, hj, hin, hkn, hBv, Ne.symm hBv, hiv, hjv, htop, ↓gti, ↓gtj', Ri, Rj, hFl.1, hFl.2, hrowR, hjR, hfR, e1, e2, e3]
              try (refine hK _ rfl ?_; clear hK; clear K)
              refine CallK.val hle ?_
              simp [qAV]
              refine Fresh.intro fun b12 hb12 => ?_
              refine hK _ rfl ?_
              clear hK
              clear K
              refine AW.turn [(0, .osl B 1 0 n), (1, .int .i64 j), (6, .osl bv 4 0 n), (10, .int .i64 (i : Nat)), (11, .int .i64 (k : Nat)), (12, .rptr [.bool (ofQ z).n1, lim (ofQ z).l1, .bool (ofQ z).n2, lim (ofQ z).l2]), (13, .int .i64 0)] _ (Recast.drop hb12 (hfones M q2.ones)) ?_ ?_
              · simp
                exact view_temp hb12
              (repeat refine AW.seq_k fun K hK => ?_)
              refine AW.rg ?_
              simp [-Int.natCast_add]
              try (refine hK _ rfl ?_; clear hK; clear K)
              refine AW.no ?_ rfl
              refine AW.skip ?_
              try simp [-Int.natCast_add]
              refine hK _ rfl ?_
              clear hK
              clear K
              have n0 := q2.1.ne hiE
              (repeat refine AW.seq_k fun K hK => ?_)
              refine AW.rdT [] [12] [] [B] [0, 1, 2, 3, 4, 5, 6, 7] mix (by simp [hin, hkn, hBv, Ne.symm hBv, hiv, htop, ↓gti, Ri, hrowR, n0]) (by simp [hin, hkn, hBv, Ne.symm hBv, hiv, htop, ↓gti, Ri, hrowR, n0]) (by simp [hin, hkn, hBv, Ne.symm hBv, hiv, htop, ↓gti, Ri, hrowR, n0]) (by simp [hin, hkn, hBv, Ne.symm hBv, hiv, htop, ↓gti, Ri, hrowR, n0]) (by simp [hin, hkn, hBv, Ne.symm hBv, hiv, htop, ↓gti, Ri, hrowR, n0]) ?_
              simp [-Int.natCast_add, hin, hkn, hBv, Ne.symm hBv, hiv, htop, ↓gti, Ri, hrowR, n0]
              try (refine hK _ rfl ?_; clear hK; clear K)
              refine ⟨M.set (nb bs i) ⟨36, 4, rrs ((row.set k z).map ofQ)⟩, ⟨row.set k z, ?_, hst2⟩, ?_⟩
              · have := q2.setRow (i := i) (r := row.set k z) (by rw [List.length_set]; omega) (by rw [List.length_set, mrow_set (by omega), if_pos rfl])
                rw [List.set_set] at this
                exact this
              · rw [set_comm' _ _ _ (Ne.symm hiv), List.map_set, ← rrs_set]
                rfl
          rintro ⟨M, row⟩ ⟨r1, r2⟩
          obtain ⟨r3, r4⟩ := hrk _ r2
          (repeat refine AW.seq_k fun K hK => ?_)
          refine AW.rg ?_
          simp [-Int.natCast_add, w3]
          try (refine hK _ rfl ?_; clear hK; clear K)
          exact ⟨t + 1, M, ⟨by omega, row, r1, r2, r3, r4⟩, by omega, rfl, by omega⟩
        · refine AW.exit ?_
          try simp [-Int.natCast_add]
          have : t = n - (j + 1) := by omega
          subst this
          refine ⟨⟨M, X.set i row⟩, ⟨q2, ?_⟩, rfl⟩
          rw [hst, q3]; rfl
      rintro ⟨M, X⟩ ⟨r1, r2⟩
      (repeat refine AW.seq_k fun K hK => ?_)
      refine AW.rg ?_
      simp [-Int.natCast_add, w2]
      try (refine hK _ rfl ?_; clear hK; clear K)
      exact ⟨s + 1, ⟨M, X⟩, ⟨by omega, r1, r2⟩, by omega, rfl, by omega⟩
    · refine AW.exit ?_
      try simp [-Int.natCast_add]
      have : s = n - (j + 1) := by omega
      subst this
      exact ⟨⟨M, X⟩, ⟨g2, g3⟩, rfl⟩
  rintro ⟨M, X⟩ ⟨g2, g3⟩
  simp only at g2 g3
  simp only
  (repeat refine AW.seq_k fun K hK => ?_)
  refine AW.rg ?_
  simp
  try (refine hK _ rfl ?_; clear hK; clear K)
  refine AW.ret (ret_mem rfl (hfones M g2.ones) ?_)
  unfold split2Out
  rw [hsp, g3]
  refine ⟨bv, M, rfl, by rw [← hFb]; rfl, g2, g2.2.none hoff, f3, f2, ?_⟩
  exact (splits_keep (by omega) hG g3).1
end Go.Av
end
section
namespace Go.Av
open Go.Proofs
theorem lstV_get {M : Mem} {ty : TypeId} {z : Nat} {ov : AV} {ob : List Nat} {l : List AV} (h : LstV M ty z ov ob l) {b : Nat} (hb : b ∈ ob) : M b = some ⟨ty, z, l⟩ := by
  rcases h with ⟨_, h1, _⟩ | ⟨b', h1, _, h3⟩
  · rw [h1] at hb; cases hb
  · rw [h1] at hb; simp at hb; subst hb; exact h3
theorem MatM.congr {M M' : Mem} {B : Nat} {bs : List Nat} {rows : List (List RR)} (h : MatM M B bs rows) (he : ∀ b ∈ B :: bs, M' b = M b) : MatM M' B bs rows :=
  ⟨by rw [he B (by simp)]; exact h.top, h.len, fun i hi => by rw [he _ (List.mem_cons_of_mem _ (nb_mem (by rw [h.len]; exact hi)))]; exact h.row i hi, h.nd, h.nB⟩
structure S7 (M : Mem) (B : Nat) (bs : List Nat) (X : List (List Rat)) (b8 : Nat) (at_ : List Nat) (wv : AV) (wb : List Nat) (wl : List AV) (fv : AV) (fb : List Nat) (fl : List AV) : Prop where
  mat : MatM M B bs (emb X)
  tab : M b8 = some ⟨3, 1, ints at_⟩
  wts : LstV M 36 4 wv wb wl
  fms : LstV M 42 1 fv fb fl
  only : ∀ b, M b ≠ none → b = b8 ∨ b ∈ B :: bs ∨ b ∈ wb ∨ b ∈ fb
  d8 : b8 ∉ B :: bs
  dw : ∀ b ∈ wb, b ≠ b8 ∧ b ∉ B :: bs
  df : ∀ b ∈ fb, b ≠ b8 ∧ b ∉ B :: bs ∧ b ∉ wb
section
variable {M : Mem} {B b8 : Nat} {bs wb fb : List Nat} {X : List (List Rat)} {at_ : List Nat} {wv fv : AV} {wl fl : List AV}
theorem S7.fresh (h : S7 M B bs X b8 at_ wv wb wl fv fb fl) {b : Nat} (hb : M b = none) : b ≠ b8 ∧ b ∉ B :: bs ∧ b ∉ wb ∧ b ∉ fb := by
  refine ⟨(by rintro rfl; rw [h.tab] at hb; cases hb), fun hm => ?_, fun hm => ?_, fun hm => ?_⟩
  · rcases List.mem_cons.1 hm with rfl | hm
    · rw [h.mat.top] at hb; cases hb
    · obtain ⟨k, hk, e⟩ := List.mem_iff_getElem.1 hm
      rw [← nb_eq hk] at e
      have := h.mat.row k (by rw [← h.mat.len]; exact hk)
      rw [e, hb] at this; cases this
  · rw [lstV_get h.wts hm] at hb; cases hb
  · rw [lstV_get h.fms hm] at hb; cases hb
theorem S7.ones (h : S7 M B bs X b8 at_ wv wb wl fv fb fl) (h1 : ∀ v ∈ wl, v.cells.all AV.one = true) (h2 : ∀ v ∈ fl, v.cells.all AV.one = true) : OnesM M := by
  intro b y hy
  rcases h.only b (by rw [hy]; simp) with rfl | hb | hb | hb
  · rw [h.tab] at hy; cases hy; exact ints_one _
  · rcases List.mem_cons.1 hb with rfl | hb
    · rw [h.mat.top] at hy; cases hy; exact hdrs_ones _ _
    · obtain ⟨k, hk, e⟩ := List.mem_iff_getElem.1 hb
      rw [← nb_eq hk] at e
      have := h.mat.row k (by rw [← h.mat.len]; exact hk)
      rw [e, hy] at this; cases this; exact rrs_ok _
  · rw [lstV_get h.wts hb] at hy; cases hy; exact h1
  · rw [lstV_get h.fms hb] at hy; cases hy; exact h2
theorem S7.back (h : S7 M B bs X b8 at_ wv wb wl fv fb fl) {g : Mem} {X' : List (List Rat)} (hg : RefM g B bs X') : S7 (M.back (B :: bs) g) B bs X' b8 at_ wv wb wl fv fb fl := by
  have hout : ∀ b, b ∉ B :: bs → (M.back (B :: bs) g) b = M b := fun b hb => back_out (hg.2.none hb) hb
  refine ⟨hg.1.back _, by rw [hout _ h.d8]; exact h.tab, h.wts.keep fun b hb => hout b (h.dw b hb).2, h.fms.keep fun b hb => hout b (h.df b hb).2.1, fun b hb => ?_, h.d8, h.dw, h.df⟩
  by_cases hm : b ∈ B :: bs
  · exact .inr (.inl hm)
  · rw [hout b hm] at hb; exact h.only b hb
theorem S7.delW {b0 : Nat} (h : S7 M B bs X b8 at_ wv [b0] wl fv fb fl) : S7 (M.del b0) B bs X b8 at_ .nil [] [] fv fb fl := by
  have hd : ∀ a, a ≠ b0 → (M.del b0) a = M a := fun a ha => if_neg ha
  have h0 := h.dw b0 (by simp)
  refine ⟨h.mat.congr fun b hb => hd b (by rintro rfl; exact h0.2 hb), by rw [hd _ (Ne.symm h0.1)]; exact h.tab, .inl ⟨rfl, rfl, rfl⟩, h.fms.keep fun b hb => hd b (by rintro rfl; exact (h.df b hb).2.2 (by simp)), fun b hb => ?_, h.d8, by simp, fun b hb => ⟨(h.df b hb).1, (h.df b hb).2.1, by simp⟩⟩
  have h1 : b ≠ b0 := by rintro rfl; exact hb (if_pos rfl)
  rw [hd b h1] at hb
  have := h.only b hb
  simpa [h1] using this
theorem S7.addW (h : S7 M B bs X b8 at_ .nil [] [] fv fb fl) {b : Nat} (hb : M b = none) (l : List AV) : S7 (M.set b ⟨36, 4, l⟩) B bs X b8 at_ (.osl b 4 0 l.length) [b] l fv fb fl := by
  obtain ⟨f1, f2, _, f4⟩ := h.fresh hb
  have hs : ∀ a, a ≠ b → (M.set b ⟨36, 4, l⟩) a = M a := fun a ha => Mem.set_other _ _ ha
  refine ⟨h.mat.congr fun a ha => hs a (by rintro rfl; exact f2 ha), by rw [hs _ (Ne.symm f1)]; exact h.tab, .inr ⟨b, rfl, rfl, Mem.set_same _ _ _⟩, h.fms.keep fun a ha => hs a (by rintro rfl; exact f4 ha), fun a ha => ?_, h.d8, fun a ha => by simp at ha; subst ha; exact ⟨f1, f2⟩, fun a ha => ⟨(h.df a ha).1, (h.df a ha).2.1, by simp; rintro rfl; exact f4 ha⟩⟩
  by_cases e : a = b
  · exact .inr (.inr (.inl (by simp [e])))
  · rw [hs a e] at ha
    have := h.only a ha
    simp at this ⊢
    rcases this with h | h | h
    · exact .inl h
    · exact .inr (.inl h)
    · exact .inr (.inr (.inr h))
theorem S7.delF {b0 : Nat} (h : S7 M B bs X b8 at_ wv wb wl fv [b0] fl) : S7 (M.del b0) B bs X b8 at_ wv wb wl .nil [] [] := by
  have hd : ∀ a, a ≠ b0 → (M.del b0) a = M a := fun a ha => if_neg ha
  have h0 := h.df b0 (by simp)
  refine ⟨h.mat.congr fun b hb => hd b (by rintro rfl; exact h0.2.1 hb), by rw [hd _ (Ne.symm h0.1)]; exact h.tab, h.wts.keep fun b hb => hd b (by rintro rfl; exact h0.2.2 hb), .inl ⟨rfl, rfl, rfl⟩, fun b hb => ?_, h.d8, h.dw, by simp⟩
  have h1 : b ≠ b0 := by rintro rfl; exact hb (if_pos rfl)
  rw [hd b h1] at hb
  have := h.only b hb
  simpa [h1] using this
theorem S7.addF (h : S7 M B bs X b8 at_ wv wb wl .nil [] []) {b : Nat} (hb : M b = none) (l : List AV) : S7 (M.set b ⟨42, 1, l⟩) B bs X b8 at_ wv wb wl (.osl b 1 0 l.length) [b] l := by
  obtain ⟨f1, f2, f3, _⟩ := h.fresh hb
  have hs : ∀ a, a ≠ b → (M.set b ⟨42, 1, l⟩) a = M a := fun a ha => Mem.set_other _ _ ha
  refine ⟨h.mat.congr fun a ha => hs a (by rintro rfl; exact f2 ha), by rw [hs _ (Ne.symm f1)]; exact h.tab, h.wts.keep fun a ha => hs a (by rintro rfl; exact f3 ha), .inr ⟨b, rfl, rfl, Mem.set_same _ _ _⟩, fun a ha => ?_, h.d8, h.dw, fun a ha => by simp at ha; subst ha; exact ⟨f1, f2, f3⟩⟩
  by_cases e : a = b
  · exact .inr (.inr (.inr (by simp [e])))
  · rw [hs a e] at ha
    have := h.only a ha
    simp at this ⊢
    rcases this with h | h | h
    · exact .inl h
    · exact .inr (.inl h)
    · exact .inr (.inr (.inl h))
theorem S7.setAt (h : S7 M B bs X b8 at_ wv wb wl fv fb fl) (at' : List Nat) : S7 (M.set b8 ⟨3, 1, ints at'⟩) B bs X b8 at' wv wb wl fv fb fl := by
  have hs : ∀ a, a ≠ b8 → (M.set b8 ⟨3, 1, ints at'⟩) a = M a := fun a ha => Mem.set_other _ _ ha
  refine ⟨h.mat.congr fun a ha => hs a (by rintro rfl; exact h.d8 ha), Mem.set_same _ _ _, h.wts.keep fun a ha => hs a (h.dw a ha).1, h.fms.keep fun a ha => hs a (h.df a ha).1, fun a ha => ?_, h.d8, h.dw, h.df⟩
  by_cases e : a = b8
  · exact .inl e
  · rw [hs a e] at ha; exact h.only a ha
end
theorem S7.freeze {M : Mem} {B b8 : Nat} {bs wb fb : List Nat} {X : List (List Rat)} {at_ : List Nat} {wv fv : AV} {wl fl : List AV} (h : S7 M B bs X b8 at_ wv wb wl fv fb fl) {bv : Nat} (hb : M bv = none) {F : Blk} (hF : ∀ v ∈ F.l, v.cells.all AV.one = true) :
    Recast (M.set bv F) (Mem.emp.set bv F) ∧ View (M.set bv F) (Mem.emp.set bv F) fv (.sl 1 fl) ∧ View (M.set bv F) (Mem.emp.set bv F) (.osl b8 1 0 at_.length) (.sl 1 (ints at_)) := by
  obtain ⟨f1, f2, f3, f4⟩ := h.fresh hb
  refine ⟨Recast.sub fun k y hy => ?_, (h.fms.keep fun b hb' => Mem.set_other _ _ (by rintro rfl; exact f4 hb')).view fun b hb' => ?_, ?_⟩
  · simp only [set_at, emp_at] at hy ⊢
    by_cases e : k = bv
    · rw [if_pos e] at hy ⊢; cases hy; exact ⟨rfl, hF⟩
    · rw [if_neg e] at hy; cases hy
  · rw [Mem.set_other _ _ (by rintro rfl; exact f4 hb')]; rfl
  · have : LstV (M.set bv F) 3 1 (.osl b8 1 0 (ints at_).length) [b8] (ints at_) := .inr ⟨b8, rfl, rfl, by rw [Mem.set_other _ _ (Ne.symm f1)]; exact h.tab⟩
    have hv := this.view (M' := Mem.emp.set bv F) fun b hb' => by
      simp at hb'; subst hb'
      rw [Mem.set_other _ _ (Ne.symm f1)]; rfl
    rwa [ints_length] at hv
theorem mem_none {fs : List (Option (List Rat))} : ∀ {j : Nat}, (∀ i, j ≤ i → fs.getD i none = none) → (fs.drop j).filterMap id = [] := by
  intro j h
  rw [List.filterMap_eq_nil_iff]
  intro o ho
  obtain ⟨k, hk, e⟩ := List.mem_iff_getElem.1 ho
  rw [List.getElem_drop] at e
  have := h (j + k) (by omega)
  rw [List.getD_eq_getElem?_getD, List.getElem?_eq_getElem (by simp at hk; omega)] at this
  rw [← e]; exact this
theorem fs_set {fs : List (Option (List Rat))} {j : Nat} (hj : j < fs.length) (h : ∀ i, j ≤ i → fs.getD i none = none) (f : List Rat) : (fs.set j (some f)).filterMap id = fs.filterMap id ++ [f] := by
  have h1 := mem_none h
  have h2 := mem_none (j := j + 1) (fun i hi => h i (by omega))
  have e1 : fs.filterMap id = (fs.take j).filterMap id := by
    conv => lhs; rw [← List.take_append_drop j fs]
    rw [List.filterMap_append, h1, List.append_nil]
  rw [e1, List.set_eq_take_append_cons_drop, if_pos hj, List.filterMap_append, List.filterMap_cons]
  simp [h2]
theorem FA.step {n : Nat} {fs : List (Option (List Rat))} {at_ : List Nat} {j : Nat} (h : FA n fs (fs.filterMap id) at_) (hj : j < n) (hn : ∀ i, j ≤ i → fs.getD i none = none) (f : List Rat) : FA n (fs.set j (some f)) ((fs.set j (some f)).filterMap id) (at_.set j ((fs.filterMap id).length + 1)) := by
  obtain ⟨h1, h2, h3, h4⟩ := h
  refine ⟨by rw [List.length_set]; exact h1, by rw [List.length_set]; exact h2, ?_, fun i hi => ?_⟩
  · exact Nat.le_trans (List.length_filterMap_le _ _) (by rw [List.length_set]; omega)
  · rw [fs_set (by omega) hn]
    have hi4 := h4 i hi
    rw [List.getD_eq_getElem?_getD, List.getD_eq_getElem?_getD, List.getElem?_set, List.getElem?_set]
    by_cases e : j = i
    · subst e
      simp only [if_true, if_pos (show j < fs.length by omega), if_pos (show j < at_.length by omega), Option.getD_some]
      refine ⟨by omega, by simp, ?_⟩
      rw [Nat.add_sub_cancel, mrow_snoc _ _ _ (by omega), if_neg (by omega)]
    · simp only [if_neg e]
      rw [← List.getD_eq_getElem?_getD, ← List.getD_eq_getElem?_getD]
      cases hg : fs.getD i none with
      | none => rw [hg] at hi4; exact hi4
      | some g =>
        rw [hg] at hi4
        obtain ⟨a1, a2, a3⟩ : 0 < at_.getD i 0 ∧ at_.getD i 0 - 1 < (fs.filterMap id).length ∧ mrow (fs.filterMap id) (at_.getD i 0 - 1) = g := hi4
        refine ⟨a1, by rw [List.length_append, List.length_singleton]; omega, ?_⟩
        rw [mrow_snoc _ _ _ (by omega), if_pos a2]; exact a3
theorem FA.start (n : Nat) : FA n (List.replicate n none) ((List.replicate n none).filterMap id) (List.replicate n 0) := by
  have hg : ∀ i, (List.replicate n (none : Option (List Rat))).getD i none = none := fun i => by
    rw [List.getD_eq_getElem?_getD, List.getElem?_replicate]; split <;> rfl
  refine ⟨by simp, by simp, Nat.le_trans (List.length_filterMap_le _ _) (by simp), fun i hi => ?_⟩
  rw [hg i]
  show (List.replicate n 0).getD i 0 = 0
  rw [List.getD_eq_getElem?_getD, List.getElem?_replicate, if_pos hi]; rfl
theorem splitQ_row {n j : Nat} {l : List (List Rat)} {z : List Rat × List (List Rat)} (hj : j < n) (hG : matGood n n l) (h : splitQ n j l = some z) : mrow z.2 j = mrow l j := by
  unfold splitQ at h
  cases hf : formQ n j l with
  | none => rw [hf] at h; cases h
  | some form =>
    rw [hf] at h
    replace h : (iterO (splitStep n j form) (n - (j + 1)) l).map (fun l' => (form, l')) = some z := h
    cases hi : iterO (splitStep n j form) (n - (j + 1)) l with
    | none => rw [hi] at h; cases h
    | some l' =>
      rw [hi] at h
      cases h
      exact (splits_keep (by omega) hG hi).2
end Go.Av
end
section
namespace Go.Av
open Go.Proofs
structure Q7 where
  X : List (List Rat)
  ws : List Rat
  fs : List (Option (List Rat))
  at_ : List Nat
  M : Mem
  wv : AV
  wb : List Nat
  fv : AV
  fb : List Nat
def InvQ7 (n : Nat) (l0 : List (List Rat)) (B : Nat) (bs : List Nat) (b8 j : Nat) (s : Q7) : Prop :=
  sqIter n l0 j = .go s.X s.ws s.fs ∧ matGood n n s.X ∧ formsOk n s.fs ∧ FA n s.fs (s.fs.filterMap id) s.at_ ∧ (∀ i, j ≤ i → s.fs.getD i none = none) ∧ s.ws.length ≤ j ∧ S7 s.M B bs s.X b8 s.at_ s.wv s.wb (rrs (s.ws.map ofQ)) s.fv s.fb ((emb (s.fs.filterMap id)).map rowAV)
theorem signQ_cases (q : Rat) : signQ q = 1 ∨ signQ q = 0 ∨ signQ q = -1 := by
  unfold signQ
  split
  · exact .inr (.inr rfl)
  · split
    · exact .inr (.inl rfl)
    · exact .inl rfl
theorem ints_set (l : List Nat) (i v : Nat) : ints (l.set i v) = (ints l).set i (.int .i64 (v : Nat)) := by unfold ints; rw [List.map_set]
theorem crossQ_good {n j k : Nat} {l : List (List Rat)} {v : List Rat} (hG : matGood n n l) (hj : j < n) (hk : k < n) (hne : qel l j k ≠ 0) (h : crossQ n j k l = some v) : rowGood v ∧ v.length = n := by
  unfold crossQ at h
  cases h1 : (addQ (qel l k k) 1).bind fun s => subQ 0 s with
  | none => rw [h1] at h; cases h
  | some s =>
    rw [h1] at h
    replace h : ((addQ (qel l j k) (qel l j k)).bind fun d => (divQ s d).map fun t => ((eQ n j).set k 1).set j t) = some v := h
    cases h2 : addQ (qel l j k) (qel l j k) with
    | none => rw [h2] at h; cases h
    | some d =>
      rw [h2] at h
      replace h : (divQ s d).map (fun t => ((eQ n j).set k 1).set j t) = some v := h
      have hd0 : d ≠ 0 := by
        unfold addQ at h2
        split at h2
        · have h2 := Option.some.inj h2
          rw [← h2]
          exact two_ne hne
        · cases h2
      cases h3 : divQ s d with
      | none => rw [h3] at h; cases h
      | some t =>
        rw [h3] at h
        cases h
        exact ⟨good_set (good_set (rowGood_e n j) k good_one) j (good_div hd0 h3), by simp [eQ_length]⟩
set_option maxHeartbeats 2000000
theorem squares7_call (m : List (List RR)) (hm : LbM m) : ACall Tryz.prog 63 [matAV m] Mem.emp fun v mm => v = sqAV (sqR m) ∧ mm = Mem.emp := by
  have hck := check2_call m hm
  by_cases h0 : chk m = 0
  · obtain ⟨h1, h2, h3, h4, h5⟩ := chk_emb hm h0
    have hRy : (m.length = (mrow m 0).length ∧ symm (unq m) m.length) → sqR m = sqOut (sqIter m.length (unq m) m.length) := fun h => by unfold sqR; rw [if_neg (by simp [h0]), if_pos h]
    have hRn : ¬ (m.length = (mrow m 0).length ∧ symm (unq m) m.length) → sqR m = ⟨1, [], [], []⟩ := fun h => by unfold sqR; rw [if_neg (by simp [h0]), if_neg h]
    have hlen := unq_length m
    have hsy := symmetric2_call (unq m) m.length ⟨h2, h3, hlen⟩ h4 h5
    rw [h0] at hck
    have hw0 : (mrow (unq m) 0).length = (mrow m 0).length := by rw [unq_row, List.length_map]
    have hcl := copied_call m h4 (fun r hr => by
      obtain ⟨i, hi, rfl⟩ := mem_row hr
      have := h3 i (by rw [hlen]; exact hi)
      rw [unq_row, List.length_map] at this
      omega)
    rw [← h1, hw0] at hsy
    rw [hw0] at h3 h5
    clear hw0
    generalize unq m = l0 at *
    generalize hn : m.length = n at *
    refine acall_S Tryz.func63 rfl rfl 123 rfl (Nat.le_of_ble_eq_true rfl) ?_
    (repeat refine AW.seq_k fun K hK => ?_)
    refine AW.rg ?_
    simp [argsL]
    try (refine hK _ rfl ?_; clear hK; clear K)
    (repeat refine AW.seq_k fun K hK => ?_)
    refine AW.rg ?_
    simp
    try (refine hK _ rfl ?_; clear hK; clear K)
    refine CallK.val hck ?_
    simp
    refine hK _ rfl ?_
    clear hK
    clear K
    (repeat refine AW.seq_k fun K hK => ?_)
    refine AW.rg ?_
    simp
    try (refine hK _ rfl ?_; clear hK; clear K)
    refine AW.no ?_ rfl
    refine AW.skip ?_
    try simp
    refine hK _ rfl ?_
    clear hK
    clear K
    (repeat refine AW.seq_k fun K hK => ?_)
    refine AW.rg ?_
    simp
    try (refine hK _ rfl ?_; clear hK; clear K)
    refine CallK.pure (R := fun v => ∃ t, v = .bool t ∧ (t = true ↔ n = (mrow m 0).length ∧ symm l0 n)) (hsy.mono fun v mm ⟨t, q1, q2, q3⟩ => ⟨⟨t, q1, q2⟩, q3⟩) ?_
    rintro _ ⟨t, rfl, ht⟩
    simp
    refine hK _ rfl ?_
    clear hK
    clear K
    cases t
    · refine AW.yes ?_ rfl
      rw [hRn (fun h => by have := ht.2 h; cases this)]
      (repeat refine AW.seq_k fun K hK => ?_)
      refine AW.rg ?_
      simp
      try (refine hK _ rfl ?_; clear hK; clear K)
      exact AW.ret (ret_views [rowAV [], matAV [], rowAV [], .int .i64 1] rfl ⟨.nilsl 4, .nilsl 1, .nilsl 4, .same _, trivial⟩ ⟨rfl, rfl⟩)
    · refine AW.no ?_ rfl
      refine AW.skip ?_
      try simp
      refine hK _ rfl ?_
      clear hK
      clear K
      obtain ⟨hsq, hsym⟩ := ht.1 rfl
      rw [hRy ⟨hsq, hsym⟩]
      clear hRy hRn
      rw [← hsq] at h3 h5
      clear ht hsy hck
      have hX0 : matGood n n l0 := ⟨h2, h3, hlen⟩
      rw [h1] at hcl ⊢
      clear h1 h2 h3 hlen hsym hm h0 hsq hn
      (repeat refine AW.seq_k fun K hK => ?_)
      refine AW.rg ?_
      simp
      try (refine hK _ rfl ?_; clear hK; clear K)
      refine CallK.news hcl ?_
      rintro v g ⟨bs, hcop⟩ _
      rw [emp_back]
      simp
      refine hK _ rfl ?_
      clear hK
      clear K
      have hEl : (emb l0).length = n := by rw [emb_length]; exact hX0.2.2
      rcases hcop with ⟨c1, c2, rfl, rfl⟩ | ⟨B, rfl, c2, c3⟩
      · have hn0 : n = 0 := by rw [← hEl, c1]; rfl
        subst hn0
        (repeat refine AW.seq_k fun K hK => ?_)
        refine AW.rg ?_
        simp
        try (refine hK _ rfl ?_; clear hK; clear K)
        refine Fresh.intro fun b8 _ => ?_
        refine hK _ rfl ?_
        clear hK
        clear K
        refine AW.seq_ex (ι := Unit) (fun _ => [(2, .nil), (3, .nil)]) (fun _ => Mem.emp.set b8 ⟨3, 1, []⟩) (fun _ => True) ?_ ?_
        · (repeat refine AW.seq_k fun K hK => ?_)
          refine AW.rg ?_
          simp
          try (refine hK _ rfl ?_; clear hK; clear K)
          refine AW.block (AW.loopS (ι := Nat) (fun _ => [(2, .nil), (3, .nil), (7, .nil), (9, .int .i64 0)]) (fun _ => Mem.emp.set b8 ⟨3, 1, []⟩) (fun _ => True) (fun _ => 0) 0 trivial rfl (by simp) ?_)
          rintro i -
          (repeat refine AW.seq_k fun K hK => ?_)
          refine AW.rg ?_
          simp
          try (refine hK _ rfl ?_; clear hK; clear K)
          refine AW.no ?_ rfl
          refine AW.exit ?_
          try simp
        rintro _ -
        (repeat refine AW.seq_k fun K hK => ?_)
        refine AW.rg ?_
        simp
        try (refine hK _ rfl ?_; clear hK; clear K)
        exact AW.ret (ret_views [rowAV [], matAV [], rowAV [], .int .i64 0] rfl ⟨.nilsl 4, .nilsl 1, .nilsl 4, .same _, trivial⟩ ⟨rfl, rfl⟩)
      · rw [hEl]
        (repeat refine AW.seq_k fun K hK => ?_)
        refine AW.rg ?_
        simp
        try (refine hK _ rfl ?_; clear hK; clear K)
        refine ⟨by omega, Fresh.intro fun b8 hb8 => ?_⟩
        refine hK _ rfl ?_
        clear hK
        clear K
        have hRm : RefM g B bs l0 := ⟨c2, c3⟩
        have hf8 := hRm.fresh hb8
        have hS0 : S7 (g.set b8 ⟨3, 1, List.replicate n (.int .i64 0)⟩) B bs l0 b8 (List.replicate n 0) .nil [] (rrs (([] : List Rat).map ofQ)) .nil [] ((emb ((List.replicate n (none : Option (List Rat))).filterMap id)).map rowAV) := by
          refine ⟨c2.congr fun b hb => Mem.set_other _ _ (by rintro rfl; exact hf8 hb), by rw [Mem.set_same]; simp [ints], .inl ⟨rfl, rfl, rfl⟩, .inl ⟨?_, rfl, rfl⟩, fun b hb => ?_, hf8, by simp, by simp⟩
          · have : (List.replicate n (none : Option (List Rat))).filterMap id = [] := by
              rw [List.filterMap_eq_nil_iff]; intro o ho; exact List.eq_of_mem_replicate ho
            rw [this]; rfl
          · by_cases e : b = b8
            · exact .inl e
            · rw [Mem.set_other _ _ e] at hb; exact .inr (.inl (c3 b hb))
        refine AW.seq_ex (ι := Q7) (fun s => [(2, s.wv), (3, s.fv)]) (fun s => s.M) (fun s => InvQ7 n l0 B bs b8 n s) ?_ ?_
        · (repeat refine AW.seq_k fun K hK => ?_)
          refine AW.rg ?_
          simp
          try (refine hK _ rfl ?_; clear hK; clear K)
          refine AW.block (AW.loopS (ι := Nat × Q7) (fun z => [(7, .osl B 1 0 n), (8, .osl b8 1 0 n), (2, z.2.wv), (3, z.2.fv), (9, .int .i64 (z.1 : Nat))]) (fun z => z.2.M) (fun z => z.1 ≤ n ∧ InvQ7 n l0 B bs b8 z.1 z.2) (fun z => n - z.1) (0, ⟨l0, [], List.replicate n none, List.replicate n 0, _, .nil, [], .nil, []⟩) ⟨by simp, rfl, hX0, ?_, FA.start n, ?_, by simp, hS0⟩ rfl (by simp) ?_)
          · intro i f hfi
            rw [List.getD_eq_getElem?_getD, List.getElem?_replicate] at hfi
            split at hfi <;> cases hfi
          · intro i _
            rw [List.getD_eq_getElem?_getD, List.getElem?_replicate]; split <;> rfl
          rintro ⟨j, X, ws, fs, at_, M, wv, wb, fv, fb⟩ ⟨i0, i1, i2, i3, i4, i5, i6, i7⟩
          simp only at i0 i1 i2 i3 i4 i5 i6 i7
          simp only
          clear hS0 hRm hb8 c2 c3
          (repeat refine AW.seq_k fun K hK => ?_)
          refine AW.rg ?_
          simp
          try (refine hK _ rfl ?_; clear hK; clear K)
          (repeat refine AW.seq ?_)
          refine AW.cs (fun hj => ?_) (fun hj => ?_) rfl <;> (try simp at hj)
          · refine AW.skip ?_
            try simp
            refine hK _ rfl ?_
            clear hK
            clear K
            have w1 : IntKind.i64.wrap ((j + 1 : Nat) : Int) = ((j + 1 : Nat) : Int) := wi (by omega)
            refine AW.seq_ex (ι := Q7) (fun s => [(7, .osl B 1 0 n), (8, .osl b8 1 0 n), (2, s.wv), (3, s.fv), (9, .int .i64 (j : Nat))]) (fun s => s.M) (fun s => InvQ7 n l0 B bs b8 (j + 1) s) ?_ ?_
            · have hjE : j < (emb X).length := by rw [emb_length, i2.2.2]; exact hj
              have hlj : (mrow (emb X) j).length = n := by rw [emb_row, List.length_map]; exact (i2.row hj).2
              have hjj : j < (mrow X j).length := by rw [(i2.row hj).2]; exact hj
              have ejj : rr (mrow (emb X) j) j = ofQ (qel X j j) := by rw [emb_row, rr_map hjj]; rfl
              have gjj : Good (qel X j j) := i2.1.at hjj
              have hsg := rsign2_call (ofQ (qel X j j)) (ofQ_lb _)
              rw [signR_ofQ gjj] at hsg
              have hgo := sqIter_go i1
              have hget := i7.mat.get hjE
              rw [hlj] at hget
              have hRow := i7.mat.row j hjE
              have hTop := i7.mat.top
              have hOnes := i7.ones (rrs_ok _) (rowAV_ones _)
              (repeat refine AW.seq ?_)
              refine AW.block ?_
              (repeat refine AW.seq_k fun K hK => ?_)
              refine AW.rg ?_
              simp [hj, hTop, ↓hget, hRow, hlj, ejj]
              try (refine hK _ rfl ?_; clear hK; clear K)
              refine CallK.val hsg ?_
              simp
              refine hK _ rfl ?_
              clear hK
              clear K
              have hMR : RefM (M.only (B :: bs)) B bs X := ⟨i7.mat.only (l := B :: bs) fun b hb => by simpa using hb, onlyM_only M (B :: bs)⟩
              have hatl : at_.length = n := i4.2.1
              have hfml := i4.2.2.1
              rcases signQ_cases (qel X j j) with hs | hs | hs
              · have hd : qel X j j ≠ 0 := fun h => by rw [h] at hs; revert hs; decide
                have hst : sqIter n l0 (j + 1) = match splitQ n j X with
                    | none => .err
                    | some z => .go z.2 (ws ++ [qel X j j]) (fs.set j (some z.1)) := by
                  rw [hgo]; unfold sqStep; rw [if_pos (by omega)] <;> rfl
                have hspl := split2_call _ B bs X n j hMR i2 hj h4 hd
                (repeat refine AW.seq ?_)
                refine AW.block ?_
                (repeat refine AW.seq_k fun K hK => ?_)
                refine AW.rg ?_
                simp [hs]
                try (refine hK _ rfl ?_; clear hK; clear K)
                refine AW.yes ?_ rfl
                (repeat refine AW.seq_k fun K hK => ?_)
                refine AW.rg ?_
                simp
                try (refine hK _ rfl ?_; clear hK; clear K)
                refine CallK.hand (B :: bs) (by simp) hspl ?_
                intro v g hv hf
                unfold split2Out at hv
                cases hz : splitQ n j X with
                | none =>
                  rw [hz] at hv hst
                  subst hv
                  simp
                  refine hK _ rfl ?_
                  clear hK
                  clear K
                  (repeat refine AW.seq_k fun K hK => ?_)
                  refine AW.rg ?_
                  simp
                  try (refine hK _ rfl ?_; clear hK; clear K)
                  refine AW.yes ?_ rfl
                  rw [sqOut_err hst (by omega)]
                  (repeat refine AW.seq_k fun K hK => ?_)
                  refine AW.rg ?_
                  simp
                  try (refine hK _ rfl ?_; clear hK; clear K)
                  exact AW.ret (ret_views [rowAV [], matAV [], rowAV [], .int .i64 2] rfl ⟨.nilsl 4, .nilsl 1, .nilsl 4, .same _, trivial⟩ ⟨rfl, rfl⟩)
                | some z =>
                  have hrw := splitQ_row hj i2 hz
                  obtain ⟨form, X'⟩ := z
                  rw [hz] at hv hst
                  obtain ⟨bv, M1, rfl, rfl, r1, r2, r3, r4, r5⟩ := hv
                  simp only at r1 r3 r4 r5 hrw hst
                  have hbv := r1.fresh r2
                  have hbM : M bv = none := by
                    rcases hf bv (by simp) with h | h
                    · exact absurd h hbv
                    · exact h.1
                  rw [back_gset]
                  have k := i7.back r1
                  have k5 : (M.back (B :: bs) M1) bv = none := by rw [back_out r2 hbv]; exact hbM
                  clear hf hspl
                  generalize M.back (B :: bs) M1 = M3 at *
                  have ko := k.ones (rrs_ok _) (rowAV_ones _)
                  simp
                  refine hK _ rfl ?_
                  clear hK
                  clear K
                  (repeat refine AW.seq_k fun K hK => ?_)
                  refine AW.rg ?_
                  simp
                  try (refine hK _ rfl ?_; clear hK; clear K)
                  refine AW.no ?_ rfl
                  refine AW.skip ?_
                  try simp
                  refine hK _ rfl ?_
                  clear hK
                  clear K
                  refine AW.turn [(7, .osl B 1 0 n), (8, .osl b8 1 0 n), (2, wv), (3, fv), (9, .int .i64 (j : Nat)), (10, rowAV (form.map ofQ))] M3 (Recast.drop k5 ko) ?_ ?_
                  · simp
                    exact view_row (Mem.set_same _ _ _) k5 (by rw [List.length_map]; exact r3)
                  have hjE' : j < (emb X').length := by rw [emb_length, r5.2.2]; exact hj
                  have hlj' : (mrow (emb X') j).length = n := by rw [emb_row, List.length_map]; exact (r5.row hj).2
                  have ejj' : rr (mrow (emb X') j) j = ofQ (qel X j j) := by rw [emb_row, hrw, rr_map hjj]; rfl
                  have hget' := k.mat.get hjE'
                  rw [hlj'] at hget'
                  have hRow' := k.mat.row j hjE'
                  have hTop' := k.mat.top
                  have hwl : (rrs (ws.map ofQ)).length = ws.length := by rw [rrs_length, List.length_map]
                  have hws' : rrs ((ws ++ [qel X j j]).map ofQ) = rrs (ws.map ofQ) ++ [(ofQ (qel X j j)).av] := by simp [rrs]
                  have hWL : ∃ WL, WL = rrs ((ws ++ [qel X j j]).map ofQ) := ⟨_, rfl⟩
                  obtain ⟨WL, hWL⟩ := hWL
                  rw [← hWL] at hws'
                  refine AW.seq_ex (ι := Mem × Nat) (fun z => [(7, .osl B 1 0 n), (8, .osl b8 1 0 n), (2, .osl z.2 4 0 (ws.length + 1)), (3, fv), (9, .int .i64 (j : Nat)), (10, rowAV (form.map ofQ))]) (fun z => z.1) (fun z => S7 z.1 B bs X' b8 at_ (.osl z.2 4 0 (ws.length + 1)) [z.2] WL fv fb ((emb (fs.filterMap id)).map rowAV)) ?_ ?_
                  · rcases k.wts with ⟨z1, z2, z3⟩ | ⟨b0, z2, z3, z4⟩
                    · have hws : ws = [] := List.eq_nil_of_length_eq_zero (by rw [← hwl, z1]; rfl)
                      subst hws z2 z3
                      rw [hws']
                      (repeat refine AW.seq_k fun K hK => ?_)
                      refine AW.rgR [63] ?_
                      simp [hj, hTop', ↓hget', hRow', hlj', ejj']
                      try (refine hK _ rfl ?_; clear hK; clear K)
                      exact ⟨by unfold maxLen; omega, Fresh.intro fun b hb => k.addW hb _⟩
                    · subst z2 z3
                      (repeat refine AW.seq_k fun K hK => ?_)
                      refine AW.rgR [63] ?_
                      simp [hj, hTop', ↓hget', hRow', hlj', ejj', z4, hwl]
                      try (refine hK _ rfl ?_; clear hK; clear K)
                      refine ⟨by omega, by unfold maxLen; omega, Fresh.intro fun b hb => ?_⟩
                      have := k.delW.addW hb (rrs (ws.map ofQ) ++ [(ofQ (qel X j j)).av])
                      rw [List.length_append, hwl, ← hws'] at this
                      rw [show rrs (ws.map ofQ) ++ [AV.agg [.bool (ofQ (qel X j j)).n1, lim (ofQ (qel X j j)).l1, .bool (ofQ (qel X j j)).n2, lim (ofQ (qel X j j)).l2]] = WL from hws'.symm]
                      exact this
                  rintro ⟨M4, bw⟩ k4
                  simp only at k4
                  simp only
                  clear k ko k5 hTop' hget' hRow'
                  have hff : (fs.set j (some form)).filterMap id = fs.filterMap id ++ [form] := fs_set (by rw [i4.1]; exact hj) i5 form
                  have hfl' : (emb ((fs.set j (some form)).filterMap id)).map rowAV = (emb (fs.filterMap id)).map rowAV ++ [rowAV (form.map ofQ)] := by rw [hff]; simp [emb]
                  have hfll : ((emb (fs.filterMap id)).map rowAV).length = (fs.filterMap id).length := by rw [List.length_map, emb_length]
                  have hfa := i4.step hj i5 form
                  generalize hFL : (emb (fs.filterMap id)).map rowAV = FL at *
                  generalize (fs.filterMap id).length = nf at *
                  refine AW.seq_ex (ι := Mem × Nat) (fun z => [(7, .osl B 1 0 n), (8, .osl b8 1 0 n), (2, .osl bw 4 0 (ws.length + 1)), (3, .osl z.2 1 0 (nf + 1)), (9, .int .i64 (j : Nat))]) (fun z => z.1) (fun z => S7 z.1 B bs X' b8 at_ (.osl bw 4 0 (ws.length + 1)) [bw] WL (.osl z.2 1 0 (nf + 1)) [z.2] (FL ++ [rowAV (form.map ofQ)])) ?_ ?_
                  · rcases k4.fms with ⟨z1, z2, z3⟩ | ⟨b0, z2, z3, z4⟩
                    · have hnf : nf = 0 := by rw [← hfll, z1]; rfl
                      subst z1 z2 z3 hnf
                      (repeat refine AW.seq_k fun K hK => ?_)
                      refine AW.rgR [67] ?_
                      simp
                      try (refine hK _ rfl ?_; clear hK; clear K)
                      exact ⟨by unfold maxLen; omega, Fresh.intro fun b hb => k4.addF hb _⟩
                    · subst z2 z3
                      (repeat refine AW.seq_k fun K hK => ?_)
                      refine AW.rgR [67] ?_
                      simp [z4, hfll]
                      try (refine hK _ rfl ?_; clear hK; clear K)
                      refine ⟨by omega, by unfold maxLen; omega, Fresh.intro fun b hb => ?_⟩
                      have := k4.delF.addF hb (FL ++ [rowAV (form.map ofQ)])
                      rw [List.length_append, hfll] at this
                      exact this
                  rintro ⟨M5, bf⟩ k6
                  simp only at k6
                  simp only
                  have k7 := k6.setAt (at_.set j (nf + 1))
                  rw [ints_set] at k7
                  (repeat refine AW.seq_k fun K hK => ?_)
                  refine AW.rg ?_
                  simp [-Int.natCast_add, hj, k6.tab, hatl]
                  try (refine hK _ rfl ?_; clear hK; clear K)
                  refine AW.exit ?_
                  try simp [-Int.natCast_add]
                  refine ⟨⟨X', ws ++ [qel X j j], fs.set j (some form), at_.set j (nf + 1), _, .osl bw 4 0 (ws.length + 1), [bw], .osl bf 1 0 (nf + 1), [bf]⟩, ⟨hst, r5, ?_, hfa, ?_, by simp; omega, by rw [hfl', ← hWL]; exact k7⟩, rfl, rfl, rfl⟩
                  · intro i f hf
                    rw [List.getD_eq_getElem?_getD, List.getElem?_set] at hf
                    by_cases e : j = i
                    · rw [if_pos e] at hf
                      split at hf
                      · cases hf; exact ⟨r4, r3⟩
                      · cases hf
                    · rw [if_neg e, ← List.getD_eq_getElem?_getD] at hf; exact i3 i f hf
                  · intro i hi
                    rw [List.getD_eq_getElem?_getD, List.getElem?_set, if_neg (by omega), ← List.getD_eq_getElem?_getD]
                    exact i5 i (by omega)
              · have hlow : sqIter n l0 (j + 1) = match (match besideQ (mrow X j) j with
                    | none => some none
                    | some k => (crossQ n j k X).map some) with
                    | none => .err
                    | some none => .go X ws fs
                    | some (some v) => match extQ fs n j v with
                      | none => .err
                      | some v' => .vec v' := by
                  rw [hgo]; unfold sqStep lowQ; rw [if_neg (by omega), if_neg (by omega)] <;> rfl
                have hoth := other2_call (mrow X j) (i2.row hj).1 j n (i2.row hj).2 hj h4
                have hRow2 : M (nb bs j) = some ⟨36, 4, rrs ((mrow X j).map ofQ)⟩ := by rw [hRow, emb_row]
                (repeat refine AW.seq ?_)
                refine AW.block ?_
                (repeat refine AW.seq_k fun K hK => ?_)
                refine AW.rg ?_
                simp [hs]
                try (refine hK _ rfl ?_; clear hK; clear K)
                refine AW.no ?_ rfl
                (repeat refine AW.seq_k fun K hK => ?_)
                refine AW.rg ?_
                simp [hs]
                try (refine hK _ rfl ?_; clear hK; clear K)
                refine AW.yes ?_ rfl
                (repeat refine AW.seq_k fun K hK => ?_)
                refine AW.rg ?_
                simp [hj, hTop, ↓hget, hRow, hlj]
                try (refine hK _ rfl ?_; clear hK; clear K)
                refine CallK.borrow [rowAV ((mrow X j).map ofQ), .int .i64 j] ⟨view_row hRow2 rfl (by rw [List.length_map]; exact (i2.row hj).2), .same _, trivial⟩ hoth ?_
                rintro _ rfl
                refine ⟨rfl, ?_⟩
                simp
                refine hK _ rfl ?_
                clear hK
                clear K
                cases hbq : besideQ (mrow X j) j with
                | none =>
                  rw [hbq] at hlow
                  unfold besideI
                  rw [hbq]
                  (repeat refine AW.seq_k fun K hK => ?_)
                  refine AW.rg ?_
                  simp
                  try (refine hK _ rfl ?_; clear hK; clear K)
                  refine AW.yes ?_ rfl
                  refine AW.exit ?_
                  try simp
                  exact ⟨⟨X, ws, fs, at_, M, wv, wb, fv, fb⟩, ⟨hlow, i2, i3, i4, fun i hi => i5 i (by omega), Nat.le_succ_of_le i6, i7⟩, by simp⟩
                | some k =>
                  obtain ⟨k1, k2, k3⟩ := besideQ_prop hbq
                  rw [(i2.row hj).2] at k2
                  rw [hbq] at hlow
                  replace hlow : sqIter n l0 (j + 1) = match (crossQ n j k X).map some with
                    | none => .err
                    | some none => .go X ws fs
                    | some (some v) => match extQ fs n j v with
                      | none => .err
                      | some v' => .vec v' := hlow
                  unfold besideI
                  rw [hbq]
                  have hcr := cross2_call _ B bs X n j k hMR i2 hj k2 (by omega) k3 h4
                  (repeat refine AW.seq_k fun K hK => ?_)
                  refine AW.rg ?_
                  simp
                  try (refine hK _ rfl ?_; clear hK; clear K)
                  refine AW.no ?_ (by simp)
                  refine AW.skip ?_
                  try simp
                  refine hK _ rfl ?_
                  clear hK
                  clear K
                  (repeat refine AW.seq_k fun K hK => ?_)
                  refine AW.rg ?_
                  simp
                  try (refine hK _ rfl ?_; clear hK; clear K)
                  refine CallK.hand (B :: bs) (by simp) hcr ?_
                  intro v g hv hf
                  unfold crossOut at hv
                  cases hc : crossQ n j k X with
                  | none =>
                    rw [hc] at hv hlow
                    obtain ⟨x, rfl⟩ := hv
                    simp
                    refine hK _ rfl ?_
                    clear hK
                    clear K
                    (repeat refine AW.seq_k fun K hK => ?_)
                    refine AW.rg ?_
                    simp
                    try (refine hK _ rfl ?_; clear hK; clear K)
                    refine AW.yes ?_ rfl
                    rw [sqOut_err (show sqIter n l0 (j + 1) = .err from hlow) (by omega)]
                    (repeat refine AW.seq_k fun K hK => ?_)
                    refine AW.rg ?_
                    simp
                    try (refine hK _ rfl ?_; clear hK; clear K)
                    exact AW.ret (ret_views [rowAV [], matAV [], rowAV [], .int .i64 2] rfl ⟨.nilsl 4, .nilsl 1, .nilsl 4, .same _, trivial⟩ ⟨rfl, rfl⟩)
                  | some vq =>
                    rw [hc] at hv hlow
                    obtain ⟨bv, rfl, hb0, rfl⟩ := hv
                    have hst : sqIter n l0 (j + 1) = match extQ fs n j vq with
                      | none => .err
                      | some v' => .vec v' := hlow
                    have hbv : bv ∉ B :: bs := hMR.fresh hb0
                    have hbM : M bv = none := by
                      rcases hf bv (by simp) with h | h
                      · exact absurd h hbv
                      · exact h.1
                    rw [back_gset, back_only]
                    obtain ⟨vg, vl⟩ := crossQ_good i2 hj k2 k3 hc
                    obtain ⟨t1, t2, t3⟩ := i7.freeze hbM (F := ⟨36, 4, rrs (vq.map ofQ)⟩) (rrs_ok _)
                    rw [hatl] at t3
                    simp
                    refine hK _ rfl ?_
                    clear hK
                    clear K
                    (repeat refine AW.seq_k fun K hK => ?_)
                    refine AW.rg ?_
                    simp
                    try (refine hK _ rfl ?_; clear hK; clear K)
                    refine AW.no ?_ rfl
                    refine AW.skip ?_
                    try simp
                    refine hK _ rfl ?_
                    clear hK
                    clear K
                    refine AW.turn [(3, matAV (emb (fs.filterMap id))), (8, .sl 1 (ints at_)), (9, .int .i64 (j : Nat)), (13, .osl bv 4 0 n)] _ t1 (by simp; exact ⟨t2, t3⟩) ?_
                    have hext := extend2_call bv vq fs (fs.filterMap id) at_ n j vg vl i4 i3 hj h4
                    cases he : extQ fs n j vq with
                    | none =>
                      rw [he] at hst
                      rw [sqOut_err hst (by omega)]
                      rw [he] at hext
                      (repeat refine AW.seq_k fun K hK => ?_)
                      refine AW.rg ?_
                      simp
                      try (refine hK _ rfl ?_; clear hK; clear K)
                      refine CallK.whole (by simp) hext ?_
                      rintro v g hv
                      cases (show v = .tup [.nil, .int .i64 2] from hv)
                      simp
                      refine hK _ rfl ?_
                      clear hK
                      clear K
                      (repeat refine AW.seq_k fun K hK => ?_)
                      refine AW.rg ?_
                      simp
                      try (refine hK _ rfl ?_; clear hK; clear K)
                      exact AW.ret (ret_views [rowAV [], matAV [], rowAV [], .int .i64 2] rfl ⟨.nilsl 4, .nilsl 1, .nilsl 4, .same _, trivial⟩ ⟨rfl, rfl⟩)
                    | some q =>
                      rw [he] at hst
                      rw [sqOut_vec hst (by omega)]
                      rw [he] at hext
                      (repeat refine AW.seq_k fun K hK => ?_)
                      refine AW.rg ?_
                      simp
                      try (refine hK _ rfl ?_; clear hK; clear K)
                      refine CallK.whole (by simp) hext ?_
                      rintro v g hv
                      obtain ⟨rfl, rfl, e1, e2⟩ : v = .tup [.osl bv 4 0 n, .int .i64 0] ∧ g = Mem.emp.set bv ⟨36, 4, rrs (q.map ofQ)⟩ ∧ q.length = n ∧ rowGood q := hv
                      simp
                      refine hK _ rfl ?_
                      clear hK
                      clear K
                      (repeat refine AW.seq_k fun K hK => ?_)
                      refine AW.rg ?_
                      simp
                      try (refine hK _ rfl ?_; clear hK; clear K)
                      exact AW.ret (ret_views [rowAV [], matAV [], rowAV (q.map ofQ), .int .i64 0] rfl ⟨.nilsl 4, .nilsl 1, view_row (Mem.set_same _ _ _) rfl (by rw [List.length_map]; exact e1), .same _, trivial⟩ ⟨rfl, rfl⟩)
              · have hst : sqIter n l0 (j + 1) = match extQ fs n j (eQ n j) with
                    | none => .err
                    | some v' => .vec v' := by
                  rw [hgo]; unfold sqStep lowQ; rw [if_neg (by omega), if_pos (by omega)] <;> rfl
                have hzn := zeros_pos n (by omega) (by omega)
                have hone := whole7_call 1 (by omega) (by omega)
                rw [intQ_one] at hone
                (repeat refine AW.seq ?_)
                refine AW.block ?_
                (repeat refine AW.seq_k fun K hK => ?_)
                refine AW.rg ?_
                simp [hs]
                try (refine hK _ rfl ?_; clear hK; clear K)
                refine AW.no ?_ rfl
                (repeat refine AW.seq_k fun K hK => ?_)
                refine AW.rg ?_
                simp [hs]
                try (refine hK _ rfl ?_; clear hK; clear K)
                refine AW.no ?_ rfl
                refine AW.skip ?_
                try simp
                refine hK _ rfl ?_
                clear hK
                clear K
                (repeat refine AW.seq_k fun K hK => ?_)
                refine AW.rg ?_
                simp
                try (refine hK _ rfl ?_; clear hK; clear K)
                refine CallK.make hzn ?_
                rintro bv _ _ ⟨rfl, rfl⟩ hbM _
                simp
                refine hK _ rfl ?_
                clear hK
                clear K
                (repeat refine AW.seq_k fun K hK => ?_)
                refine AW.rg ?_
                simp
                try (refine hK _ rfl ?_; clear hK; clear K)
                refine CallK.val hone ?_
                simp [hj]
                refine hK _ rfl ?_
                clear hK
                clear K
                rw [show (List.replicate n (ofQ 0)).set j (ofQ 1) = (eQ n j).map ofQ by unfold eQ; rw [List.map_set, List.map_replicate]]
                obtain ⟨t1, t2, t3⟩ := i7.freeze hbM (F := ⟨36, 4, rrs ((eQ n j).map ofQ)⟩) (rrs_ok _)
                rw [hatl] at t3
                refine AW.turn [(3, matAV (emb (fs.filterMap id))), (8, .sl 1 (ints at_)), (9, .int .i64 (j : Nat)), (15, .osl bv 4 0 n)] _ t1 (by simp; exact ⟨t2, t3⟩) ?_
                have hext := extend2_call bv (eQ n j) fs (fs.filterMap id) at_ n j (rowGood_e n j) (eQ_length n j) i4 i3 hj h4
                cases he : extQ fs n j (eQ n j) with
                | none =>
                  rw [he] at hst
                  rw [sqOut_err hst (by omega)]
                  rw [he] at hext
                  (repeat refine AW.seq_k fun K hK => ?_)
                  refine AW.rg ?_
                  simp
                  try (refine hK _ rfl ?_; clear hK; clear K)
                  refine CallK.whole (by simp) hext ?_
                  rintro v g hv
                  cases (show v = .tup [.nil, .int .i64 2] from hv)
                  simp
                  refine hK _ rfl ?_
                  clear hK
                  clear K
                  (repeat refine AW.seq_k fun K hK => ?_)
                  refine AW.rg ?_
                  simp
                  try (refine hK _ rfl ?_; clear hK; clear K)
                  exact AW.ret (ret_views [rowAV [], matAV [], rowAV [], .int .i64 2] rfl ⟨.nilsl 4, .nilsl 1, .nilsl 4, .same _, trivial⟩ ⟨rfl, rfl⟩)
                | some q =>
                  rw [he] at hst
                  rw [sqOut_vec hst (by omega)]
                  rw [he] at hext
                  (repeat refine AW.seq_k fun K hK => ?_)
                  refine AW.rg ?_
                  simp
                  try (refine hK _ rfl ?_; clear hK; clear K)
                  refine CallK.whole (by simp) hext ?_
                  rintro v g hv
                  obtain ⟨rfl, rfl, e1, e2⟩ : v = .tup [.osl bv 4 0 n, .int .i64 0] ∧ g = Mem.emp.set bv ⟨36, 4, rrs (q.map ofQ)⟩ ∧ q.length = n ∧ rowGood q := hv
                  simp
                  refine hK _ rfl ?_
                  clear hK
                  clear K
                  (repeat refine AW.seq_k fun K hK => ?_)
                  refine AW.rg ?_
                  simp
                  try (refine hK _ rfl ?_; clear hK; clear K)
                  exact AW.ret (ret_views [rowAV [], matAV [], rowAV (q.map ofQ), .int .i64 0] rfl ⟨.nilsl 4, .nilsl 1, view_row (Mem.set_same _ _ _) rfl (by rw [List.length_map]; exact e1), .same _, trivial⟩ ⟨rfl, rfl⟩)
            rintro ⟨X, ws, fs, at_, M, wv, wb, fv, fb⟩ hs
            (repeat refine AW.seq_k fun K hK => ?_)
            refine AW.rg ?_
            simp [-Int.natCast_add, w1]
            try (refine hK _ rfl ?_; clear hK; clear K)
            exact ⟨j + 1, ⟨X, ws, fs, at_, M, wv, wb, fv, fb⟩, ⟨hj, hs⟩, by omega, by simp⟩
          · refine AW.exit ?_
            try simp
            have : j = n := by omega
            subst this
            exact ⟨⟨X, ws, fs, at_, M, wv, wb, fv, fb⟩, ⟨i1, i2, i3, i4, i5, i6, i7⟩, by simp⟩
        rintro ⟨X, ws, fs, at_, M, wv, wb, fv, fb⟩ ⟨i1, i2, i3, i4, i5, i6, i7⟩
        simp only at i1 i2 i3 i4 i5 i6 i7
        simp only
        rw [i1]
        (repeat refine AW.seq_k fun K hK => ?_)
        refine AW.rg ?_
        simp
        try (refine hK _ rfl ?_; clear hK; clear K)
        have v1 := i7.wts.view (M' := Mem.emp) (fun _ _ => rfl)
        have v2 := i7.fms.view (M' := Mem.emp) (fun _ _ => rfl)
        exact AW.ret (ret_views [rowAV (ws.map ofQ), matAV (emb (fs.filterMap id)), rowAV [], .int .i64 0] rfl ⟨v1, v2, .nilsl 4, .same _, trivial⟩ ⟨rfl, rfl⟩)
  · have hR : sqR m = ⟨chk m, [], [], []⟩ := by unfold sqR; rw [if_pos h0]
    rw [hR]
    generalize chk m = e at *
    refine acall_S Tryz.func63 rfl rfl 123 rfl (Nat.le_of_ble_eq_true rfl) ?_
    (repeat refine AW.seq_k fun K hK => ?_)
    refine AW.rg ?_
    simp [argsL]
    try (refine hK _ rfl ?_; clear hK; clear K)
    (repeat refine AW.seq_k fun K hK => ?_)
    refine AW.rg ?_
    simp
    try (refine hK _ rfl ?_; clear hK; clear K)
    refine CallK.val hck ?_
    simp
    refine hK _ rfl ?_
    clear hK
    clear K
    (repeat refine AW.seq_k fun K hK => ?_)
    refine AW.rg ?_
    simp [h0]
    try (refine hK _ rfl ?_; clear hK; clear K)
    refine AW.yes ?_ rfl
    (repeat refine AW.seq_k fun K hK => ?_)
    refine AW.rg ?_
    simp
    try (refine hK _ rfl ?_; clear hK; clear K)
    exact AW.ret (ret_views [rowAV [], matAV [], rowAV [], .int .i64 e] rfl ⟨.nilsl 4, .nilsl 1, .nilsl 4, .same _, trivial⟩ ⟨rfl, rfl⟩)
end Go.Av
end
section
namespace Go.Av
open Go.Proofs
def sqM (X : List (List Rat)) (n : Nat) : List (List Rat) := (X.take n).map fun r => r.take n
open Classical in
/-- The square part, if there is one. -/
noncomputable def squareR (m : List (List RR)) : List (List Rat) × Bool := if chk m ≠ 0 ∨ isLarge m = true then ([], false) else (sqM (unq m) (min m.length (mrow m 0).length), true)
theorem sqM_good {X : List (List Rat)} {n w k : Nat} (h : matGood n w X) (h1 : k ≤ n) (h2 : k ≤ w) : matGood k k (sqM X k) := by
  have hl : (sqM X k).length = k := by simp [sqM, h.2.2]; omega
  refine ⟨fun r hr q hq => ?_, fun i hi => ?_, hl⟩
  · obtain ⟨r0, h0, rfl⟩ := List.mem_map.1 hr
    exact h.1 r0 (List.mem_of_mem_take h0) q (List.mem_of_mem_take hq)
  · rw [hl] at hi
    unfold sqM mrow
    rw [List.getD_eq_getElem?_getD, List.getElem?_map, List.getElem?_take, if_pos hi, List.getElem?_eq_getElem (by rw [h.2.2]; omega)]
    have := h.2.1 i (by rw [h.2.2]; omega)
    rw [mrow_eq (by rw [h.2.2]; omega)] at this
    simp [this]; omega
theorem squareR_good {m : List (List RR)} (hm : LbM m) : ∃ n, n ≤ 10 ∧ matGood n n (squareR m).1 := by
  unfold squareR
  by_cases h : chk m ≠ 0 ∨ isLarge m = true
  · rw [if_pos h]
    exact ⟨0, by omega, fun r hr => (by cases hr), fun i hi => (by cases hi), rfl⟩
  · rw [if_neg h]
    simp only [not_or, Decidable.not_not] at h
    obtain ⟨h0, h1⟩ := h
    obtain ⟨a1, a2, a3, a4, a5⟩ := chk_emb hm h0
    have e0 : (mrow (unq m) 0).length = (mrow m 0).length := by rw [unq_row, List.length_map]
    rw [e0] at a3
    refine ⟨min m.length (mrow m 0).length, ?_, sqM_good ⟨a2, a3, unq_length m⟩ (by omega) (by omega)⟩
    simp only [isLarge, h0, true_and, decide_eq_true_eq] at h1
    omega
theorem sqM_succ {X : List (List Rat)} {n i : Nat} (hi : i < n) (hn : n ≤ X.length) : (sqM X n).take (i + 1) = (sqM X n).take i ++ [(mrow X i).take n] := by
  rw [List.take_add_one]
  congr 1
  unfold sqM
  rw [List.getElem?_map, List.getElem?_take, if_pos hi, List.getElem?_eq_getElem (by omega), mrow_eq (by omega)]
  rfl
theorem slice_row {r : List RR} {k : Nat} (h : k ≤ r.length) (size bytes : Nat) (zero : AV) (fs : List (Nat × Nat × Option Bool)) : sliceAV Tryz.prog ⟨size, bytes, .slice 36, zero, fs⟩ (rowAV r) none (some (.int .i64 (k : Nat))) = some (rowAV (r.take k)) := by
  unfold rowAV
  rw [sliceAV_sl]
  simp [cutAV, intOf?, h, rrs, List.map_take]
structure SqL where
  M : Mem
  rv : AV
  rb : List Nat
set_option maxHeartbeats 1000000
theorem square_call (m : List (List RR)) (hm : LbM m) : ACall Tryz.prog 25 [matAV m] Mem.emp fun v mm => v = .tup [matAV (emb (squareR m).1), .bool (squareR m).2] ∧ mm = Mem.emp := by
  have hck := check2_call m hm
  have hla := large_call m hm
  by_cases h0 : chk m = 0
  · cases hL : isLarge m with
    | true =>
      have hR : squareR m = ([], false) := by unfold squareR; rw [if_pos (.inr hL)]
      rw [hR]
      rw [hL] at hla
      rw [h0] at hck
      refine acall_S Tryz.func25 rfl rfl 39 rfl (Nat.le_of_ble_eq_true rfl) ?_
      (repeat refine AW.seq_k fun K hK => ?_)
      refine AW.rg ?_
      simp [argsL]
      try (refine hK _ rfl ?_; clear hK; clear K)
      (repeat refine AW.seq_k fun K hK => ?_)
      refine AW.rg ?_
      simp
      try (refine hK _ rfl ?_; clear hK; clear K)
      refine CallK.val hck ?_
      simp
      refine CallK.val hla ?_
      simp
      refine hK _ rfl ?_
      clear hK
      clear K
      refine AW.yes ?_ rfl
      (repeat refine AW.seq_k fun K hK => ?_)
      refine AW.rg ?_
      simp
      try (refine hK _ rfl ?_; clear hK; clear K)
      exact AW.ret (ret_views [matAV [], .bool false] rfl ⟨.nilsl 1, .same _, trivial⟩ ⟨rfl, rfl⟩)
    | false =>
      have hR : squareR m = (sqM (unq m) (min m.length (mrow m 0).length), true) := by unfold squareR; rw [if_neg (by simp [h0, hL])]
      rw [hR]
      rw [hL] at hla
      rw [h0] at hck
      obtain ⟨a1, a2, a3, a4, a5⟩ := chk_emb hm h0
      have e0 : (mrow (unq m) 0).length = (mrow m 0).length := by rw [unq_row, List.length_map]
      rw [e0] at a3 a5
      have hXl := unq_length m
      rcases Nat.eq_zero_or_pos m.length with hz | hz
      · have : m = [] := List.eq_nil_of_length_eq_zero hz
        subst this
        refine acall_S Tryz.func25 rfl rfl 39 rfl (Nat.le_of_ble_eq_true rfl) ?_
        (repeat refine AW.seq_k fun K hK => ?_)
        refine AW.rg ?_
        simp [argsL]
        try (refine hK _ rfl ?_; clear hK; clear K)
        (repeat refine AW.seq_k fun K hK => ?_)
        refine AW.rg ?_
        simp
        try (refine hK _ rfl ?_; clear hK; clear K)
        refine CallK.val hck ?_
        simp
        refine CallK.val hla ?_
        simp
        refine hK _ rfl ?_
        clear hK
        clear K
        refine AW.no ?_ rfl
        refine AW.skip ?_
        try simp
        refine hK _ rfl ?_
        clear hK
        clear K
        (repeat refine AW.seq_k fun K hK => ?_)
        refine AW.rg ?_
        simp
        try (refine hK _ rfl ?_; clear hK; clear K)
        refine AW.yes ?_ rfl
        (repeat refine AW.seq_k fun K hK => ?_)
        refine AW.rg ?_
        simp
        try (refine hK _ rfl ?_; clear hK; clear K)
        exact AW.ret (ret_views [matAV [], .bool true] rfl ⟨.nilsl 1, .same _, trivial⟩ ⟨rfl, rfl⟩)
      · generalize hX : unq m = X at *
        generalize hw : (mrow m 0).length = w at *
        generalize hn : m.length = n at *
        subst a1
        have hEl : (emb X).length = n := by rw [emb_length]; exact hXl
        refine acall_S Tryz.func25 rfl rfl 39 rfl (Nat.le_of_ble_eq_true rfl) ?_
        (repeat refine AW.seq_k fun K hK => ?_)
        refine AW.rg ?_
        simp [argsL]
        try (refine hK _ rfl ?_; clear hK; clear K)
        (repeat refine AW.seq_k fun K hK => ?_)
        refine AW.rg ?_
        simp
        try (refine hK _ rfl ?_; clear hK; clear K)
        refine CallK.val hck ?_
        simp
        refine CallK.val hla ?_
        simp
        refine hK _ rfl ?_
        clear hK
        clear K
        refine AW.no ?_ rfl
        refine AW.skip ?_
        try simp
        refine hK _ rfl ?_
        clear hK
        clear K
        have hz' : ¬ (n = 0) := by omega
        (repeat refine AW.seq_k fun K hK => ?_)
        refine AW.rg ?_
        simp [hEl, hz']
        try (refine hK _ rfl ?_; clear hK; clear K)
        refine AW.no ?_ rfl
        refine AW.skip ?_
        try simp
        refine hK _ rfl ?_
        clear hK
        clear K
        (repeat refine AW.seq_k fun K hK => ?_)
        refine AW.rg ?_
        simp [hEl, hz, hw]
        try (refine hK _ rfl ?_; clear hK; clear K)
        have hmn : (if w < n then (w : Int) else (n : Int)) = ((min n w : Nat) : Int) := by
          split <;> omega
        rw [hmn]
        have hkn : min n w ≤ n := by omega
        have hkw : min n w ≤ w := by omega
        generalize min n w = k at *
        have hXm : matGood n w X := ⟨a2, a3, hXl⟩
        (repeat refine AW.seq_k fun K hK => ?_)
        refine AW.rg ?_
        simp
        try (refine hK _ rfl ?_; clear hK; clear K)
        refine AW.seq_ex (ι := SqL) (fun s => [(5, s.rv)]) (fun s => s.M) (fun s => LstO s.M 42 1 s.rv s.rb ((emb (sqM X k)).map rowAV)) ?_ ?_
        · (repeat refine AW.seq_k fun K hK => ?_)
          refine AW.rg ?_
          simp
          try (refine hK _ rfl ?_; clear hK; clear K)
          refine AW.block (AW.loopS (ι := Nat × SqL) (fun z => [(0, matAV (emb X)), (4, .int .i64 (k : Nat)), (5, z.2.rv), (6, .int .i64 (z.1 : Nat))]) (fun z => z.2.M) (fun z => z.1 ≤ k ∧ LstO z.2.M 42 1 z.2.rv z.2.rb ((emb ((sqM X k).take z.1)).map rowAV)) (fun z => k - z.1) (0, ⟨Mem.emp, .nil, []⟩) ⟨by simp, LstO.start _ _⟩ rfl (by simp) ?_)
          rintro ⟨i, M, ov, ob⟩ ⟨g1, g2⟩
          simp only at g1 g2
          simp only
          (repeat refine AW.seq_k fun K hK => ?_)
          refine AW.rg ?_
          simp
          try (refine hK _ rfl ?_; clear hK; clear K)
          (repeat refine AW.seq ?_)
          refine AW.cs (fun hi => ?_) (fun hi => ?_) rfl <;> (try simp at hi)
          · refine AW.skip ?_
            try simp
            refine hK _ rfl ?_
            clear hK
            clear K
            have w1 : IntKind.i64.wrap ((i + 1 : Nat) : Int) = ((i + 1 : Nat) : Int) := wi (by omega)
            have hin : i < n := by omega
            have hli : (mrow (emb X) i).length = w := by rw [emb_row, List.length_map]; exact (hXm.row hin).2
            have hll : ((emb ((sqM X k).take i)).map rowAV).length = i := by rw [List.length_map, emb_length]; simp [sqM, hXl]; omega
            have hcut : ∀ (size bytes : Nat) (zero : AV) (fs : List (Nat × Nat × Option Bool)), sliceAV Tryz.prog ⟨size, bytes, .slice 36, zero, fs⟩ (rowAV (mrow (emb X) i)) none (some (.int .i64 (k : Nat))) = some (rowAV (((mrow X i).map ofQ).take k)) := fun _ _ _ _ => by
              rw [slice_row (by omega), emb_row]
            have hfin : ∀ s : SqL, LstO s.M 42 1 s.rv s.rb ((emb ((sqM X k).take i)).map rowAV ++ [rowAV (((mrow X i).map ofQ).take k)]) → LstO s.M 42 1 s.rv s.rb ((emb ((sqM X k).take (i + 1))).map rowAV) := by
              intro s h2
              rw [sqM_succ hi (by omega), show (emb ((sqM X k).take i ++ [(mrow X i).take k])).map rowAV = (emb ((sqM X k).take i)).map rowAV ++ [rowAV (((mrow X i).take k).map ofQ)] by simp [emb], List.map_take]
              exact h2
            refine AW.seq_ex (ι := SqL) (fun s => [(0, matAV (emb X)), (4, .int .i64 (k : Nat)), (5, s.rv), (6, .int .i64 (i : Nat))]) (fun s => s.M) (fun s => LstO s.M 42 1 s.rv s.rb ((emb ((sqM X k).take (i + 1))).map rowAV)) ?_ ?_
            · (repeat refine AW.seq ?_)
              refine AW.block ?_
              generalize (emb ((sqM X k).take i)).map rowAV = l at *
              rcases g2.lst with ⟨z1, z2, z3⟩ | ⟨b0, z2, z3, z4⟩
              · subst z1 z2 z3
                (repeat refine AW.seq_k fun K hK => ?_)
                refine AW.rgR [36] ?_
                simp [hEl, hin, hli, hcut]
                try (refine hK _ rfl ?_; clear hK; clear K)
                exact ⟨by unfold maxLen; omega, Fresh.intro fun b hb => ⟨⟨_, _, [b]⟩, hfin _ (g2.push0 b _), rfl, rfl⟩⟩
              · subst z2 z3
                (repeat refine AW.seq_k fun K hK => ?_)
                refine AW.rgR [36] ?_
                simp [hEl, hin, hli, hcut, z4]
                try (refine hK _ rfl ?_; clear hK; clear K)
                exact ⟨by omega, by unfold maxLen; omega, Fresh.intro fun b hb => ⟨⟨_, _, [b]⟩, hfin _ (g2.push1 b _), rfl, rfl⟩⟩
            rintro ⟨M, ov, ob⟩ hs
            (repeat refine AW.seq_k fun K hK => ?_)
            refine AW.rg ?_
            simp [-Int.natCast_add, w1]
            try (refine hK _ rfl ?_; clear hK; clear K)
            exact ⟨i + 1, ⟨M, ov, ob⟩, ⟨hi, hs⟩, by omega, by simp⟩
          · refine AW.exit ?_
            try simp
            have : i = k := by omega
            subst this
            rw [List.take_of_length_le (by simp [sqM]; omega)] at g2
            exact ⟨⟨M, ov, ob⟩, g2, by simp⟩
        rintro ⟨M, ov, ob⟩ g2
        simp only at g2
        simp only
        (repeat refine AW.seq_k fun K hK => ?_)
        refine AW.rg ?_
        simp
        try (refine hK _ rfl ?_; clear hK; clear K)
        have hv := g2.lst.view (M' := Mem.emp) (fun _ _ => rfl)
        exact AW.ret (ret_views [matAV (emb (sqM X k)), .bool true] rfl ⟨hv, .same _, trivial⟩ ⟨rfl, rfl⟩)
  · have hR : squareR m = ([], false) := by unfold squareR; rw [if_pos (.inl h0)]
    rw [hR]
    refine acall_S Tryz.func25 rfl rfl 39 rfl (Nat.le_of_ble_eq_true rfl) ?_
    (repeat refine AW.seq_k fun K hK => ?_)
    refine AW.rg ?_
    simp [argsL]
    try (refine hK _ rfl ?_; clear hK; clear K)
    (repeat refine AW.seq_k fun K hK => ?_)
    refine AW.rg ?_
    simp
    try (refine hK _ rfl ?_; clear hK; clear K)
    refine CallK.val hck ?_
    simp [h0]
    refine hK _ rfl ?_
    clear hK
    clear K
    refine AW.yes ?_ rfl
    (repeat refine AW.seq_k fun K hK => ?_)
    refine AW.rg ?_
    simp
    try (refine hK _ rfl ?_; clear hK; clear K)
    exact AW.ret (ret_views [matAV [], .bool false] rfl ⟨.nilsl 1, .same _, trivial⟩ ⟨rfl, rfl⟩)
end Go.Av
end
section
namespace Go.Av
open Go.Proofs
theorem rrs_snoc (r : List RR) (x : RR) : rrs (r ++ [x]) = rrs r ++ [x.av] := by simp [rrs]
/-- A list of rows and a row that is being made. -/
structure TwoL (M : Mem) (ov : AV) (ob : List Nat) (l : List AV) (rv : AV) (rb : List Nat) (r : List AV) : Prop where
  lst : LstV M 42 1 ov ob l
  row : LstV M 36 4 rv rb r
  only : OnlyM M (ob ++ rb)
  dis : ∀ b ∈ ob, b ∉ rb
section
variable {M : Mem} {ov rv : AV} {ob rb : List Nat} {l r : List AV}
theorem lstV_mem {M : Mem} {ty : TypeId} {z : Nat} {ov : AV} {ob : List Nat} {l : List AV} (h : LstV M ty z ov ob l) {b : Nat} (hb : b ∈ ob) : M b = some ⟨ty, z, l⟩ := by
  rcases h with ⟨_, h1, _⟩ | ⟨b', h1, _, h3⟩
  · rw [h1] at hb; cases hb
  · rw [h1] at hb; simp at hb; subst hb; exact h3
theorem TwoL.start {M : Mem} {ov : AV} {ob : List Nat} {l : List AV} (h : LstO M 42 1 ov ob l) : TwoL M ov ob l .nil [] [] :=
  ⟨h.lst, .inl ⟨rfl, rfl, rfl⟩, by simpa using h.only, by simp⟩
theorem TwoL.fresh (h : TwoL M ov ob l rv rb r) {b : Nat} (hb : M b = none) : b ∉ ob ∧ b ∉ rb :=
  ⟨fun h' => (by rw [lstV_mem h.lst h'] at hb; cases hb), fun h' => (by rw [lstV_mem h.row h'] at hb; cases hb)⟩
theorem TwoL.push0 (h : TwoL M ov ob l .nil [] []) {b : Nat} (hb : M b = none) (v : AV) : TwoL (M.set b ⟨36, 4, [v]⟩) ov ob l (.osl b 4 0 1) [b] [v] := by
  obtain ⟨f1, _⟩ := h.fresh hb
  refine ⟨h.lst.keep fun a ha => by simp only [set_at]; rw [if_neg (by rintro rfl; exact f1 ha)], .inr ⟨b, rfl, rfl, by simp⟩, OnlyM.set (h.only.sub fun a ha => by simp at ha ⊢; exact .inl ha) (by simp) _, fun a ha => by simp; rintro rfl; exact f1 ha⟩
theorem TwoL.push1 {b0 : Nat} (h : TwoL M ov ob l (.osl b0 4 0 r.length) [b0] r) {b : Nat} (hb : (M.del b0) b = none) (v : AV) : TwoL ((M.del b0).set b ⟨36, 4, r ++ [v]⟩) ov ob l (.osl b 4 0 (r.length + 1)) [b] (r ++ [v]) := by
  have hd : ∀ a, a ≠ b0 → (M.del b0) a = M a := fun a ha => if_neg ha
  have h0 : ∀ a ∈ ob, a ≠ b0 := fun a ha e => h.dis a ha (by simp [e])
  have hh : TwoL (M.del b0) ov ob l .nil [] [] := by
    refine ⟨h.lst.keep fun a ha => hd a (h0 a ha), .inl ⟨rfl, rfl, rfl⟩, fun a ha => ?_, by simp⟩
    have h1 : a ≠ b0 := by rintro rfl; exact ha (if_pos rfl)
    rw [hd a h1] at ha
    have := h.only a ha
    simp at this ⊢
    exact this.resolve_right h1
  have := hh.push0 hb v
  obtain ⟨f1, _⟩ := hh.fresh hb
  refine ⟨hh.lst.keep fun a ha => by simp only [set_at]; rw [if_neg (by rintro rfl; exact f1 ha)], .inr ⟨b, rfl, by simp, by simp⟩, OnlyM.set (hh.only.sub fun a ha => by simp at ha ⊢; exact .inl ha) (by simp) _, fun a ha => by simp; rintro rfl; exact f1 ha⟩
theorem TwoL.ones (h : TwoL M ov ob l rv rb r) (h1 : ∀ v ∈ l, v.cells.all AV.one = true) (h2 : ∀ v ∈ r, v.cells.all AV.one = true) : OnesM M := by
  intro b y hy
  rcases List.mem_append.1 (h.only b (by rw [hy]; simp)) with hb | hb
  · rw [lstV_mem h.lst hb] at hy; cases hy; exact h1
  · rw [lstV_mem h.row hb] at hy; cases hy; exact h2
/-- The row is done: what is left is the list. -/
theorem TwoL.done (h : TwoL M ov ob l rv rb r) (h1 : ∀ v ∈ l, v.cells.all AV.one = true) : ∃ M', Recast M M' ∧ LstO M' 42 1 ov ob l ∧ View M M' rv (.sl 4 r) ∧ View M M' ov ov := by
  refine ⟨fun b => if b ∈ rb then none else M b, Recast.sub fun b y hy => ?_, ⟨h.lst.keep fun b hb => if_neg (h.dis b hb), fun b hb => ?_⟩, ?_, .same _⟩
  · by_cases hb : b ∈ rb
    · simp [hb] at hy
    · simp [hb] at hy
      refine ⟨hy, ?_⟩
      have := h.only b (by rw [hy]; simp)
      simp [hb] at this
      rw [lstV_mem h.lst this] at hy; cases hy; exact h1
  · by_cases hm : b ∈ rb
    · simp [hm] at hb
    · simp [hm] at hb
      have := h.only b hb
      simpa [hm] using this
  · exact h.row.view fun b hb => if_pos hb
end
end Go.Av
end
section
namespace Go.Av
open Go.Proofs
theorem ext_keep {fs : List (Option (List Rat))} {n j : Nat} : ∀ {t : Nat} {v v' : List Rat}, rowGood v ∧ v.length = n → iterO (extStep fs n j) t v = some v' → rowGood v' ∧ v'.length = n
  | 0, v, v', h, he => by cases he; exact h
  | t + 1, v, v', h, he => by
    rw [iterO_succ] at he
    cases hs : iterO (extStep fs n j) t v with
    | none => rw [hs] at he; cases he
    | some u =>
      rw [hs] at he
      have hu := ext_keep h hs
      replace he : extStep fs n j t u = some v' := he
      unfold extStep at he
      split at he
      · cases he; exact hu
      · rename_i form _
        cases hd : dotQ form u (j - 1 - t) n with
        | none => rw [hd] at he; cases he
        | some s =>
          rw [hd] at he
          replace he : (subQ 0 s).map (u.set (j - 1 - t)) = some v' := he
          rw [(good_neg (dot_good (show iterO (dotStep form u (j - 1 - t)) (n - (j - 1 - t + 1)) 0 = some s from hd))).1] at he
          cases he
          exact ⟨good_set hu.1 _ (good_neg (dot_good (show iterO (dotStep form u (j - 1 - t)) (n - (j - 1 - t + 1)) 0 = some s from hd))).2, by rw [List.length_set]; exact hu.2⟩
theorem split_keep {n j : Nat} {l : List (List Rat)} {z : List Rat × List (List Rat)} (hj : j < n) (hG : matGood n n l) (hd : qel l j j ≠ 0) (h : splitQ n j l = some z) : rowGood z.1 ∧ z.1.length = n ∧ matGood n n z.2 := by
  unfold splitQ at h
  cases hf : formQ n j l with
  | none => rw [hf] at h; cases h
  | some form =>
    rw [hf] at h
    replace h : (iterO (splitStep n j form) (n - (j + 1)) l).map (fun l' => (form, l')) = some z := h
    cases hi : iterO (splitStep n j form) (n - (j + 1)) l with
    | none => rw [hi] at h; cases h
    | some l' =>
      rw [hi] at h
      cases h
      have hk := form_keep hd ⟨rowGood_e n j, eQ_length n j⟩ (show iterO (formStep (mrow l j) (qel l j j) j) (n - (j + 1)) (eQ n j) = some form from hf)
      exact ⟨hk.1, hk.2, (splits_keep (by omega) hG hi).1⟩
/-- What Squares keeps. -/
def sqGood (n j : Nat) : SqO → Prop
  | .err => True
  | .vec v => rowGood v ∧ v.length = n
  | .go X ws fs => matGood n n X ∧ rowGood ws ∧ ws.length ≤ j ∧ formsOk n fs ∧ fs.length = n
theorem sqIter_good {n : Nat} {l : List (List Rat)} (hG : matGood n n l) : ∀ {j : Nat}, j ≤ n → sqGood n j (sqIter n l j)
  | 0, _ => by
    refine ⟨hG, fun q hq => (by cases hq), Nat.le_refl _, fun i f h => ?_, by simp⟩
    rw [List.getD_eq_getElem?_getD, List.getElem?_replicate] at h
    split at h <;> cases h
  | j + 1, hj => by
    have ih := sqIter_good hG (j := j) (by omega)
    cases hs : sqIter n l j with
    | err => rw [sqIter_err hs 1]; trivial
    | vec v => rw [sqIter_vec hs 1]; rw [hs] at ih; exact ih
    | go X ws fs =>
      rw [sqIter_go hs]
      rw [hs] at ih
      obtain ⟨h1, h2, h3, h4, h5⟩ := ih
      have hjj : j < (mrow X j).length := by rw [(h1.row (by omega)).2]; omega
      unfold sqStep
      split
      · rename_i hp
        have hd : qel X j j ≠ 0 := fun h => by rw [h] at hp; revert hp; decide
        cases hq : splitQ n j X with
        | none => trivial
        | some z =>
          obtain ⟨k1, k2, k3⟩ := split_keep (by omega) h1 hd hq
          refine ⟨k3, fun q hq => ?_, by simp; omega, fun i f hf => ?_, by rw [List.length_set]; exact h5⟩
          · rcases List.mem_append.1 hq with hq | hq
            · exact h2 q hq
            · simp at hq; subst hq; exact h1.1.at hjj
          · rw [List.getD_eq_getElem?_getD, List.getElem?_set] at hf
            by_cases e : j = i
            · rw [if_pos e] at hf
              split at hf
              · cases hf; exact ⟨k1, k2⟩
              · cases hf
            · rw [if_neg e, ← List.getD_eq_getElem?_getD] at hf; exact h4 i f hf
      · have hlow : ∀ v, lowQ n j X = some (some v) → rowGood v ∧ v.length = n := by
          intro v hv
          unfold lowQ at hv
          split at hv
          · cases hv; exact ⟨rowGood_e n j, eQ_length n j⟩
          · split at hv
            · cases hv
            · rename_i k hk
              obtain ⟨k1, k2, k3⟩ := besideQ_prop hk
              rw [(h1.row (by omega)).2] at k2
              cases hc : crossQ n j k X with
              | none => rw [hc] at hv; cases hv
              | some w => rw [hc] at hv; cases hv; exact crossQ_good h1 (by omega) k2 k3 hc
        cases hl : lowQ n j X with
        | none => trivial
        | some o =>
          cases o with
          | none => exact ⟨h1, h2, Nat.le_succ_of_le h3, h4, h5⟩
          | some v =>
            simp only
            cases he : extQ fs n j v with
            | none => trivial
            | some v' => exact ext_keep (hlow v hl) he
theorem sqOut_good {n : Nat} {l : List (List Rat)} (hG : matGood n n l) : rowGood (sqOut (sqIter n l n)).ws ∧ (sqOut (sqIter n l n)).ws.length ≤ n ∧ rowGood (sqOut (sqIter n l n)).v ∧ (sqOut (sqIter n l n)).v.length ≤ n ∧ ∃ k, k ≤ n ∧ matGood k n (sqOut (sqIter n l n)).fs := by
  have h := sqIter_good hG (j := n) (Nat.le_refl _)
  have z : rowGood ([] : List Rat) := fun q hq => (by cases hq)
  have zm : matGood 0 n ([] : List (List Rat)) := ⟨fun r hr => (by cases hr), fun i hi => (by cases hi), rfl⟩
  cases hs : sqIter n l n with
  | err => exact ⟨z, Nat.zero_le _, z, Nat.zero_le _, 0, by omega, zm⟩
  | vec v => rw [hs] at h; exact ⟨z, Nat.zero_le _, h.1, by rw [show (sqOut (.vec v)).v = v from rfl, h.2]; exact Nat.le_refl _, 0, by omega, zm⟩
  | go X ws fs =>
    rw [hs] at h
    obtain ⟨h1, h2, h3, h4, h5⟩ := h
    have hf : ∀ f ∈ fs.filterMap id, rowGood f ∧ f.length = n := by
      intro f hf
      rw [List.mem_filterMap] at hf
      obtain ⟨o, ho, e⟩ := hf
      simp at e
      subst e
      obtain ⟨i, hi, e⟩ := List.mem_iff_getElem.1 ho
      exact h4 i f (by rw [List.getD_eq_getElem?_getD, List.getElem?_eq_getElem hi, e]; rfl)
    refine ⟨h2, h3, z, Nat.zero_le _, (fs.filterMap id).length, by rw [← h5]; exact List.length_filterMap_le _ _, fun r hr => (hf r hr).1, fun i hi => ?_, rfl⟩
    have : mrow (fs.filterMap id) i ∈ fs.filterMap id := by rw [mrow_eq (show i < (fs.filterMap id).length from hi)]; exact List.getElem_mem _
    exact (hf _ this).2
theorem sqR_good {m : List (List RR)} (hm : LbM m) : rowGood (sqR m).ws ∧ (sqR m).ws.length ≤ 64 ∧ rowGood (sqR m).v ∧ (sqR m).v.length ≤ 64 ∧ ∃ k w, k ≤ 64 ∧ w ≤ 64 ∧ matGood k w (sqR m).fs := by
  have z : rowGood ([] : List Rat) := fun q hq => (by cases hq)
  have zm : matGood 0 0 ([] : List (List Rat)) := ⟨fun r hr => (by cases hr), fun i hi => (by cases hi), rfl⟩
  unfold sqR
  by_cases h0 : chk m = 0
  · rw [if_neg (by simp [h0])]
    by_cases h1 : m.length = (mrow m 0).length ∧ symm (unq m) m.length
    · rw [if_pos h1]
      obtain ⟨a1, a2, a3, a4, a5⟩ := chk_emb hm h0
      have e0 : (mrow (unq m) 0).length = (mrow m 0).length := by rw [unq_row, List.length_map]
      rw [e0, ← h1.1] at a3
      obtain ⟨k1, k2, k3, k4, k, k5, k6⟩ := sqOut_good (n := m.length) ⟨a2, a3, unq_length m⟩
      exact ⟨k1, by omega, k3, by omega, k, _, by omega, a4, k6⟩
    · rw [if_neg h1]; exact ⟨z, Nat.zero_le _, z, Nat.zero_le _, 0, 0, by omega, by omega, zm⟩
  · rw [if_pos h0]; exact ⟨z, Nat.zero_le _, z, Nat.zero_le _, 0, 0, by omega, by omega, zm⟩
theorem row_same7 {v : List Rat} (h : rowGood v) (hl : v.length ≤ 64) : ACall Tryz.prog 44 [rowAV (v.map ofQ), rowAV (v.map ofQ)] Mem.emp fun r m => r = .bool true ∧ m = Mem.emp := by
  refine (row_call _ _ (fun x hx => ?_) (by rw [List.length_map]; omega)).mono ?_
  · obtain ⟨q, hq, rfl⟩ := List.mem_map.1 hx
    exact short_good (h q hq)
  · rintro r m ⟨⟨t, rfl, ht⟩, h2⟩
    exact ⟨by rw [ht.2 rfl], h2⟩
theorem sameSquares_call (m : List (List RR)) (hm : LbM m) : ACall Tryz.prog 27 [matAV m] Mem.emp fun v mm => v = .bool true ∧ mm = Mem.emp := by
  have hp := squaresL_call m hm
  have hr := squares7_call m hm
  obtain ⟨k1, k2, k3, k4, k, w, k5, k6, k7⟩ := sqR_good hm
  have s1 := row_same7 k1 k2
  have s2 := row_same7 k3 k4
  have s3 := rows_same k7 k5 k6
  generalize sqR m = z at *
  obtain ⟨e, ws, fs, v⟩ := z
  unfold sqAV at hp hr
  simp only at hp hr s1 s2 s3
  refine acall_S Tryz.func27 rfl rfl 43 rfl (Nat.le_of_ble_eq_true rfl) ?_
  (repeat refine AW.seq_k fun K hK => ?_)
  refine AW.rg ?_
  simp [argsL]
  try (refine hK _ rfl ?_; clear hK; clear K)
  (repeat refine AW.seq_k fun K hK => ?_)
  refine AW.rg ?_
  simp
  try (refine hK _ rfl ?_; clear hK; clear K)
  refine CallK.val hp ?_
  simp
  refine hK _ rfl ?_
  clear hK
  clear K
  (repeat refine AW.seq_k fun K hK => ?_)
  refine AW.rg ?_
  simp
  try (refine hK _ rfl ?_; clear hK; clear K)
  refine CallK.val hr ?_
  simp
  refine hK _ rfl ?_
  clear hK
  clear K
  (repeat refine AW.seq_k fun K hK => ?_)
  refine AW.rg ?_
  simp
  try (refine hK _ rfl ?_; clear hK; clear K)
  refine CallK.val s1 ?_
  simp
  refine CallK.val s3 ?_
  simp
  refine CallK.val s2 ?_
  simp
  refine hK _ rfl ?_
  clear hK
  clear K
  exact AW.ret (ret_views (vs := [.bool true]) [.bool true] (by simp) (by simp) ⟨rfl, rfl⟩)
def syRow (S : List (List Rat)) (i k : Nat) : List Rat := (List.range k).map fun k => qel S (max i k) (min i k)
def syM (S : List (List Rat)) (n i : Nat) : List (List Rat) := (List.range i).map fun i => syRow S i n
theorem syRow_succ (S : List (List Rat)) (i k : Nat) : syRow S i (k + 1) = syRow S i k ++ [qel S (max i k) (min i k)] := by unfold syRow; rw [List.range_succ, List.map_append]; rfl
theorem syM_succ (S : List (List Rat)) (n i : Nat) : syM S n (i + 1) = syM S n i ++ [syRow S i n] := by unfold syM; rw [List.range_succ, List.map_append]; rfl
structure SyS where
  M : Mem
  rv : AV
  rb : List Nat
set_option maxHeartbeats 1000000
theorem lawSquares (m : List (List RR)) (hm : LbM m) : ACall Tryz.prog 5 [matAV m] Mem.emp fun v mm => v = .bool true ∧ mm = Mem.emp := by
  have hla := large_call m hm
  have hwk := works_call
  have hss := sameSquares_call m hm
  have hsq := square_call m hm
  obtain ⟨n, hn, hG⟩ := squareR_good hm
  generalize squareR m = s at *
  obtain ⟨S, ok⟩ := s
  simp only at hsq hG
  have hSl := hG.2.2
  have hs2 := sameSquares_call (emb (syM S n n)) (lb_emb _)
  refine acall_S Tryz.func5 rfl rfl 61 rfl (Nat.le_of_ble_eq_true rfl) ?_
  (repeat refine AW.seq_k fun K hK => ?_)
  refine AW.rg ?_
  simp [argsL]
  try (refine hK _ rfl ?_; clear hK; clear K)
  (repeat refine AW.seq_k fun K hK => ?_)
  refine AW.rg ?_
  simp
  try (refine hK _ rfl ?_; clear hK; clear K)
  refine CallK.val hla ?_
  simp
  refine hK _ rfl ?_
  clear hK
  clear K
  cases isLarge m
  · refine AW.no ?_ rfl
    refine AW.skip ?_
    try simp
    refine hK _ rfl ?_
    clear hK
    clear K
    (repeat refine AW.seq_k fun K hK => ?_)
    refine AW.rg ?_
    simp
    try (refine hK _ rfl ?_; clear hK; clear K)
    refine CallK.val hwk ?_
    simp
    refine CallK.val hss ?_
    simp
    refine hK _ rfl ?_
    clear hK
    clear K
    (repeat refine AW.seq_k fun K hK => ?_)
    refine AW.rg ?_
    simp
    try (refine hK _ rfl ?_; clear hK; clear K)
    refine CallK.val hsq ?_
    simp
    refine hK _ rfl ?_
    clear hK
    clear K
    cases ok
    · (repeat refine AW.seq_k fun K hK => ?_)
      refine AW.rg ?_
      simp
      try (refine hK _ rfl ?_; clear hK; clear K)
      refine AW.yes ?_ rfl
      (repeat refine AW.seq_k fun K hK => ?_)
      refine AW.rg ?_
      simp
      try (refine hK _ rfl ?_; clear hK; clear K)
      exact AW.ret (ret_views (vs := [.bool true]) [.bool true] (by simp) (by simp) ⟨rfl, rfl⟩)
    · (repeat refine AW.seq_k fun K hK => ?_)
      refine AW.rg ?_
      simp
      try (refine hK _ rfl ?_; clear hK; clear K)
      refine AW.no ?_ rfl
      refine AW.skip ?_
      try simp
      refine hK _ rfl ?_
      clear hK
      clear K
      (repeat refine AW.seq_k fun K hK => ?_)
      refine AW.rg ?_
      simp
      try (refine hK _ rfl ?_; clear hK; clear K)
      refine AW.seq_ex (ι := SyS) (fun s => [(3, .bool true), (6, s.rv)]) (fun s => s.M) (fun s => LstO s.M 42 1 s.rv s.rb ((emb (syM S n n)).map rowAV)) ?_ ?_
      · (repeat refine AW.seq_k fun K hK => ?_)
        refine AW.rg ?_
        simp
        try (refine hK _ rfl ?_; clear hK; clear K)
        refine AW.block (AW.loopS (ι := Nat × SyS) (fun z => [(3, .bool true), (4, matAV (emb S)), (6, z.2.rv), (7, .int .i64 (z.1 : Nat))]) (fun z => z.2.M) (fun z => z.1 ≤ n ∧ LstO z.2.M 42 1 z.2.rv z.2.rb ((emb (syM S n z.1)).map rowAV)) (fun z => n - z.1) (0, ⟨Mem.emp, .nil, []⟩) ⟨by simp, LstO.start _ _⟩ rfl (by simp) ?_)
        rintro ⟨i, M, ov, ob⟩ ⟨g1, g2⟩
        simp only at g1 g2
        simp only
        (repeat refine AW.seq_k fun K hK => ?_)
        refine AW.rg ?_
        simp [emb_length, hSl]
        try (refine hK _ rfl ?_; clear hK; clear K)
        (repeat refine AW.seq ?_)
        refine AW.cs (fun hi => ?_) (fun hi => ?_) rfl <;> (try simp at hi)
        · refine AW.skip ?_
          try simp
          refine hK _ rfl ?_
          clear hK
          clear K
          have w1 : IntKind.i64.wrap ((i + 1 : Nat) : Int) = ((i + 1 : Nat) : Int) := wi (by omega)
          have hones := rowAV_ones (syM S n i)
          have hll : ((emb (syM S n i)).map rowAV).length = i := by rw [List.length_map, emb_length]; simp [syM]
          generalize hl : (emb (syM S n i)).map rowAV = l at *
          refine AW.seq_ex (ι := SyS) (fun s => [(3, .bool true), (4, matAV (emb S)), (6, s.rv), (7, .int .i64 (i : Nat))]) (fun s => s.M) (fun s => LstO s.M 42 1 s.rv s.rb ((emb (syM S n (i + 1))).map rowAV)) ?_ ?_
          · (repeat refine AW.seq ?_)
            refine AW.block ?_
            (repeat refine AW.seq_k fun K hK => ?_)
            refine AW.rg ?_
            simp
            try (refine hK _ rfl ?_; clear hK; clear K)
            refine AW.seq_ex (ι := SyS) (fun s => [(3, .bool true), (4, matAV (emb S)), (6, ov), (7, .int .i64 (i : Nat)), (8, s.rv)]) (fun s => s.M) (fun s => TwoL s.M ov ob l s.rv s.rb (rrs ((syRow S i n).map ofQ))) ?_ ?_
            · (repeat refine AW.seq_k fun K hK => ?_)
              refine AW.rg ?_
              simp
              try (refine hK _ rfl ?_; clear hK; clear K)
              refine AW.block (AW.loopS (ι := Nat × SyS) (fun z => [(3, .bool true), (4, matAV (emb S)), (6, ov), (7, .int .i64 (i : Nat)), (8, z.2.rv), (9, .int .i64 (z.1 : Nat))]) (fun z => z.2.M) (fun z => z.1 ≤ n ∧ TwoL z.2.M ov ob l z.2.rv z.2.rb (rrs ((syRow S i z.1).map ofQ))) (fun z => n - z.1) (0, ⟨M, .nil, []⟩) ⟨by simp, TwoL.start g2⟩ rfl (by simp) ?_)
              rintro ⟨k, M, rv, rb⟩ ⟨q1, q2⟩
              simp only at q1 q2
              simp only
              (repeat refine AW.seq_k fun K hK => ?_)
              refine AW.rg ?_
              simp [emb_length, hSl]
              try (refine hK _ rfl ?_; clear hK; clear K)
              (repeat refine AW.seq ?_)
              refine AW.cs (fun hk => ?_) (fun hk => ?_) rfl <;> (try simp at hk)
              · refine AW.skip ?_
                try simp
                refine hK _ rfl ?_
                clear hK
                clear K
                have w2 : IntKind.i64.wrap ((k + 1 : Nat) : Int) = ((k + 1 : Nat) : Int) := wi (by omega)
                have hmx : max i k < n := by omega
                have hmn : min i k < n := by omega
                have hiE : max i k < (emb S).length := by rw [emb_length, hSl]; exact hmx
                have hli : (mrow (emb S) (max i k)).length = n := by rw [emb_row, List.length_map]; exact (hG.row hmx).2
                have hjl : min i k < (mrow S (max i k)).length := by rw [(hG.row hmx).2]; exact hmn
                have e1 : rr (mrow (emb S) (max i k)) (min i k) = ofQ (qel S (max i k) (min i k)) := by rw [emb_row, rr_map hjl]; rfl
                have e2 : (if i < k then (k : Int) else (i : Int)) = ((max i k : Nat) : Int) := by split <;> omega
                have e3 : (if k < i then (k : Int) else (i : Int)) = ((min i k : Nat) : Int) := by split <;> omega
                refine AW.seq_ex (ι := SyS) (fun s => [(3, .bool true), (4, matAV (emb S)), (6, ov), (7, .int .i64 (i : Nat)), (8, s.rv), (9, .int .i64 (k : Nat))]) (fun s => s.M) (fun s => TwoL s.M ov ob l s.rv s.rb (rrs ((syRow S i (k + 1)).map ofQ))) ?_ ?_
                · (repeat refine AW.seq ?_)
                  refine AW.block ?_
                  have hfin : ∀ s : SyS, TwoL s.M ov ob l s.rv s.rb (rrs ((syRow S i k).map ofQ) ++ [(ofQ (qel S (max i k) (min i k))).av]) → TwoL s.M ov ob l s.rv s.rb (rrs ((syRow S i (k + 1)).map ofQ)) := by
                    intro s h2
                    rw [syRow_succ, List.map_append, List.map_singleton, rrs_snoc]
                    exact h2
                  have hl2 : (rrs ((syRow S i k).map ofQ)).length = k := by rw [rrs_length, List.length_map]; simp [syRow]
                  generalize rrs ((syRow S i k).map ofQ) = l2 at *
                  generalize max i k = mx at *
                  generalize min i k = mn at *
                  rcases q2.row with ⟨z1, z2, z3⟩ | ⟨b0, z2, z3, z4⟩
                  · subst z1 z2 z3
                    (repeat refine AW.seq_k fun K hK => ?_)
                    refine AW.rgR [50] ?_
                    simp [e2, e3, hiE, hli, hmn, e1]
                    try (refine hK _ rfl ?_; clear hK; clear K)
                    exact ⟨by unfold maxLen; omega, Fresh.intro fun b hb => ⟨⟨_, _, [b]⟩, hfin _ (q2.push0 hb _), rfl, rfl⟩⟩
                  · subst z2 z3
                    (repeat refine AW.seq_k fun K hK => ?_)
                    refine AW.rgR [50] ?_
                    simp [e2, e3, hiE, hli, hmn, e1, z4]
                    try (refine hK _ rfl ?_; clear hK; clear K)
                    exact ⟨by omega, by unfold maxLen; omega, Fresh.intro fun b hb => ⟨⟨_, _, [b]⟩, hfin _ (q2.push1 hb _), rfl, rfl⟩⟩
                rintro ⟨M, rv, rb⟩ hs
                (repeat refine AW.seq_k fun K hK => ?_)
                refine AW.rg ?_
                simp [-Int.natCast_add, w2]
                try (refine hK _ rfl ?_; clear hK; clear K)
                exact ⟨k + 1, ⟨M, rv, rb⟩, ⟨hk, hs⟩, by omega, by simp⟩
              · refine AW.exit ?_
                try simp
                have : k = n := by omega
                subst this
                exact ⟨⟨M, rv, rb⟩, q2, by simp⟩
            rintro ⟨M, rv, rb⟩ q2
            simp only at q2
            simp only
            obtain ⟨M', t1, t2, t3, t4⟩ := q2.done hones
            refine AW.turn [(3, .bool true), (4, matAV (emb S)), (6, ov), (7, .int .i64 (i : Nat)), (8, rowAV ((syRow S i n).map ofQ))] M' t1 ?_ ?_
            · simp
              exact t3
            have hfin : ∀ s : SyS, LstO s.M 42 1 s.rv s.rb (l ++ [rowAV ((syRow S i n).map ofQ)]) → LstO s.M 42 1 s.rv s.rb ((emb (syM S n (i + 1))).map rowAV) := by
              intro s h2
              rw [syM_succ, show (emb (syM S n i ++ [syRow S i n])).map rowAV = (emb (syM S n i)).map rowAV ++ [rowAV ((syRow S i n).map ofQ)] by simp [emb], hl]
              exact h2
            rcases t2.lst with ⟨z1, z2, z3⟩ | ⟨b0, z2, z3, z4⟩
            · subst z1 z2 z3
              (repeat refine AW.seq_k fun K hK => ?_)
              refine AW.rgR [54] ?_
              simp
              try (refine hK _ rfl ?_; clear hK; clear K)
              exact ⟨by unfold maxLen; omega, Fresh.intro fun b hb => ⟨⟨_, _, [b]⟩, hfin _ (t2.push0 b _), rfl, rfl⟩⟩
            · subst z2 z3
              (repeat refine AW.seq_k fun K hK => ?_)
              refine AW.rgR [54] ?_
              simp [z4]
              try (refine hK _ rfl ?_; clear hK; clear K)
              exact ⟨by omega, by unfold maxLen; omega, Fresh.intro fun b hb => ⟨⟨_, _, [b]⟩, hfin _ (t2.push1 b _), rfl, rfl⟩⟩
          rintro ⟨M, ov, ob⟩ hs
          (repeat refine AW.seq_k fun K hK => ?_)
          refine AW.rg ?_
          simp [-Int.natCast_add, w1]
          try (refine hK _ rfl ?_; clear hK; clear K)
          exact ⟨i + 1, ⟨M, ov, ob⟩, ⟨hi, hs⟩, by omega, by simp⟩
        · refine AW.exit ?_
          try simp
          have : i = n := by omega
          subst this
          exact ⟨⟨M, ov, ob⟩, g2, by simp⟩
      rintro ⟨M, ov, ob⟩ g2
      simp only at g2
      simp only
      have hv := g2.lst.view (M' := Mem.emp) (fun _ _ => rfl)
      refine AW.toEmp [(3, .bool true), (6, matAV (emb (syM S n n)))] (by simp; exact hv) ?_
      (repeat refine AW.seq_k fun K hK => ?_)
      refine AW.rg ?_
      simp
      try (refine hK _ rfl ?_; clear hK; clear K)
      refine CallK.val hs2 ?_
      simp
      refine hK _ rfl ?_
      clear hK
      clear K
      exact AW.ret (ret_views (vs := [.bool true]) [.bool true] (by simp) (by simp) ⟨rfl, rfl⟩)
  · refine AW.yes ?_ rfl
    (repeat refine AW.seq_k fun K hK => ?_)
    refine AW.rg ?_
    simp
    try (refine hK _ rfl ?_; clear hK; clear K)
    refine CallK.val hwk ?_
    simp
    refine hK _ rfl ?_
    clear hK
    clear K
    exact AW.ret (ret_views (vs := [.bool true]) [.bool true] (by simp) (by simp) ⟨rfl, rfl⟩)
end Go.Av
end
