/- A part of the proof. -/
import Derived.Test.YtkcdcfcojmlnnaaGreatP4
import Derived.ProofKit
import Derived.OpenShut
import Derived.Deep.Slices
set_option linter.all false
set_option exponentiation.threshold 5000
set_option maxRecDepth 10000
section
namespace Go.Av
open Go.Proofs
def OnesM (M : Mem) : Prop := ∀ b y, M b = some y → ∀ v ∈ y.l, v.cells.all AV.one = true
theorem OnesM.set {M : Mem} (h : OnesM M) (b : Nat) {y : Blk} (hy : ∀ v ∈ y.l, v.cells.all AV.one = true) : OnesM (M.set b y) := by
  intro c z hz
  simp only [set_at] at hz
  split at hz
  · cases hz; exact hy
  · exact h c z hz
theorem OnesM.del {M : Mem} (h : OnesM M) (b : Nat) : OnesM (M.del b) := by
  intro c z hz
  unfold Mem.del at hz
  split at hz
  · cases hz
  · exact h c z hz
structure SqS where
  l : List (List Rat)
  ws : List Rat
  fs : List (Option (List Rat))
  M : Mem
  x : AV
  ov : AV
  ob : List Nat
def wCells (ws : List Rat) : List AV := ws.map fun q => (ofQ q).av
def InvS (n : Nat) (l0 : List (List Rat)) (c B : Nat) (bs : List Nat) (by_ : Nat) (j : Nat) (s : SqS) : Prop :=
  sqIter n l0 j = .go s.l s.ws s.fs ∧ matGood n n s.l ∧ s.fs.length = n ∧ formsOk n s.fs ∧ s.ws.length ≤ j ∧ rowGood s.ws ∧ SqMem s.M c B bs (emb s.l) s.x by_ (fCells s.fs) s.ov s.ob (wCells s.ws) ∧ isE s.x 0 ∧ OnesM s.M
def sqAV (r : SqR) : AV := .tup [rowAV (r.ws.map ofQ), matAV (emb r.fs), rowAV (r.v.map ofQ), .int .i64 r.e]
theorem sqIter_go {n : Nat} {l0 : List (List Rat)} {j : Nat} {l ws fs} (h : sqIter n l0 j = .go l ws fs) : sqIter n l0 (j + 1) = sqStep n j l ws fs := by
  show (match sqIter n l0 j with | .go l' ws fs => sqStep n j l' ws fs | r => r) = _
  rw [h]
theorem sqIter_err {n : Nat} {l0 : List (List Rat)} {j : Nat} (h : sqIter n l0 j = .err) : ∀ k, sqIter n l0 (j + k) = .err
  | 0 => h
  | k + 1 => by
    show (match sqIter n l0 (j + k) with | .go l' ws fs => sqStep n (j + k) l' ws fs | r => r) = _
    rw [sqIter_err h k]
theorem sqIter_vec {n : Nat} {l0 : List (List Rat)} {j : Nat} {v} (h : sqIter n l0 j = .vec v) : ∀ k, sqIter n l0 (j + k) = .vec v
  | 0 => h
  | k + 1 => by
    show (match sqIter n l0 (j + k) with | .go l' ws fs => sqStep n (j + k) l' ws fs | r => r) = _
    rw [sqIter_vec h k]
theorem sqOut_err {n : Nat} {l0 : List (List Rat)} {j : Nat} (h : sqIter n l0 j = .err) (hj : j ≤ n) : sqOut (sqIter n l0 n) = ⟨2, [], [], []⟩ := by
  have := sqIter_err h (n - j)
  rw [Nat.add_sub_cancel' hj] at this
  rw [this]; rfl
theorem sqOut_vec {n : Nat} {l0 : List (List Rat)} {j : Nat} {v} (h : sqIter n l0 j = .vec v) (hj : j ≤ n) : sqOut (sqIter n l0 n) = ⟨0, [], [], v⟩ := by
  have := sqIter_vec h (n - j)
  rw [Nat.add_sub_cancel' hj] at this
  rw [this]; rfl
theorem short_good {q : Rat} (h : Good q) : (ofQ q).l1.length < 2^40 ∧ (ofQ q).l2.length < 2^40 := by
  have h1 := dig_128 h.1
  have h2 := dig_128 h.2
  exact ⟨Nat.lt_of_le_of_lt h1 (by omega), Nat.lt_of_le_of_lt h2 (by omega)⟩
theorem fCells_ones (fs : List (Option (List Rat))) : ∀ v ∈ fCells fs, v.cells.all AV.one = true := by
  intro u hu
  obtain ⟨f, _, rfl⟩ := List.mem_map.1 hu
  cases f <;> rfl
theorem lowOut_vec {M : Mem} {c n j : Nat} {l : List (List Rat)} {v : AV} {M' : Mem} (h : ¬ lowQ n j l = some none) (ho : lowOut M c n j l v M') : ∃ bv w x' e', v = .osl bv 4 0 n ∧ M bv = none ∧ M' = (M.set c ⟨61, 1, [x']⟩).set bv ⟨36, 4, rrs w⟩ ∧ isE x' e' ∧ w.length = n ∧ (∀ y ∈ w, y.Lb) ∧ VMode e' w ((lowQ n j l).bind id) := by
  unfold lowOut at ho
  cases hq : lowQ n j l with
  | none => rw [hq] at ho; exact ho
  | some o =>
    cases o with
    | none => exact absurd hq h
    | some w => rw [hq] at ho; exact ho
theorem only_ext {m : Mem} {c bv by_ : Nat} {x : AV} {w : List RR} {fs : List (Option (List Rat))} (hc : m c = some ⟨61, 1, [x]⟩) (hb : m bv = some ⟨36, 4, rrs w⟩) (hy : m by_ = some ⟨42, 1, fCells fs⟩) (h1 : c ≠ bv) (h2 : c ≠ by_) (h3 : bv ≠ by_) : m.only [c, bv, by_] = extM c bv by_ x w fs := by
  funext k
  unfold extM
  simp only [set_at, emp_at]
  by_cases k1 : k = by_
  · subst k1; rw [only_in (by simp), if_pos rfl, hy]
  · rw [if_neg k1]
    by_cases k2 : k = bv
    · subst k2; rw [only_in (by simp), if_pos rfl, hb]
    · rw [if_neg k2]
      by_cases k3 : k = c
      · subst k3; rw [only_in (by simp), if_pos rfl, hc]
      · rw [if_neg k3, only_out (by simp [k1, k2, k3])]
/-- The forms that are there. -/
def fsL (fs : List (Option (List Rat))) (i : Nat) : List AV := (emb ((fs.take i).filterMap id)).map rowAV
theorem fsL_succ {fs : List (Option (List Rat))} {i : Nat} (h : i < fs.length) : fsL fs (i + 1) = match fs.getD i none with
    | none => fsL fs i
    | some f => fsL fs i ++ [rowAV (f.map ofQ)] := by
  have e : fs.getD i none = fs[i] := by rw [List.getD_eq_getElem?_getD, List.getElem?_eq_getElem h]; rfl
  rw [e]
  unfold fsL
  rw [List.take_add_one, List.getElem?_eq_getElem h, List.filterMap_append]
  cases fs[i] with
  | none => simp
  | some f => simp [emb]
def lvO (o : Option Nat) (l : List AV) : AV := match o with
  | none => .nil
  | some b => .osl b 1 0 l.length
def lmO (o : Option Nat) (l : List AV) : Mem := match o with
  | none => Mem.emp
  | some b => Mem.emp.set b ⟨42, 1, l⟩
theorem fsL_ones {fs : List (Option (List Rat))} {i : Nat} : ∀ v ∈ fsL fs i, v.cells.all AV.one = true := by
  intro v hv
  obtain ⟨r, _, rfl⟩ := List.mem_map.1 hv
  rfl
theorem fsL_length (fs : List (Option (List Rat))) (i : Nat) : (fsL fs i).length ≤ i := by
  unfold fsL
  rw [List.length_map, emb_length]
  exact Nat.le_trans (List.length_filterMap_le _ _) (by simp; omega)
theorem lmO_ones {fs : List (Option (List Rat))} {i : Nat} {o : Option Nat} : ∀ b y, lmO o (fsL fs i) b = some y → ∀ v ∈ y.l, v.cells.all AV.one = true := by
  intro b y hy
  cases o with
  | none => cases hy
  | some b0 =>
    simp only [lmO, set_at, emp_at] at hy
    split at hy
    · cases hy; exact fsL_ones
    · cases hy
theorem recast_push {m : Mem} {b b' n : Nat} {l : List AV} {r : List RR} (h1 : m b' = some ⟨42, 1, l ++ [.osl b 4 0 n]⟩) (h2 : m b = some ⟨36, 4, rrs r⟩) (hne : b ≠ b') (hn : r.length = n) (hl : ∀ v ∈ l, v.cells.all AV.one = true) : Recast m (Mem.emp.set b' ⟨42, 1, l ++ [rowAV r]⟩) := by
  refine ⟨fun k y hy => ?_⟩
  simp only [set_at, emp_at] at hy
  split at hy
  · rename_i e
    cases hy
    refine ⟨⟨42, 1, l ++ [.osl b 4 0 n]⟩, by rw [e]; exact h1, rfl, rfl, by simp, fun i v v' q1 q2 => ?_⟩
    rw [List.getElem?_append] at q1 q2
    split at q1
    · rw [if_pos (by assumption)] at q2
      rw [q1] at q2
      cases q2
      exact ⟨.same _, hl v (List.mem_of_getElem? q1)⟩
    · rw [if_neg (by assumption)] at q2
      cases hi : i - l.length with
      | zero =>
        rw [hi] at q1 q2
        cases q1
        cases q2
        refine ⟨view_row h2 ?_ hn, rfl⟩
        simp [hne]
      | succ k => rw [hi] at q1; cases q1
  · cases hy
theorem back_gset {m g : Mem} {l : List Nat} {b : Nat} (x : Blk) : m.back l (g.set b x) = (m.back l g).set b x := by
  funext k
  unfold Mem.back
  simp only [set_at]
  by_cases hk : k = b
  · subst hk; simp
  · rw [if_neg hk, if_neg hk]
theorem back_ones {m g : Mem} {l : List Nat} (h1 : ∀ b y, m b = some y → ∀ v ∈ y.l, v.cells.all AV.one = true) (h2 : ∀ b y, g b = some y → ∀ v ∈ y.l, v.cells.all AV.one = true) : ∀ b y, m.back l g b = some y → ∀ v ∈ y.l, v.cells.all AV.one = true := by
  intro b y hy
  unfold Mem.back at hy
  cases hg : g b with
  | some z => rw [hg] at hy; exact h2 b y (hg.trans hy)
  | none =>
    rw [hg] at hy
    simp only at hy
    split at hy
    · cases hy
    · exact h1 b y hy
set_option maxHeartbeats 2000000
theorem squaresL_call (m : List (List RR)) (hm : LbM m) : ACall Tryz.prog 31 [matAV m] Mem.emp fun v mm => v = sqAV (sqR m) ∧ mm = Mem.emp := by
  have hck := check_call m hm
  by_cases h0 : chk m = 0
  · obtain ⟨h1, h2, h3, h4, h5⟩ := chk_emb hm h0
    have hRy : (m.length = (mrow m 0).length ∧ symm (unq m) m.length) → sqR m = sqOut (sqIter m.length (unq m) m.length) := fun h => by unfold sqR; rw [if_neg (by simp [h0]), if_pos h]
    have hRn : ¬ (m.length = (mrow m 0).length ∧ symm (unq m) m.length) → sqR m = ⟨1, [], [], []⟩ := fun h => by unfold sqR; rw [if_neg (by simp [h0]), if_neg h]
    have hlen := unq_length m
    have hsy := symmetric_call (unq m) m.length ⟨h2, h3, hlen⟩ h4 h5
    rw [h0] at hck
    have hw0 : (mrow (unq m) 0).length = (mrow m 0).length := by rw [unq_row, List.length_map]
    have hcl := clone_call m (by rw [h1]; exact short_emb h2) (by omega) (fun r hr => by
      obtain ⟨i, hi, rfl⟩ := mem_row hr
      have := h3 i (by rw [hlen]; exact hi)
      rw [unq_row, List.length_map] at this
      omega)
    rw [← h1, hw0] at hsy
    rw [hw0] at h3 h5
    clear hw0
    generalize unq m = l0 at *
    generalize hn : m.length = n at *
    refine acall_S Tryz.func31 rfl rfl 110 rfl (Nat.le_of_ble_eq_true rfl) ?_
    (repeat refine AW.seq_k fun K hK => ?_); refine AW.rg ?_; simp [argsL]; try (refine hK _ rfl ?_; clear hK; clear K)
    (repeat refine AW.seq_k fun K hK => ?_); refine AW.rg ?_; simp; try (refine hK _ rfl ?_; clear hK; clear K)
    refine CallK.val hck ?_; simp; refine hK _ rfl ?_; clear hK; clear K; (repeat refine AW.seq_k fun K hK => ?_); refine AW.rg ?_; simp; try (refine hK _ rfl ?_; clear hK; clear K)
    refine AW.no ?_ rfl; refine AW.skip ?_; try simp
    refine hK _ rfl ?_; clear hK; clear K; (repeat refine AW.seq_k fun K hK => ?_); refine AW.rg ?_; simp; try (refine hK _ rfl ?_; clear hK; clear K)
    refine CallK.pure (R := fun v => ∃ t, v = .bool t ∧ (t = true ↔ n = (mrow m 0).length ∧ symm l0 n)) (hsy.mono fun v mm ⟨t, q1, q2, q3⟩ => ⟨⟨t, q1, q2⟩, q3⟩) ?_
    rintro _ ⟨t, rfl, ht⟩
    simp; refine hK _ rfl ?_; clear hK; clear K
    cases t
    · refine AW.yes ?_ rfl; rw [hRn (fun h => by have := ht.2 h; cases this)]; (repeat refine AW.seq_k fun K hK => ?_); refine AW.rg ?_; simp; try (refine hK _ rfl ?_; clear hK; clear K)
      exact AW.ret (ret_views [rowAV [], matAV [], rowAV [], .int .i64 1] rfl ⟨.nilsl 4, .nilsl 1, .nilsl 4, .same _, trivial⟩ ⟨rfl, rfl⟩)
    · refine AW.no ?_ rfl; refine AW.skip ?_; try simp
      refine hK _ rfl ?_; clear hK; clear K
      obtain ⟨hsq, hsym⟩ := ht.1 rfl
      rw [hRy ⟨hsq, hsym⟩]
      clear hRy hRn
      rw [← hsq] at h3 h5
      clear ht hsy hck
      have hX0 : matGood n n l0 := ⟨h2, h3, hlen⟩
      rw [h1] at hcl ⊢
      clear h1 h2 h3 hlen hsym hm h0 hsq hn
      (repeat refine AW.seq_k fun K hK => ?_); refine AW.rg ?_; simp; try (refine hK _ rfl ?_; clear hK; clear K)
      refine Fresh.intro fun c hc => ?_
      refine hK _ rfl ?_; clear hK; clear K; (repeat refine AW.seq_k fun K hK => ?_); refine AW.rg ?_; simp; try (refine hK _ rfl ?_; clear hK; clear K)
      refine CallK.news hcl ?_
      rintro _ g ⟨B, bs, rfl, g1, g2⟩ hf
      have hM := RedM.start g1 g2 (c := c) (x := .agg [.int .i64 0]) (fun b hb => (hf b hb).1)
      clear g1 g2 hf hc
      generalize (Mem.emp.set c ⟨61, 1, [.agg [.int .i64 0]]⟩).back [] g = M0 at *
      simp; refine hK _ rfl ?_; clear hK; clear K; (repeat refine AW.seq_k fun K hK => ?_); refine AW.rg ?_; simp; try (refine hK _ rfl ?_; clear hK; clear K)
      refine ⟨by omega, Fresh.intro fun by_ hby => ?_⟩
      refine hK _ rfl ?_; clear hK; clear K
      have hS0 := SqMem.start (fs := List.replicate n .nil) hM hby
      refine AW.seq_ex (ι := SqS) (fun s => [(3, .nil), (9, .osl by_ 1 0 n), (2, s.ov)]) (fun s => s.M) (fun s => InvS n l0 c B bs by_ n s) ?_ ?_
      · (repeat refine AW.seq_k fun K hK => ?_); refine AW.rg ?_; simp; try (refine hK _ rfl ?_; clear hK; clear K)
        refine AW.block (AW.loopS (ι := Nat × SqS) (fun z => [(3, .nil), (7, .ptr c 1 0 0), (8, .osl B 1 0 n), (9, .osl by_ 1 0 n), (2, z.2.ov), (30, .int .i64 n), (31, .int .i64 (z.1 : Nat))]) (fun z => z.2.M) (fun z => z.1 ≤ n ∧ InvS n l0 c B bs by_ z.1 z.2) (fun z => n - z.1) (0, ⟨l0, [], List.replicate n none, _, .agg [.int .i64 0], .nil, []⟩) ⟨by simp, rfl, hX0, by simp, ?_, by simp, (fun q hq => by cases hq), ?_, rfl, ?_⟩ rfl (by simp) ?_)
        · intro i f hfi
          rw [List.getD_eq_getElem?_getD, List.getElem?_replicate] at hfi
          split at hfi <;> cases hfi
        · rw [show fCells (List.replicate n none) = List.replicate n .nil by simp [fCells, fCell]]
          exact hS0
        · exact OnesM.set (hM.ones (e := 0) rfl) by_ (fun v hv => by simp at hv; rw [hv.2]; rfl)
        rintro ⟨j, l, ws, fs, M, x, ov, ob⟩ ⟨i0, i1, i2, i3, i4, i5, i6, i7, i8, i9⟩
        simp only at i0 i1 i2 i3 i4 i5 i6 i7 i8 i9; (repeat refine AW.seq_k fun K hK => ?_); refine AW.rg ?_; simp; try (refine hK _ rfl ?_; clear hK; clear K)
        (repeat refine AW.seq ?_)
        refine AW.cs (fun hj => ?_) (fun hj => ?_) rfl <;> (try simp at hj)
        · refine AW.skip ?_; try simp
          have w1 : IntKind.i64.wrap ((j + 1 : Nat) : Int) = ((j + 1 : Nat) : Int) := wi (by omega)
          have hjE : j < (emb l).length := by rw [emb_length, i2.2.2]; exact hj
          have hlE : (mrow (emb l) j).length = n := by rw [emb_row, List.length_map]; exact (i2.row hj).2
          have hlj : j < (mrow l j).length := by rw [(i2.row hj).2]; exact hj
          have ej : rr (mrow (emb l) j) j = ofQ (qel l j j) := by rw [emb_row, rr_map hlj]; rfl
          have gj : Good (qel l j j) := i2.1.at hlj
          have hsg := rsign_call (ofQ (qel l j j)) (ofQ_lb _)
          rw [signR_ofQ gj] at hsg
          have hsh := short_good gj
          have how := own_call (ofQ (qel l j j)) hsh.1 hsh.2
          have hgo := sqIter_go i1
          have hTop := i7.top
          have hRow := i7.row hjE
          have hGet := i7.red.mat.get hjE
          refine AW.seq_ex (ι := SqS) (fun s => [(3, .nil), (7, .ptr c 1 0 0), (8, .osl B 1 0 n), (9, .osl by_ 1 0 n), (2, s.ov), (30, .int .i64 n), (31, .int .i64 (j : Nat))]) (fun s => s.M) (fun s => InvS n l0 c B bs by_ (j + 1) s) ?_ ?_
          · (repeat refine AW.seq ?_); refine AW.block ?_; (repeat refine AW.seq_k fun K hK => ?_); refine AW.rg ?_; simp; try (refine hK _ rfl ?_; clear hK; clear K)
            refine AW.seq_ex (ι := Unit) (fun _ => [(3, .nil), (7, .ptr c 1 0 0), (8, .osl B 1 0 n), (9, .osl by_ 1 0 n), (30, .int .i64 n), (31, .int .i64 (j : Nat)), (10, .int .i64 (j : Nat)), (2, ov)]) (fun _ => M) (fun _ => ¬ 0 < signQ (qel l j j)) ?_ ?_
            · (repeat refine AW.seq_k fun K hK => ?_); refine AW.rg ?_; simp [hj, hTop, ↓hGet, hRow, hlE, ej]; try (refine hK _ rfl ?_; clear hK; clear K)
              refine CallK.val hsg ?_; simp; refine hK _ rfl ?_; clear hK; clear K; (repeat refine AW.seq ?_)
              refine AW.cs (fun hpos => ?_) (fun hpos => ?_) rfl <;> (try simp at hpos)
              · have hd : qel l j j ≠ 0 := by
                  intro h
                  rw [h] at hpos
                  simp [signQ] at hpos
                have hst : sqIter n l0 (j + 1) = match splitQ n j l with
                    | none => .err
                    | some z => .go z.2 (ws ++ [qel l j j]) (fs.set j (some z.1)) := by
                  rw [hgo]; unfold sqStep; rw [if_pos hpos] <;> rfl
                refine AW.seq_ex (ι := Mem × Nat) (fun z => [(3, .nil), (7, .ptr c 1 0 0), (8, .osl B 1 0 n), (9, .osl by_ 1 0 n), (30, .int .i64 n), (31, .int .i64 (j : Nat)), (10, .int .i64 (j : Nat)), (2, .osl z.2 4 0 (ws.length + 1))]) (fun z => z.1) (fun z => SqMem z.1 c B bs (emb l) x by_ (fCells fs) (.osl z.2 4 0 (ws.length + 1)) [z.2] (wCells (ws ++ [qel l j j])) ∧ OnesM z.1) ?_ ?_
                · rcases i7.lst with ⟨z1, z2, z3⟩ | ⟨b0, z2, z3, z4⟩
                  · have hws : ws = [] := by
                      unfold wCells at z1
                      simpa using z1
                    subst hws z2 z3; (repeat refine AW.seq_k fun K hK => ?_)
                    refine AW.rgR [52] ?_
                    simp [hj, hTop, ↓hGet, hRow, hlE, ej]; try (refine hK _ rfl ?_; clear hK; clear K)
                    refine CallK.val how ?_; simp
                    exact ⟨by unfold maxLen; omega, Fresh.intro fun b hb => ⟨i7.push0 hb _, i9.set b (fun v hv => by simp at hv; subst hv; rfl)⟩⟩
                  · subst z2 z3
                    have hwl : (wCells ws).length = ws.length := by simp [wCells]
                    (repeat refine AW.seq_k fun K hK => ?_)
                    refine AW.rgR [52] ?_
                    simp [hj, hTop, ↓hGet, hRow, hlE, ej, z4, hwl]; try (refine hK _ rfl ?_; clear hK; clear K)
                    refine CallK.val how ?_; simp [z4, hwl]
                    have hq : wCells (ws ++ [qel l j j]) = wCells ws ++ [(ofQ (qel l j j)).av] := by simp [wCells]
                    refine ⟨by omega, by unfold maxLen; omega, Fresh.intro fun b hb => ⟨?_, (i9.del b0).set b (fun v hv => ?_)⟩⟩
                    · have := i7.push1 hb (ofQ (qel l j j)).av
                      rw [hwl] at this
                      rw [hq]; exact this
                    · rcases List.mem_append.1 hv with h | h
                      · obtain ⟨q, _, rfl⟩ := List.mem_map.1 h
                        rfl
                      · simp at h; subst h; rfl
                rintro ⟨M1, bw⟩ ⟨k1, k2⟩
                simp only at k1 k2
                have hp := split_call _ c B bs l x n j k1.red i8 i2 hj (by omega) hd
                (repeat refine AW.seq_k fun K hK => ?_); refine AW.rg ?_; simp; try (refine hK _ rfl ?_; clear hK; clear K)
                refine CallK.hand (c :: B :: bs) (by simp) hp ?_
                rintro v g ⟨bv, M2, form, rows', x', e', rfl, rfl, r1, r2, r3, r4, r5, r6⟩ hf
                have hbv : bv ∉ c :: B :: bs := by
                  obtain ⟨f1, f2, f3, _⟩ := r1.fresh r2
                  simp [f1, f2, f3]
                have hbM : M1 bv = none := by
                  rcases hf bv (by simp) with h | h
                  · exact absurd h hbv
                  · exact h.1
                rw [back_gset]
                have k3 := k1.back r1
                have k4 := back_ones (l := c :: B :: bs) k2 (r1.ones r3)
                have k5 : (M1.back (c :: B :: bs) M2) bv = none := by rw [back_out r2 hbv]; exact hbM
                clear hf hp
                generalize M1.back (c :: B :: bs) M2 = M3 at *
                have hbb : by_ ≠ bv := by rintro rfl; rw [k3.by'] at k5; cases k5
                have hfl := fCells_length fs
                have hxe : x'.cells = [.int .i64 e'] := r3
                simp [hj, hbb, k3.by', hfl, i3]; refine hK _ rfl ?_; clear hK; clear K
                have k6 := k3.store (form := form) r3 k5 r4 (fCells_ones fs) k4 (j := j) (by rw [hfl, i3]; exact hj)
                refine AW.turn [(3, .nil), (7, .ptr c 1 0 0), (8, .osl B 1 0 n), (9, .osl by_ 1 0 n), (30, .int .i64 n), (31, .int .i64 (j : Nat)), (10, .int .i64 (j : Nat)), (2, .osl bw 4 0 (ws.length + 1))] (M3.set by_ ⟨42, 1, (fCells fs).set j (rowAV form)⟩) k6 (by simp) ?_
                have k7 := k3.setBy ((fCells fs).set j (rowAV form))
                have k8 : ∀ b y, (M3.set by_ ⟨42, 1, (fCells fs).set j (rowAV form)⟩) b = some y → ∀ v ∈ y.l, v.cells.all AV.one = true := by
                  intro b y hy
                  simp only [set_at] at hy
                  split at hy
                  · cases hy
                    intro u hu
                    rcases List.mem_or_eq_of_mem_set hu with h | rfl
                    · exact fCells_ones fs u h
                    · rfl
                  · exact k4 b y hy
                clear k6 k3 k4 k5
                generalize M3.set by_ ⟨42, 1, (fCells fs).set j (rowAV form)⟩ = M4 at *
                cases hsp : splitQ n j l with
                | none =>
                  rw [hsp] at r6 hst
                  replace r6 : e' = 2 := r6
                  subst r6; rw [sqOut_err hst (by omega)]; (repeat refine AW.seq_k fun K hK => ?_); refine AW.rg ?_; simp [k7.cell, hxe]; try (refine hK _ rfl ?_; clear hK; clear K)
                  refine AW.yes ?_ rfl; (repeat refine AW.seq_k fun K hK => ?_)
                  refine AW.rdA c [0, 1, 2, 3, 4, 5, 6, 7] mix (by simp [k7.cell, hxe]) ?_
                  simp [k7.cell, hxe]; try (refine hK _ rfl ?_; clear hK; clear K)
                  exact AW.ret (ret_views [rowAV [], matAV [], rowAV [], .int .i64 2] rfl ⟨.nilsl 4, .nilsl 1, .nilsl 4, .same _, trivial⟩ ⟨rfl, rfl⟩)
                | some z =>
                  rw [hsp] at r6 hst
                  obtain ⟨rfl, rfl, s3, rfl, s5⟩ : e' = 0 ∧ form = z.1.map ofQ ∧ rowGood z.1 ∧ rows' = emb z.2 ∧ matGood n n z.2 := r6
                  (repeat refine AW.seq_k fun K hK => ?_); refine AW.rg ?_; simp [k7.cell, hxe]; try (refine hK _ rfl ?_; clear hK; clear K)
                  refine AW.no ?_ rfl; refine AW.skip ?_; try simp
                  refine hK _ rfl ?_; clear hK; clear K
                  refine AW.exit ?_
                  try simp
                  refine ⟨⟨z.2, ws ++ [qel l j j], fs.set j (some z.1), M4, x', .osl bw 4 0 (ws.length + 1), [bw]⟩, ⟨hst, s5, by rw [List.length_set]; exact i3, ?_, by simp; omega, ?_, ?_, r3, k8⟩, by simp⟩
                  · intro i f hfi
                    rw [List.getD_eq_getElem?_getD, List.getElem?_set] at hfi
                    by_cases hij : j = i
                    · rw [if_pos hij] at hfi
                      split at hfi
                      · cases hfi
                        refine ⟨s3, ?_⟩
                        rw [List.length_map] at r4; exact r4
                      · cases hfi
                    · rw [if_neg hij, ← List.getD_eq_getElem?_getD] at hfi
                      exact i4 i f hfi
                  · intro q hq
                    rcases List.mem_append.1 hq with h | h
                    · exact i6 q h
                    · simp at h; subst h; exact gj
                  · rw [show fCells (fs.set j (some z.1)) = (fCells fs).set j (rowAV (z.1.map ofQ)) by unfold fCells; rw [List.map_set]; rfl]
                    exact k7
              · refine AW.skip ?_; try simp
                exact hpos
            rintro _ hpos
            have hlo := low_call _ c B bs l x n j i7.red i8 i2 hj (by omega)
            have hst : sqIter n l0 (j + 1) = match lowQ n j l with
                | none => .err
                | some none => .go l ws fs
                | some (some v) => match extQ fs n j v with
                  | none => .err
                  | some v' => .vec v' := by
              rw [hgo]; unfold sqStep; rw [if_neg hpos] <;> rfl
            have hxe : x.cells = [.int .i64 0] := i8
            (repeat refine AW.seq_k fun K hK => ?_); refine AW.rg ?_; simp; try (refine hK _ rfl ?_; clear hK; clear K)
            refine CallK.hand (c :: B :: bs) (by simp) hlo ?_
            intro v g hv hf
            by_cases hln : lowQ n j l = some none
            · unfold lowOut at hv
              rw [hln] at hv hst
              obtain ⟨rfl, rfl⟩ := hv
              rw [back_only]; simp; refine hK _ rfl ?_; clear hK; clear K; (repeat refine AW.seq_k fun K hK => ?_); refine AW.rg ?_; simp; try (refine hK _ rfl ?_; clear hK; clear K)
              refine AW.no ?_ rfl; refine AW.skip ?_; try simp
              refine hK _ rfl ?_; clear hK; clear K; (repeat refine AW.seq_k fun K hK => ?_); refine AW.rg ?_; simp [i7.cell, hxe]; try (refine hK _ rfl ?_; clear hK; clear K)
              refine AW.no ?_ rfl; refine AW.skip ?_; try simp
              refine hK _ rfl ?_; clear hK; clear K; (repeat refine AW.seq_k fun K hK => ?_); refine AW.rg ?_; simp; try (refine hK _ rfl ?_; clear hK; clear K)
              refine AW.no ?_ rfl; refine AW.skip ?_; try simp
              exact ⟨⟨l, ws, fs, M, x, ov, ob⟩, ⟨hst, i2, i3, i4, by show ws.length ≤ j + 1; omega, i6, i7, i8, i9⟩, rfl, rfl⟩
            · obtain ⟨bv, w, x', e', rfl, q1, rfl, q3, q4, q5, q6⟩ := lowOut_vec hln hv
              have hst2 : sqIter n l0 (j + 1) = match ((lowQ n j l).bind id).bind (extQ fs n j) with
                  | none => .err
                  | some v' => .vec v' := by
                rw [hst]
                cases hlq : lowQ n j l with
                | none => rfl
                | some o =>
                  cases o with
                  | none => exact absurd hlq hln
                  | some v => rfl
              have hbM : M bv = none := by
                by_cases hm : bv ∈ c :: B :: bs
                · rw [only_in hm] at q1; exact q1
                · rcases hf bv (by simp) with h | h
                  · exact absurd h hm
                  · exact h.1
              have hbc : bv ≠ c := by rintro rfl; rw [i7.cell] at hbM; cases hbM
              have hbb : bv ≠ by_ := by rintro rfl; rw [i7.by'] at hbM; cases hbM
              have hcb : c ≠ by_ := fun h => i7.nby (by simp [h])
              rw [back_gset, back_gset, back_only]; simp; refine hK _ rfl ?_; clear hK; clear K
              refine AW.seq_ex (ι := AV × Int × List RR × Mem) (fun z => [(3, .nil), (7, .ptr c 1 0 0), (8, .osl B 1 0 n), (9, .osl by_ 1 0 n), (30, .int .i64 n), (31, .int .i64 (j : Nat)), (10, .int .i64 (j : Nat)), (2, ov), (11, .osl bv 4 0 n)]) (fun z => z.2.2.2) (fun z => isE z.1 z.2.1 ∧ z.2.2.1.length = n ∧ z.2.2.2 c = some ⟨61, 1, [z.1]⟩ ∧ z.2.2.2 bv = some ⟨36, 4, rrs z.2.2.1⟩ ∧ VMode z.2.1 z.2.2.1 (((lowQ n j l).bind id).bind (extQ fs n j))) ?_ ?_
              · (repeat refine AW.seq_k fun K hK => ?_); refine AW.rg ?_; simp; try (refine hK _ rfl ?_; clear hK; clear K)
                refine AW.yes ?_ rfl
                have hex := extend_call c bv by_ x' e' w _ fs n j (Ne.symm hbc) hcb hbb q3 q4 q5 q6 i3 i4 hj (by omega)
                rw [← only_ext (m := (M.set c ⟨61, 1, [x']⟩).set bv ⟨36, 4, rrs w⟩) (by simp [Ne.symm hbc]) (by simp) (by simp [Ne.symm hbb, Ne.symm hcb, i7.by']) (Ne.symm hbc) hcb hbb] at hex
                (repeat refine AW.seq_k fun K hK => ?_); refine AW.rg ?_; simp; try (refine hK _ rfl ?_; clear hK; clear K)
                refine CallK.hand [c, bv, by_] (by simp) hex ?_
                rintro v g ⟨x2, e2, v2, rfl, rfl, s1, s2, s3, s4⟩ _
                simp
                refine ⟨x2, e2, s1, v2, s2, back_some ?_, back_some ?_, s4⟩
                · unfold extM; simp [Ne.symm hbc, hcb]
                · unfold extM; simp [hbb]
              clear hf
              rintro ⟨x2, e2, v2, M2⟩ ⟨t1, t2, t3, t4, t5⟩
              simp only at t1 t2 t3 t4 t5
              have hx2 : x2.cells = [.int .i64 e2] := t1
              (repeat refine AW.seq_k fun K hK => ?_); refine AW.rg ?_; simp [t3, hx2]; try (refine hK _ rfl ?_; clear hK; clear K)
              cases hZ : ((lowQ n j l).bind id).bind (extQ fs n j) with
              | none =>
                rw [hZ] at t5 hst2
                replace t5 : e2 = 2 := t5
                subst t5; rw [sqOut_err hst2 (by omega)]; refine AW.yes ?_ rfl; (repeat refine AW.seq_k fun K hK => ?_)
                refine AW.rdA c [0, 1, 2, 3, 4, 5, 6, 7] mix (by simp [t3, hx2]) ?_
                simp [t3, hx2]; try (refine hK _ rfl ?_; clear hK; clear K)
                exact AW.ret (ret_views [rowAV [], matAV [], rowAV [], .int .i64 2] rfl ⟨.nilsl 4, .nilsl 1, .nilsl 4, .same _, trivial⟩ ⟨rfl, rfl⟩)
              | some v' =>
                rw [hZ] at t5 hst2
                obtain ⟨rfl, rfl, t7⟩ : e2 = 0 ∧ v2 = v'.map ofQ ∧ rowGood v' := t5
                refine AW.no ?_ rfl; refine AW.skip ?_; try simp
                refine hK _ rfl ?_; clear hK; clear K; (repeat refine AW.seq_k fun K hK => ?_); refine AW.rg ?_; simp; try (refine hK _ rfl ?_; clear hK; clear K)
                refine AW.yes ?_ rfl; (repeat refine AW.seq_k fun K hK => ?_); refine AW.rg ?_; simp; try (refine hK _ rfl ?_; clear hK; clear K)
                rw [sqOut_vec hst2 (by omega)]
                exact AW.ret (ret_views [rowAV [], matAV [], rowAV (v'.map ofQ), .int .i64 0] rfl ⟨.nilsl 4, .nilsl 1, view_row t4 rfl t2, .same _, trivial⟩ ⟨rfl, rfl⟩)
          rintro ⟨l, ws, fs, M, x, ov, ob⟩ hs
          (repeat refine AW.seq_k fun K hK => ?_); refine AW.rg ?_; simp [-Int.natCast_add, w1]; try (refine hK _ rfl ?_; clear hK; clear K)
          exact ⟨j + 1, ⟨l, ws, fs, M, x, ov, ob⟩, ⟨hj, hs⟩, by omega, by simp⟩
        · refine AW.exit ?_
          try simp
          have : j = n := by omega
          subst this
          exact ⟨⟨l, ws, fs, M, x, ov, ob⟩, ⟨i1, i2, i3, i4, i5, i6, i7, i8, i9⟩, by simp⟩
      rintro ⟨l, ws, fs, M, x, ov, ob⟩ ⟨i1, i2, i3, i4, i5, i6, i7, i8, i9⟩
      simp only at i1 i2 i3 i4 i5 i6 i7 i8 i9; rw [i1]
      have hvw := i7.lst.view (M' := Mem.emp) (fun _ _ => rfl)
      have hvb : View M Mem.emp (.osl by_ 1 0 n) (.sl 1 (fCells fs)) := by
        refine .osl by_ 1 0 n _ _ i7.by' rfl rfl (by rw [fCells_length, i3]) (by simp [fCells_length, i3]) fun a u u' g1 g2 => ?_
        simp only [Nat.zero_add] at g1
        rw [g1] at g2
        cases g2
        exact .same _
      refine AW.toEmp [(2, .sl 4 (wCells ws)), (3, .nil), (9, .sl 1 (fCells fs))] (by simp; exact ⟨hvw, hvb⟩) ?_
      have hfl := fCells_length fs
      clear i1 i2 i7 i8 i9 hvw hvb
      have hsn : ∀ i, i < n → fsL fs (i + 1) = match fs.getD i none with
          | none => fsL fs i
          | some f => fsL fs i ++ [rowAV (f.map ofQ)] := fun i hi => fsL_succ (by omega)
      refine AW.seq_ex (ι := Option Nat) (fun o => [(2, .sl 4 (wCells ws)), (3, lvO o (fsL fs n))]) (fun o => lmO o (fsL fs n)) (fun o => o = none → fsL fs n = []) ?_ ?_
      · (repeat refine AW.seq_k fun K hK => ?_); refine AW.rg ?_; simp [hfl, i3]; try (refine hK _ rfl ?_; clear hK; clear K)
        refine AW.block (AW.loopS (ι := Nat × Option Nat) (fun z => [(2, .sl 4 (wCells ws)), (94, .sl 1 (fCells fs)), (95, .int .i64 n), (96, .int .i64 (z.1 : Nat)), (3, lvO z.2 (fsL fs z.1))]) (fun z => lmO z.2 (fsL fs z.1)) (fun z => z.1 ≤ n ∧ (z.2 = none → fsL fs z.1 = [])) (fun z => n - z.1) (0, none) ⟨by simp, fun _ => by simp [fsL, emb]⟩ rfl (by simp [lvO]) ?_)
        rintro ⟨i, o⟩ ⟨q1, q2⟩
        simp only at q1 q2; (repeat refine AW.seq_k fun K hK => ?_); refine AW.rg ?_; simp; try (refine hK _ rfl ?_; clear hK; clear K)
        (repeat refine AW.seq ?_)
        refine AW.cs (fun hi => ?_) (fun hi => ?_) rfl <;> (try simp at hi)
        · refine AW.skip ?_; try simp
          have w1 : IntKind.i64.wrap ((i + 1 : Nat) : Int) = ((i + 1 : Nat) : Int) := wi (by omega)
          have hgc := fCells_get (fs := fs) (i := i) (by omega)
          have hsi := hsn i hi
          refine AW.seq_ex (ι := Option Nat × Mem) (fun z => [(2, .sl 4 (wCells ws)), (94, .sl 1 (fCells fs)), (95, .int .i64 n), (96, .int .i64 (i : Nat)), (3, lvO z.1 (fsL fs (i + 1)))]) (fun z => z.2) (fun z => Recast z.2 (lmO z.1 (fsL fs (i + 1))) ∧ (z.1 = none → fsL fs (i + 1) = [])) ?_ ?_
          · (repeat refine AW.seq ?_); refine AW.block ?_
            cases hfi : fs.getD i none with
            | none =>
              rw [hfi] at hgc hsi
              have hgc : (fCells fs)[i]? = some .nil := hgc
              replace hsi : fsL fs (i + 1) = fsL fs i := hsi
              rw [hsi]; (repeat refine AW.seq_k fun K hK => ?_); refine AW.rg ?_; simp [hi, hfl, i3, ↓hgc]; try (refine hK _ rfl ?_; clear hK; clear K)
              (repeat refine AW.seq_k fun K hK => ?_); refine AW.rg ?_; simp; try (refine hK _ rfl ?_; clear hK; clear K)
              refine AW.no ?_ rfl; refine AW.skip ?_; try simp
              exact ⟨o, _, ⟨Recast.sub fun b y hy => ⟨hy, lmO_ones b y hy⟩, q2⟩, rfl, rfl⟩
            | some f =>
              rw [hfi] at hgc hsi
              have hgc : (fCells fs)[i]? = some (rowAV (f.map ofQ)) := hgc
              replace hsi : fsL fs (i + 1) = fsL fs i ++ [rowAV (f.map ofQ)] := hsi
              rw [hsi]
              obtain ⟨fg, flen⟩ := i4 i f hfi
              have hne : f.map ofQ ≠ [] := by
                intro h
                have := congrArg List.length h
                rw [List.length_map, flen] at this
                simp at this
                omega
              have hnil := isNil_row hne
              have hfR : (f.map ofQ).length = n := by rw [List.length_map, flen]
              have hoa := ownAll_call (f.map ofQ) (fun y hy => by
                obtain ⟨q, hq, rfl⟩ := List.mem_map.1 hy
                exact short_good (fg q hq)) (by omega)
              rw [hfR] at hoa
              have hll := fsL_length fs i
              have hlo : ∀ v ∈ fsL fs i, v.cells.all AV.one = true := fsL_ones
              generalize fsL fs i = l at *
              (repeat refine AW.seq_k fun K hK => ?_); refine AW.rg ?_; simp [hi, hfl, i3, ↓hgc]; try (refine hK _ rfl ?_; clear hK; clear K)
              (repeat refine AW.seq_k fun K hK => ?_); refine AW.rg ?_; simp [hnil]; try (refine hK _ rfl ?_; clear hK; clear K)
              refine AW.yes ?_ rfl
              cases o with
              | none =>
                have := q2 rfl
                subst this
                simp only [lvO, lmO]
                (repeat refine AW.seq_k fun K hK => ?_)
                refine AW.rgR [105] ?_
                simp; try (refine hK _ rfl ?_; clear hK; clear K)
                refine CallK.make hoa ?_
                rintro b _ _ ⟨rfl, rfl⟩ hb _
                simp
                refine ⟨by unfold maxLen; omega, Fresh.intro fun b' hb' => ?_⟩
                have hbb : b ≠ b' := by rintro rfl; simp at hb'
                exact ⟨some b', _, ⟨recast_push (l := []) (r := f.map ofQ) (by simp) (by simp [hbb]) hbb hfR (by simp), by simp⟩, rfl, rfl⟩
              | some b0 =>
                simp only [lvO, lmO]
                (repeat refine AW.seq_k fun K hK => ?_)
                refine AW.rgR [105] ?_
                simp; try (refine hK _ rfl ?_; clear hK; clear K)
                refine CallK.make hoa ?_
                rintro b _ _ ⟨rfl, rfl⟩ hb _
                have hb0 : b ≠ b0 := by rintro rfl; simp at hb
                simp [Ne.symm hb0]
                refine ⟨by omega, by unfold maxLen; omega, Fresh.intro fun b' hb' => ?_⟩
                have hbb : b ≠ b' := by rintro rfl; simp [Mem.del, hb0] at hb'
                exact ⟨some b', _, ⟨recast_push (l := l) (r := f.map ofQ) (by simp) (by simp [Mem.del, hbb, hb0]) hbb hfR hlo, by simp⟩, rfl, rfl⟩
          rintro ⟨o, M'⟩ ⟨k1, k2⟩
          refine AW.turn [(2, .sl 4 (wCells ws)), (94, .sl 1 (fCells fs)), (95, .int .i64 n), (96, .int .i64 (i : Nat)), (3, lvO o (fsL fs (i + 1)))] (lmO o (fsL fs (i + 1))) k1 (by simp) ?_
          (repeat refine AW.seq_k fun K hK => ?_); refine AW.rg ?_; simp [-Int.natCast_add, w1]; try (refine hK _ rfl ?_; clear hK; clear K)
          exact ⟨i + 1, o, ⟨hi, k2⟩, by omega, rfl, rfl, rfl⟩
        · refine AW.exit ?_
          try simp
          have : i = n := by omega
          subst this
          exact ⟨o, q2, rfl, rfl⟩
      rintro o ho
      (repeat refine AW.seq_k fun K hK => ?_); refine AW.rg ?_; simp; try (refine hK _ rfl ?_; clear hK; clear K)
      have hvo : View (lmO o (fsL fs n)) Mem.emp (lvO o (fsL fs n)) (.sl 1 (fsL fs n)) := by
        cases o with
        | none => rw [ho rfl]; exact .nilsl 1
        | some b =>
          refine .osl b 1 0 _ ⟨42, 1, fsL fs n⟩ _ (by simp [lmO]) rfl rfl rfl (by simp) fun a u u' g1 g2 => ?_
          simp only [Nat.zero_add] at g1
          rw [g1] at g2
          cases g2
          exact .same _
      have e1 : sqAV (sqOut (SqO.go l ws fs)) = .tup [.sl 4 (wCells ws), .sl 1 (fsL fs n), .sl 4 [], .int .i64 0] := by
        unfold sqAV sqOut fsL matAV rowAV wCells rrs
        rw [List.take_of_length_le (by omega), List.map_map]
        rfl
      rw [e1]
      exact AW.ret (ret_views [.sl 4 (wCells ws), .sl 1 (fsL fs n), .sl 4 [], .int .i64 0] rfl ⟨.same _, hvo, .nilsl 4, .same _, trivial⟩ ⟨rfl, rfl⟩)
  · have hR : sqR m = ⟨chk m, [], [], []⟩ := by unfold sqR; rw [if_pos (by simpa using h0)]
    rw [hR]
    generalize chk m = e at *
    refine acall_S Tryz.func31 rfl rfl 110 rfl (Nat.le_of_ble_eq_true rfl) ?_
    (repeat refine AW.seq_k fun K hK => ?_); refine AW.rg ?_; simp [argsL]; try (refine hK _ rfl ?_; clear hK; clear K)
    (repeat refine AW.seq_k fun K hK => ?_); refine AW.rg ?_; simp; try (refine hK _ rfl ?_; clear hK; clear K)
    refine CallK.val hck ?_; simp; refine hK _ rfl ?_; clear hK; clear K; (repeat refine AW.seq_k fun K hK => ?_); refine AW.rg ?_; simp [h0]; try (refine hK _ rfl ?_; clear hK; clear K)
    refine AW.yes ?_ rfl; (repeat refine AW.seq_k fun K hK => ?_); refine AW.rg ?_; simp; try (refine hK _ rfl ?_; clear hK; clear K)
    exact AW.ret (ret_views [rowAV [], matAV [], rowAV [], .int .i64 e] rfl ⟨.nilsl 4, .nilsl 1, .nilsl 4, .same _, trivial⟩ ⟨rfl, rfl⟩)
end Go.Av
end
section
namespace Go.Av
open Go.Proofs
/-- A function that says whether two values are the same. -/
def saysEq (p : Prop) (v : AV) : Prop := ∃ t : Bool, v = .bool t ∧ (t = true ↔ p)
theorem list_ext_nth {a b : List Nat} (h : a.length = b.length) (he : ∀ k, k < a.length → nth a k = nth b k) : a = b := by
  refine List.ext_getElem h fun k h1 h2 => ?_
  have := he k h1
  unfold nth at this
  rwa [List.getD_eq_getElem?_getD, List.getD_eq_getElem?_getD, List.getElem?_eq_getElem h1, List.getElem?_eq_getElem h2] at this
theorem ints2_call (n1 n2 : Bool) (l1 l2 : List Nat) (h1 : l1.length < 2^40) : ACall Tryz.prog 62 [.agg [.bool n1, lim l1], .agg [.bool n2, lim l2]] Mem.emp fun v m => saysEq (n1 = n2 ∧ l1 = l2) v ∧ m = Mem.emp := by
  by_cases hn : n1 = n2
  · subst hn
    by_cases hl : l1.length = l2.length
    · refine acall_S Tryz.func62 rfl rfl 38 rfl (Nat.le_of_ble_eq_true rfl) ?_
      (repeat refine AW.seq_k fun K hK => ?_)
      refine AW.rgR [2,3] ?_
      simp [argsL]; try (refine hK _ rfl ?_; clear hK; clear K)
      (repeat refine AW.seq_k fun K hK => ?_); refine AW.rg ?_; simp [hl]; try (refine hK _ rfl ?_; clear hK; clear K)
      refine AW.no ?_ (by simp)
      refine AW.skip ?_; try simp
      refine hK _ rfl ?_; clear hK; clear K
      refine AW.seq_ex (ι := Unit) (fun _ => []) (fun _ => Mem.emp) (fun _ => l1 = l2) ?_ ?_
      · (repeat refine AW.seq_k fun K hK => ?_); refine AW.rg ?_; simp; try (refine hK _ rfl ?_; clear hK; clear K)
        refine AW.block (AW.loopS (ι := Nat) (fun i => [(2, .rptr [.bool n1, lim l1]), (3, .rptr [.bool n1, lim l2]), (5, .int .i64 (i : Nat))]) (fun _ => Mem.emp) (fun i => i ≤ l1.length ∧ ∀ k, k < i → nth l1 k = nth l2 k) (fun i => l1.length - i) 0 ⟨by simp, by simp⟩ rfl (by simp) ?_)
        rintro i ⟨g1, g2⟩
        (repeat refine AW.seq_k fun K hK => ?_); refine AW.rg ?_; simp; try (refine hK _ rfl ?_; clear hK; clear K)
        (repeat refine AW.seq ?_)
        refine AW.cs (fun hi => ?_) (fun hi => ?_) rfl <;> (try simp at hi)
        · refine AW.skip ?_; try simp
          refine hK _ rfl ?_; clear hK; clear K
          have hi2 : i < l2.length := by omega
          have w1 : IntKind.i64.wrap ((i + 1 : Nat) : Int) = ((i + 1 : Nat) : Int) := wi (by omega)
          refine AW.seq_ex (ι := Unit) (fun _ => [(2, .rptr [.bool n1, lim l1]), (3, .rptr [.bool n1, lim l2]), (5, .int .i64 (i : Nat))]) (fun _ => Mem.emp) (fun _ => nth l1 i = nth l2 i) ?_ ?_
          · (repeat refine AW.seq ?_); refine AW.block ?_; (repeat refine AW.seq_k fun K hK => ?_)
            refine AW.rd [0, 1, 2, 3, 4, 5, 6, 7, 8, 9, 10] mix ?_
            simp [hi, hi2]; try (refine hK _ rfl ?_; clear hK; clear K)
            by_cases h0 : nth l1 i = nth l2 i
            · refine AW.no ?_ (by simp [h0])
              exact AW.skip ⟨(), h0, by simp⟩
            · refine AW.yes ?_ (by simp [h0])
              (repeat refine AW.seq_k fun K hK => ?_); refine AW.rg ?_; simp; try (refine hK _ rfl ?_; clear hK; clear K)
              exact AW.ret (ret_views (vs := [.bool false]) [.bool false] (by simp) (by simp) ⟨⟨false, rfl, by simp; intro h; exact h0 (by rw [h])⟩, rfl⟩)
          rintro _ h0
          (repeat refine AW.seq_k fun K hK => ?_); refine AW.rg ?_; simp [-Int.natCast_add, w1]; try (refine hK _ rfl ?_; clear hK; clear K)
          refine ⟨⟨hi, fun k hk => ?_⟩, by omega⟩
          rcases Nat.lt_succ_iff_lt_or_eq.1 hk with h | rfl
          · exact g2 k h
          · exact h0
        · refine AW.exit ?_
          try simp
          exact list_ext_nth hl fun k hk => g2 k (by omega)
      rintro _ rfl
      (repeat refine AW.seq_k fun K hK => ?_); refine AW.rg ?_; simp; try (refine hK _ rfl ?_; clear hK; clear K)
      exact AW.ret (ret_views (vs := [.bool true]) [.bool true] (by simp) (by simp) ⟨⟨true, rfl, by simp⟩, rfl⟩)
    · refine acall_S Tryz.func62 rfl rfl 38 rfl (Nat.le_of_ble_eq_true rfl) ?_
      (repeat refine AW.seq_k fun K hK => ?_)
      refine AW.rgR [2,3] ?_
      simp [argsL]; try (refine hK _ rfl ?_; clear hK; clear K)
      (repeat refine AW.seq_k fun K hK => ?_); refine AW.rg ?_; simp [hl]; try (refine hK _ rfl ?_; clear hK; clear K)
      refine AW.yes ?_ (by simp)
      (repeat refine AW.seq_k fun K hK => ?_); refine AW.rg ?_; simp; try (refine hK _ rfl ?_; clear hK; clear K)
      exact AW.ret (ret_views (vs := [.bool false]) [.bool false] (by simp) (by simp) ⟨⟨false, rfl, by simp; intro h; exact hl (by rw [h])⟩, rfl⟩)
  · refine acall_S Tryz.func62 rfl rfl 38 rfl (Nat.le_of_ble_eq_true rfl) ?_
    (repeat refine AW.seq_k fun K hK => ?_)
    refine AW.rgR [2,3] ?_
    simp [argsL]; try (refine hK _ rfl ?_; clear hK; clear K)
    (repeat refine AW.seq_k fun K hK => ?_); refine AW.rg ?_; simp [hn]; try (refine hK _ rfl ?_; clear hK; clear K)
    refine AW.yes ?_ (by simp)
    (repeat refine AW.seq_k fun K hK => ?_); refine AW.rg ?_; simp; try (refine hK _ rfl ?_; clear hK; clear K)
    exact AW.ret (ret_views (vs := [.bool false]) [.bool false] (by simp) (by simp) ⟨⟨false, rfl, by simp [hn]⟩, rfl⟩)
def shortR (a : RR) : Prop := a.l1.length < 2^40 ∧ a.l2.length < 2^40
theorem same_call (a b : RR) (h : shortR a) : ACall Tryz.prog 26 [a.av, b.av] Mem.emp fun v m => saysEq (a = b) v ∧ m = Mem.emp := by
  have i1 := ints2_call a.n1 b.n1 a.l1 b.l1 h.1
  have i2 := ints2_call a.n2 b.n2 a.l2 b.l2 h.2
  have hab : a = b ↔ (a.n1 = b.n1 ∧ a.l1 = b.l1) ∧ (a.n2 = b.n2 ∧ a.l2 = b.l2) := by
    obtain ⟨x1, x2, x3, x4⟩ := a
    obtain ⟨y1, y2, y3, y4⟩ := b
    simp only [RR.mk.injEq, and_assoc]
  unfold RR.av
  refine acall_S Tryz.func26 rfl rfl 17 rfl (Nat.le_of_ble_eq_true rfl) ?_
  (repeat refine AW.seq_k fun K hK => ?_)
  refine AW.rgR [2,3] ?_
  simp [argsL]; try (refine hK _ rfl ?_; clear hK; clear K)
  (repeat refine AW.seq_k fun K hK => ?_); refine AW.rg ?_; simp; try (refine hK _ rfl ?_; clear hK; clear K)
  refine CallK.pure i1 ?_
  rintro _ ⟨t1, rfl, h1⟩
  simp
  cases t1
  · simp; refine hK _ rfl ?_; clear hK; clear K
    exact AW.ret (ret_views (vs := [.bool false]) [.bool false] (by simp) (by simp) ⟨⟨false, rfl, by simp only [Bool.false_eq_true, false_iff]; intro h; have := h1.2 (hab.1 h).1; cases this⟩, rfl⟩)
  · simp
    refine CallK.pure i2 ?_
    rintro _ ⟨t2, rfl, h2⟩
    simp; refine hK _ rfl ?_; clear hK; clear K
    exact AW.ret (ret_views (vs := [.bool t2]) [.bool t2] (by simp) (by simp) ⟨⟨t2, rfl, by rw [h2, hab]; exact ⟨fun h => ⟨h1.1 rfl, h⟩, fun h => h.2⟩⟩, rfl⟩)
theorem list_ext_rr {a b : List RR} (h : a.length = b.length) (he : ∀ k, k < a.length → rr a k = rr b k) : a = b := by
  refine List.ext_getElem h fun k h1 h2 => ?_
  have := he k h1
  rwa [rr_eq h1, rr_eq h2] at this
theorem list_ext_row {α : Type} {a b : List (List α)} (h : a.length = b.length) (he : ∀ k, k < a.length → mrow a k = mrow b k) : a = b := by
  refine List.ext_getElem h fun k h1 h2 => ?_
  have := he k h1
  rwa [mrow_eq h1, mrow_eq h2] at this
theorem row_call (a b : List RR) (h : ∀ x ∈ a, shortR x) (hl : a.length < 2^40) : ACall Tryz.prog 44 [rowAV a, rowAV b] Mem.emp fun v m => saysEq (a = b) v ∧ m = Mem.emp := by
  by_cases hab : a.length = b.length
  · refine acall_S Tryz.func44 rfl rfl 27 rfl (Nat.le_of_ble_eq_true rfl) ?_
    (repeat refine AW.seq_k fun K hK => ?_); refine AW.rg ?_; simp [argsL]; try (refine hK _ rfl ?_; clear hK; clear K)
    (repeat refine AW.seq_k fun K hK => ?_); refine AW.rg ?_; simp; try (refine hK _ rfl ?_; clear hK; clear K)
    refine AW.no ?_ (by simp [hab])
    refine AW.skip ?_; try simp
    refine hK _ rfl ?_; clear hK; clear K
    refine AW.seq_ex (ι := Unit) (fun _ => []) (fun _ => Mem.emp) (fun _ => a = b) ?_ ?_
    · (repeat refine AW.seq_k fun K hK => ?_); refine AW.rg ?_; simp; try (refine hK _ rfl ?_; clear hK; clear K)
      refine AW.block (AW.loopS (ι := Nat) (fun i => [(0, rowAV a), (1, rowAV b), (5, .int .i64 (i : Nat))]) (fun _ => Mem.emp) (fun i => i ≤ a.length ∧ ∀ k, k < i → rr a k = rr b k) (fun i => a.length - i) 0 ⟨by simp, by simp⟩ rfl (by simp) ?_)
      rintro i ⟨g1, g2⟩
      (repeat refine AW.seq_k fun K hK => ?_); refine AW.rg ?_; simp; try (refine hK _ rfl ?_; clear hK; clear K)
      (repeat refine AW.seq ?_)
      refine AW.cs (fun hi => ?_) (fun hi => ?_) rfl <;> (try simp at hi)
      · refine AW.skip ?_; try simp
        refine hK _ rfl ?_; clear hK; clear K
        have hi2 : i < b.length := by omega
        have w1 : IntKind.i64.wrap ((i + 1 : Nat) : Int) = ((i + 1 : Nat) : Int) := wi (by omega)
        have hs := same_call (rr a i) (rr b i) (h _ (by rw [rr_eq hi]; exact List.getElem_mem hi))
        refine AW.seq_ex (ι := Unit) (fun _ => [(0, rowAV a), (1, rowAV b), (5, .int .i64 (i : Nat))]) (fun _ => Mem.emp) (fun _ => rr a i = rr b i) ?_ ?_
        · (repeat refine AW.seq ?_); refine AW.block ?_; (repeat refine AW.seq_k fun K hK => ?_)
          refine AW.rd [0, 1, 2, 3, 4, 5, 6, 7, 8, 9] mix ?_
          simp [hi, hi2]; try (refine hK _ rfl ?_; clear hK; clear K)
          refine CallK.pure hs ?_
          rintro _ ⟨t, rfl, ht⟩
          simp; refine hK _ rfl ?_; clear hK; clear K
          cases t
          · refine AW.yes ?_ rfl; (repeat refine AW.seq_k fun K hK => ?_); refine AW.rg ?_; simp; try (refine hK _ rfl ?_; clear hK; clear K)
            exact AW.ret (ret_views (vs := [.bool false]) [.bool false] (by simp) (by simp) ⟨⟨false, rfl, by simp only [Bool.false_eq_true, false_iff]; intro h; have := ht.2 (by rw [h]); cases this⟩, rfl⟩)
          · refine AW.no ?_ rfl
            exact AW.skip ⟨(), ht.1 rfl, by simp⟩
        rintro _ h0
        (repeat refine AW.seq_k fun K hK => ?_); refine AW.rg ?_; simp [-Int.natCast_add, w1]; try (refine hK _ rfl ?_; clear hK; clear K)
        refine ⟨⟨hi, fun k hk => ?_⟩, by omega⟩
        rcases Nat.lt_succ_iff_lt_or_eq.1 hk with h | rfl
        · exact g2 k h
        · exact h0
      · refine AW.exit ?_
        try simp
        exact list_ext_rr hab fun k hk => g2 k (by omega)
    rintro _ rfl
    (repeat refine AW.seq_k fun K hK => ?_); refine AW.rg ?_; simp; try (refine hK _ rfl ?_; clear hK; clear K)
    exact AW.ret (ret_views (vs := [.bool true]) [.bool true] (by simp) (by simp) ⟨⟨true, rfl, by simp⟩, rfl⟩)
  · refine acall_S Tryz.func44 rfl rfl 27 rfl (Nat.le_of_ble_eq_true rfl) ?_
    (repeat refine AW.seq_k fun K hK => ?_); refine AW.rg ?_; simp [argsL]; try (refine hK _ rfl ?_; clear hK; clear K)
    (repeat refine AW.seq_k fun K hK => ?_); refine AW.rg ?_; simp; try (refine hK _ rfl ?_; clear hK; clear K)
    refine AW.yes ?_ (by simp [hab])
    (repeat refine AW.seq_k fun K hK => ?_); refine AW.rg ?_; simp; try (refine hK _ rfl ?_; clear hK; clear K)
    exact AW.ret (ret_views (vs := [.bool false]) [.bool false] (by simp) (by simp) ⟨⟨false, rfl, by simp; intro h; exact hab (by rw [h])⟩, rfl⟩)
theorem rows_call (a b : List (List RR)) (h : ∀ r ∈ a, ∀ x ∈ r, shortR x) (hl : a.length < 2^40) (hr : ∀ r ∈ a, r.length < 2^40) : ACall Tryz.prog 21 [matAV a, matAV b] Mem.emp fun v m => saysEq (a = b) v ∧ m = Mem.emp := by
  by_cases hab : a.length = b.length
  · refine acall_S Tryz.func21 rfl rfl 27 rfl (Nat.le_of_ble_eq_true rfl) ?_
    (repeat refine AW.seq_k fun K hK => ?_); refine AW.rg ?_; simp [argsL]; try (refine hK _ rfl ?_; clear hK; clear K)
    (repeat refine AW.seq_k fun K hK => ?_); refine AW.rg ?_; simp; try (refine hK _ rfl ?_; clear hK; clear K)
    refine AW.no ?_ (by simp [hab])
    refine AW.skip ?_; try simp
    refine hK _ rfl ?_; clear hK; clear K
    refine AW.seq_ex (ι := Unit) (fun _ => []) (fun _ => Mem.emp) (fun _ => a = b) ?_ ?_
    · (repeat refine AW.seq_k fun K hK => ?_); refine AW.rg ?_; simp; try (refine hK _ rfl ?_; clear hK; clear K)
      refine AW.block (AW.loopS (ι := Nat) (fun i => [(0, matAV a), (1, matAV b), (5, .int .i64 (i : Nat))]) (fun _ => Mem.emp) (fun i => i ≤ a.length ∧ ∀ k, k < i → mrow a k = mrow b k) (fun i => a.length - i) 0 ⟨by simp, by simp⟩ rfl (by simp) ?_)
      rintro i ⟨g1, g2⟩
      (repeat refine AW.seq_k fun K hK => ?_); refine AW.rg ?_; simp; try (refine hK _ rfl ?_; clear hK; clear K)
      (repeat refine AW.seq ?_)
      refine AW.cs (fun hi => ?_) (fun hi => ?_) rfl <;> (try simp at hi)
      · refine AW.skip ?_; try simp
        refine hK _ rfl ?_; clear hK; clear K
        have hi2 : i < b.length := by omega
        have w1 : IntKind.i64.wrap ((i + 1 : Nat) : Int) = ((i + 1 : Nat) : Int) := wi (by omega)
        have hm : mrow a i ∈ a := by rw [mrow_eq hi]; exact List.getElem_mem hi
        have hs := row_call (mrow a i) (mrow b i) (h _ hm) (hr _ hm)
        refine AW.seq_ex (ι := Unit) (fun _ => [(0, matAV a), (1, matAV b), (5, .int .i64 (i : Nat))]) (fun _ => Mem.emp) (fun _ => mrow a i = mrow b i) ?_ ?_
        · (repeat refine AW.seq ?_); refine AW.block ?_; (repeat refine AW.seq_k fun K hK => ?_)
          refine AW.rd [0, 1, 2, 3, 4, 5, 6, 7, 8, 9] mix ?_
          simp [hi, hi2]; try (refine hK _ rfl ?_; clear hK; clear K)
          refine CallK.pure hs ?_
          rintro _ ⟨t, rfl, ht⟩
          simp; refine hK _ rfl ?_; clear hK; clear K
          cases t
          · refine AW.yes ?_ rfl; (repeat refine AW.seq_k fun K hK => ?_); refine AW.rg ?_; simp; try (refine hK _ rfl ?_; clear hK; clear K)
            exact AW.ret (ret_views (vs := [.bool false]) [.bool false] (by simp) (by simp) ⟨⟨false, rfl, by simp only [Bool.false_eq_true, false_iff]; intro h; have := ht.2 (by rw [h]); cases this⟩, rfl⟩)
          · refine AW.no ?_ rfl
            exact AW.skip ⟨(), ht.1 rfl, by simp⟩
        rintro _ h0
        (repeat refine AW.seq_k fun K hK => ?_); refine AW.rg ?_; simp [-Int.natCast_add, w1]; try (refine hK _ rfl ?_; clear hK; clear K)
        refine ⟨⟨hi, fun k hk => ?_⟩, by omega⟩
        rcases Nat.lt_succ_iff_lt_or_eq.1 hk with h | rfl
        · exact g2 k h
        · exact h0
      · refine AW.exit ?_
        try simp
        exact list_ext_row hab fun k hk => g2 k (by omega)
    rintro _ rfl
    (repeat refine AW.seq_k fun K hK => ?_); refine AW.rg ?_; simp; try (refine hK _ rfl ?_; clear hK; clear K)
    exact AW.ret (ret_views (vs := [.bool true]) [.bool true] (by simp) (by simp) ⟨⟨true, rfl, by simp⟩, rfl⟩)
  · refine acall_S Tryz.func21 rfl rfl 27 rfl (Nat.le_of_ble_eq_true rfl) ?_
    (repeat refine AW.seq_k fun K hK => ?_); refine AW.rg ?_; simp [argsL]; try (refine hK _ rfl ?_; clear hK; clear K)
    (repeat refine AW.seq_k fun K hK => ?_); refine AW.rg ?_; simp; try (refine hK _ rfl ?_; clear hK; clear K)
    refine AW.yes ?_ (by simp [hab])
    (repeat refine AW.seq_k fun K hK => ?_); refine AW.rg ?_; simp; try (refine hK _ rfl ?_; clear hK; clear K)
    exact AW.ret (ret_views (vs := [.bool false]) [.bool false] (by simp) (by simp) ⟨⟨false, rfl, by simp; intro h; exact hab (by rw [h])⟩, rfl⟩)
end Go.Av
end
section
namespace Go.Av
open Go.Proofs
theorem wholeW_call (n : Int) (h1 : -9223372036854775808 ≤ n) (h2 : n < 9223372036854775808) : ACall Tryz.prog 37 [.int .i64 n] Mem.emp fun v m => v = (ofQ (intQ n)).av ∧ m = Mem.emp := by
  have ho := of2_call n 1 h1 h2 (by omega) (by omega) (by omega)
  have e : Rat.divInt n 1 = intQ n := rfl
  rw [e, resQ] at ho
  generalize intQ n = q at *
  unfold qAV at ho
  unfold RR.av ofQ
  simp only
  refine acall_S Tryz.func37 rfl rfl 11 rfl (Nat.le_of_ble_eq_true rfl) ?_
  (repeat refine AW.seq_k fun K hK => ?_); refine AW.rg ?_; simp [argsL]; try (refine hK _ rfl ?_; clear hK; clear K)
  refine Fresh.intro fun b2 hb2 => ?_
  refine hK _ rfl ?_; clear hK; clear K; (repeat refine AW.seq_k fun K hK => ?_); refine AW.rg ?_; simp; try (refine hK _ rfl ?_; clear hK; clear K)
  refine CallK.val ho ?_; simp
  refine Fresh.intro fun b3 hb3 => ?_
  simp only [set_none2, emp_at, and_true] at hb3
  try simp [hb3]
  refine hK _ rfl ?_; clear hK; clear K; (repeat refine AW.seq_k fun K hK => ?_); refine AW.rg ?_; simp [hb3]; try (refine hK _ rfl ?_; clear hK; clear K)
  exact AW.ret (ret_views (vs := [.agg [.bool (decide (q.num < 0)), lim (dig q.num.natAbs), .bool false, lim (dig q.den)]]) [.agg [.bool (decide (q.num < 0)), lim (dig q.num.natAbs), .bool false, lim (dig q.den)]] (by simp [hb3]) (by simp) ⟨rfl, rfl⟩)
end Go.Av
end
section
namespace Go.Av
open Go.Proofs
theorem unq_emb (X : List (List Rat)) : unq (emb X) = X := by
  unfold unq emb
  rw [List.map_map]
  conv => rhs; rw [← List.map_id X]
  refine List.map_congr_left fun r _ => ?_
  show (r.map ofQ).map RR.q = r
  rw [List.map_map]
  conv => rhs; rw [← List.map_id r]
  exact List.map_congr_left fun q _ => ofQ_q q
theorem chk_good {n w : Nat} {X : List (List Rat)} (h : matGood n w X) (hw : (mrow X 0).length = w) (h1 : n ≤ 64) (h2 : w ≤ 64) : chk (emb X) = 0 := by
  refine chk_ok ?_ ?_
  · rintro (h' | ⟨k, hk, h'⟩)
    · rw [emb_length, h.2.2] at h'; omega
    · rw [emb_length, h.2.2] at hk
      rw [emb_row, List.length_map, (h.row hk).2] at h'; omega
  · intro k hk
    rw [emb_length, h.2.2] at hk
    rw [emb_row, emb_row, List.length_map, List.length_map, (h.row hk).2, hw]
    refine ⟨rfl, fun j hj => ?_⟩
    have hjl : j < (mrow X k).length := by rw [(h.row hk).2]; exact hj
    rw [rr_map hjl]
    exact ofQ_ok ((h.row hk).1.at hjl)
def exK : List (List Rat) := [[intQ 0, intQ 2, intQ 4], [intQ 1, intQ 1, intQ 1]]
def exD : List (List Rat) := [[intQ 1, intQ 2], [intQ 3, intQ 4]]
def exS : List (List Rat) := [[intQ 1, intQ 2], [intQ 2, intQ 1]]
theorem exK_good : matGood 2 3 exK := ⟨by unfold GoodM Good; decide +kernel, by unfold dimM; decide +kernel, rfl⟩
theorem exD_good : matGood 2 2 exD := ⟨by unfold GoodM Good; decide +kernel, by unfold dimM; decide +kernel, rfl⟩
theorem exS_good : matGood 2 2 exS := ⟨by unfold GoodM Good; decide +kernel, by unfold dimM; decide +kernel, rfl⟩
theorem exK_red : reduceQ exK = some ([[intQ 1, intQ 0, intQ (-1)], [intQ 0, intQ 1, intQ 2]], [0, 1]) := by decide +kernel
theorem exK_ker : kerP [[intQ 1, intQ 0, intQ (-1)], [intQ 0, intQ 1, intQ 2]] [0, 1] 3 3 = [[intQ 1, intQ (-2), intQ 1]] := by decide +kernel
theorem exK_R : kerR (emb exK) = (0, [[intQ 1, intQ (-2), intQ 1]]) := by
  have hc := chk_good exK_good rfl (by omega) (by omega)
  have hr : redR (emb exK) = (0, [[intQ 1, intQ 0, intQ (-1)], [intQ 0, intQ 1, intQ 2]], [0, 1]) := by
    unfold redR
    rw [if_neg (by simp [hc]), unq_emb, exK_red]
  unfold kerR
  rw [hr, if_neg (by simp)]
  exact congrArg _ exK_ker
theorem exD_det : detQ 2 exD = some (intQ (-2)) := by decide +kernel
theorem exD_R : detR (emb exD) = (0, ofQ (intQ (-2))) := by
  have hc := chk_good exD_good rfl (by omega) (by omega)
  unfold detR
  rw [if_neg (by simp [hc]), unq_emb, if_neg (by simp [emb, exD, mrow]), show (emb exD).length = 2 from rfl, exD_det]
theorem exS_sq : sqIter 2 exS 2 = .vec [intQ (-2), intQ 1] := by
  have : (match sqIter 2 exS 2 with | .vec v => decide (v = [intQ (-2), intQ 1]) | _ => false) = true := by decide +kernel
  revert this
  cases sqIter 2 exS 2 <;> simp
theorem exS_R : sqR (emb exS) = ⟨0, [], [], [intQ (-2), intQ 1]⟩ := by
  have hc := chk_good exS_good rfl (by omega) (by omega)
  unfold sqR
  rw [if_neg (by simp [hc]), unq_emb, show (emb exS).length = 2 from rfl, if_pos ⟨rfl, by unfold symm; decide +kernel⟩, exS_sq]
  rfl
set_option maxHeartbeats 1000000
theorem works_call : ACall Tryz.prog 16 [] Mem.emp fun v m => v = .bool true ∧ m = Mem.emp := by
  have hw := fun (n : Int) (h1 : -9223372036854775808 ≤ n) (h2 : n < 9223372036854775808) => wholeW_call n h1 h2
  have hk := kernelL_call (emb exK) (lb_emb _)
  rw [exK_R] at hk
  have hd := detL_call (emb exD) (lb_emb _)
  rw [exD_R] at hd
  have hs := squaresL_call (emb exS) (lb_emb _)
  rw [exS_R] at hs
  have sh : ∀ q, Good q → shortR (ofQ q) := fun q h => short_good h
  have g1 : Good (intQ 1) := intQ_good (by decide)
  have g2 : Good (intQ (-2)) := intQ_good (by decide)
  have hrows := rows_call (emb [[intQ 1, intQ (-2), intQ 1]]) (emb [[intQ 1, intQ (-2), intQ 1]]) (by
    intro r hr x hx
    simp [emb] at hr
    subst hr
    simp at hx
    rcases hx with rfl | rfl | rfl
    · exact sh _ g1
    · exact sh _ g2
    · exact sh _ g1) (by decide) (by
    intro r hr
    simp [emb] at hr
    subst hr
    decide)
  have hrow := row_call ([intQ (-2), intQ 1].map ofQ) ([intQ (-2), intQ 1].map ofQ) (by
    intro x hx
    simp at hx
    rcases hx with rfl | rfl
    · exact sh _ g2
    · exact sh _ g1) (by decide)
  have hsame := same_call (ofQ (intQ (-2))) (ofQ (intQ (-2))) (sh _ g2)
  refine acall_S Tryz.func16 rfl rfl 79 rfl (Nat.le_of_ble_eq_true rfl) ?_
  (repeat refine AW.seq_k fun K hK => ?_); refine AW.rg ?_; simp [argsL]; try (refine hK _ rfl ?_; clear hK; clear K)
  (repeat refine AW.seq_k fun K hK => ?_)
  refine AW.rgR [13,17,18] ?_
  simp; try (refine hK _ rfl ?_; clear hK; clear K)
  refine CallK.val (hw 0 (by omega) (by omega)) ?_
  simp
  refine CallK.val (hw 2 (by omega) (by omega)) ?_
  simp
  refine CallK.val (hw 4 (by omega) (by omega)) ?_
  simp
  refine CallK.val (hw 1 (by omega) (by omega)) ?_
  simp
  refine CallK.val (hw 1 (by omega) (by omega)) ?_
  simp
  refine CallK.val (hw 1 (by omega) (by omega)) ?_
  simp; refine hK _ rfl ?_; clear hK; clear K; (repeat refine AW.seq_k fun K hK => ?_); refine AW.rg ?_; simp; try (refine hK _ rfl ?_; clear hK; clear K)
  refine CallK.val hk ?_; simp; refine hK _ rfl ?_; clear hK; clear K; (repeat refine AW.seq_k fun K hK => ?_)
  refine AW.rgR [27,30,31] ?_
  simp; try (refine hK _ rfl ?_; clear hK; clear K)
  refine CallK.val (hw 1 (by omega) (by omega)) ?_
  simp
  refine CallK.val (hw 2 (by omega) (by omega)) ?_
  simp
  refine CallK.val (hw 3 (by omega) (by omega)) ?_
  simp
  refine CallK.val (hw 4 (by omega) (by omega)) ?_
  simp; refine CallK.val hd ?_; simp
  refine Fresh.intro fun b4 _ => ?_
  refine hK _ rfl ?_; clear hK; clear K
  refine AW.toEmp [(2, matAV (emb [[intQ 1, intQ (-2), intQ 1]])), (3, .int .i64 0), (4, .rptr [.bool (ofQ (intQ (-2))).n1, lim (ofQ (intQ (-2))).l1, .bool (ofQ (intQ (-2))).n2, lim (ofQ (intQ (-2))).l2]), (5, .int .i64 0)] (by simp; exact view_temp rfl) ?_
  (repeat refine AW.seq_k fun K hK => ?_)
  refine AW.rgR [38,41,42] ?_
  simp; try (refine hK _ rfl ?_; clear hK; clear K)
  refine CallK.val (hw 1 (by omega) (by omega)) ?_
  simp
  refine CallK.val (hw 2 (by omega) (by omega)) ?_
  simp
  refine CallK.val (hw 2 (by omega) (by omega)) ?_
  simp
  refine CallK.val (hw 1 (by omega) (by omega)) ?_
  simp; refine CallK.val hs ?_; simp [sqAV]; refine hK _ rfl ?_; clear hK; clear K
  have yes : ∀ {p : Prop} {v : AV} {m : Mem}, p → saysEq p v ∧ m = Mem.emp → v = .bool true ∧ m = Mem.emp := by
    rintro p v m hp ⟨⟨t, rfl, h⟩, h2⟩
    exact ⟨by rw [h.2 hp], h2⟩
  replace hrows := hrows.mono fun v m h => yes rfl h
  replace hrow := hrow.mono fun v m h => yes rfl h
  replace hsame := hsame.mono fun v m h => yes rfl h
  refine AW.seq_k fun K hK => ?_
  refine AW.rdR [55, 56, 76] [0,1,2,3,4,5,6,7,8,9,10,11,12,13,14,15,16,17,18,19,20,21,22,23,24,25,26,27,28,29,30,31] mix ?_
  simp
  refine CallK.val (hw 1 (by omega) (by omega)) ?_
  simp
  refine CallK.val (hw (-2) (by omega) (by omega)) ?_
  simp
  refine CallK.val (hw 1 (by omega) (by omega)) ?_
  simp; refine CallK.val hrows ?_; simp
  refine CallK.val (hw (-2) (by omega) (by omega)) ?_
  simp; refine CallK.val hsame ?_; simp
  refine CallK.val (hw (-2) (by omega) (by omega)) ?_
  simp
  refine CallK.val (hw 1 (by omega) (by omega)) ?_
  simp; refine CallK.val hrow ?_; simp; refine hK _ rfl ?_; clear hK; clear K
  exact AW.ret (ret_views (vs := [.bool true]) [.bool true] (by simp) (by simp) ⟨rfl, rfl⟩)
end Go.Av
end
section
namespace Go.Av
open Go.Proofs
def pivI (o : Option Nat) : Int := match o with
  | some i => i
  | none => -1
theorem pivot7_call (rows : List (List RR)) (hlb : LbM rows) (w j r : Nat) (hd : dimM rows w) (hj : j < w) (h1 : rows.length < 2^40) (h2 : w < 2^40) (h3 : r < 2^40) : ACall Tryz.prog 49 [matAV rows, .int .i64 j, .int .i64 r] Mem.emp fun v m => v = .int .i64 (pivI (pivR rows j r)) ∧ m = Mem.emp := by
  refine acall_S Tryz.func49 rfl rfl 25 rfl (Nat.le_of_ble_eq_true rfl) ?_
  (repeat refine AW.seq_k fun K hK => ?_); refine AW.rg ?_; simp [argsL]; try (refine hK _ rfl ?_; clear hK; clear K)
  refine AW.seq_ex (ι := Unit) (fun _ => []) (fun _ => Mem.emp) (fun _ => ∀ k, r ≤ k → k < rows.length → signR (rr (mrow rows k) j) = 0) ?_ ?_
  · (repeat refine AW.seq_k fun K hK => ?_); refine AW.rg ?_; simp; try (refine hK _ rfl ?_; clear hK; clear K)
    refine AW.block (AW.loopS (ι := Nat) (fun i => [(0, matAV rows), (1, .int .i64 j), (2, .int .i64 r), (7, .int .i64 (i : Nat))]) (fun _ => Mem.emp) (fun i => r ≤ i ∧ ∀ k, r ≤ k → k < i → signR (rr (mrow rows k) j) = 0) (fun i => rows.length - i) r ⟨by omega, by omega⟩ rfl (by simp) ?_)
    rintro i ⟨g1, g2⟩
    (repeat refine AW.seq_k fun K hK => ?_); refine AW.rg ?_; simp; try (refine hK _ rfl ?_; clear hK; clear K)
    (repeat refine AW.seq ?_)
    refine AW.cs (fun hi => ?_) (fun hi => ?_) rfl <;> (try simp at hi)
    · refine AW.skip ?_; try simp
      refine hK _ rfl ?_; clear hK; clear K
      have w1 : IntKind.i64.wrap ((i + 1 : Nat) : Int) = ((i + 1 : Nat) : Int) := wi (by omega)
      have hwi := hd i hi
      have hs := rsign2_call (rr (mrow rows i) j) (rr_lb (hlb.row i) j)
      refine AW.seq_ex (ι := Unit) (fun _ => [(0, matAV rows), (1, .int .i64 j), (2, .int .i64 r), (7, .int .i64 (i : Nat))]) (fun _ => Mem.emp) (fun _ => signR (rr (mrow rows i) j) = 0) ?_ ?_
      · (repeat refine AW.seq ?_); refine AW.block ?_; (repeat refine AW.seq_k fun K hK => ?_); refine AW.rg ?_; simp [hi, hwi, hj]; try (refine hK _ rfl ?_; clear hK; clear K)
        refine CallK.val hs ?_; simp; refine hK _ rfl ?_; clear hK; clear K; (repeat refine AW.seq ?_)
        refine AW.cs (fun h0 => ?_) (fun h0 => ?_) rfl <;> (try simp at h0)
        · (repeat refine AW.seq_k fun K hK => ?_); refine AW.rg ?_; simp; try (refine hK _ rfl ?_; clear hK; clear K)
          refine AW.ret (ret_views (vs := [.int .i64 (i : Nat)]) [.int .i64 (i : Nat)] (by simp) (by simp) ⟨?_, rfl⟩)
          rw [pivR_some g2 g1 hi h0]
          rfl
        · refine AW.skip ?_; try simp
          exact h0
      rintro _ h0
      (repeat refine AW.seq_k fun K hK => ?_); refine AW.rg ?_; simp [-Int.natCast_add, w1]; try (refine hK _ rfl ?_; clear hK; clear K)
      refine ⟨⟨by omega, fun k hk1 hk2 => ?_⟩, by omega⟩
      rcases Nat.lt_succ_iff_lt_or_eq.1 hk2 with h | rfl
      · exact g2 k hk1 h
      · exact h0
    · refine AW.exit ?_
      try simp
      exact fun k a b => g2 k a (by omega)
  rintro _ hno
  (repeat refine AW.seq_k fun K hK => ?_); refine AW.rg ?_; simp; try (refine hK _ rfl ?_; clear hK; clear K)
  refine AW.ret (ret_views (vs := [.int .i64 (-1)]) [.int .i64 (-1)] (by simp) (by simp) ⟨?_, rfl⟩)
  rw [pivR_none hno]
  rfl
theorem less_call (a f b : Rat) (ha : Good a) (hf : Good f) (hb : Good b) : ACall Tryz.prog 112 [(ofQ a).av, (ofQ f).av, (ofQ b).av] Mem.emp fun v m => v = resQ (lessQ a f b) ∧ m = Mem.emp := by
  have hm := mul2_call b f hb hf
  have hl : lessQ a f b = (mulQ b f).bind (subQ a) := rfl
  rw [hl]
  cases hq : mulQ b f with
  | none =>
    rw [hq] at hm
    simp only [resQ] at hm
    refine acall_S Tryz.func112 rfl rfl 25 rfl (Nat.le_of_ble_eq_true rfl) ?_
    (repeat refine AW.seq_k fun K hK => ?_)
    refine AW.rgR [3,4,5] ?_
    simp [argsL]; try (refine hK _ rfl ?_; clear hK; clear K)
    refine Fresh.intro fun b6 hb6 => ?_
    refine hK _ rfl ?_; clear hK; clear K; (repeat refine AW.seq_k fun K hK => ?_); refine AW.rg ?_; simp; try (refine hK _ rfl ?_; clear hK; clear K)
    refine CallK.val hm ?_; simp [zeroRat]
    refine Fresh.intro fun b8 hb8 => ?_
    simp only [set_none2, emp_at, and_true] at hb8
    try simp [hb8]
    refine hK _ rfl ?_; clear hK; clear K; (repeat refine AW.seq_k fun K hK => ?_); refine AW.rg ?_; simp [hb8]; try (refine hK _ rfl ?_; clear hK; clear K)
    refine AW.yes ?_ rfl; (repeat refine AW.seq_k fun K hK => ?_); refine AW.rg ?_; simp [hb8]; try (refine hK _ rfl ?_; clear hK; clear K)
    exact AW.ret (ret_rat (b := b6) (.bool false) (lim []) (.bool false) (lim []) rfl rfl (by simp [hb8]) rfl ⟨.same _, .nilsl 1, .same _, .nilsl 1, trivial⟩ ⟨rfl, rfl⟩)
  | some p =>
    rw [hq] at hm
    simp only [resQ] at hm
    have hs := sub2_call a p ha (good_mul hq)
    show ACall Tryz.prog 112 _ _ fun v m => v = resQ (subQ a p) ∧ m = Mem.emp
    refine acall_S Tryz.func112 rfl rfl 25 rfl (Nat.le_of_ble_eq_true rfl) ?_
    (repeat refine AW.seq_k fun K hK => ?_)
    refine AW.rgR [3,4,5] ?_
    simp [argsL]; try (refine hK _ rfl ?_; clear hK; clear K)
    refine Fresh.intro fun b6 hb6 => ?_
    refine hK _ rfl ?_; clear hK; clear K; (repeat refine AW.seq_k fun K hK => ?_); refine AW.rg ?_; simp; try (refine hK _ rfl ?_; clear hK; clear K)
    refine CallK.val hm ?_; simp [qAV]
    refine Fresh.intro fun b8 hb8 => ?_
    simp only [set_none2, emp_at, and_true] at hb8
    try simp [hb8]
    refine hK _ rfl ?_; clear hK; clear K; (repeat refine AW.seq_k fun K hK => ?_); refine AW.rg ?_; simp [hb8]; try (refine hK _ rfl ?_; clear hK; clear K)
    refine AW.no ?_ rfl; refine AW.skip ?_; try simp
    refine hK _ rfl ?_; clear hK; clear K; (repeat refine AW.seq_k fun K hK => ?_); refine AW.rg ?_; simp [hb8]; try (refine hK _ rfl ?_; clear hK; clear K)
    refine CallK.val hs ?_
    cases hsq : subQ a p with
    | none =>
      simp only [resQ]
      simp [zeroRat, hb8]; refine hK _ rfl ?_; clear hK; clear K
      exact AW.ret (ret_rat (b := b6) (.bool false) (lim []) (.bool false) (lim []) rfl rfl (by simp [hb8]) rfl ⟨.same _, .same _, .same _, .same _, trivial⟩ ⟨by rw [hsq]; rfl, rfl⟩)
    | some z =>
      simp only [resQ]
      simp [qAV, hb8]; refine hK _ rfl ?_; clear hK; clear K
      exact AW.ret (ret_rr (b := b6) (ofQ z) rfl rfl (by simp [hb8]; rfl) rfl ⟨by rw [hsq]; rfl, rfl⟩)
end Go.Av
end
section
namespace Go.Av
open Go.Proofs
def twoM (bi br : Nat) (a b : List Rat) : Mem := (Mem.emp.set bi ⟨36, 4, rrs (a.map ofQ)⟩).set br ⟨36, 4, rrs (b.map ofQ)⟩
theorem twoM_ones (bi br : Nat) (a b : List Rat) : OnesM (twoM bi br a b) := by
  unfold twoM
  exact OnesM.set (OnesM.set (fun c y hy => by cases hy) bi (rrs_ok _)) br (rrs_ok _)
theorem twoM_only {bi br : Nat} {a b : List Rat} : ∀ k, twoM bi br a b k ≠ none → k = bi ∨ k = br := by
  intro k hk
  unfold twoM at hk
  simp only [set_at, emp_at] at hk
  split at hk
  · exact .inr (by assumption)
  · split at hk
    · exact .inl (by assumption)
    · exact absurd rfl hk
def subOut (bi br : Nat) (by_ : List Rat) (X : Option (List Rat)) (v : AV) (M : Mem) : Prop :=
  match X with
  | some row => v = .int .i64 0 ∧ M = twoM bi br row by_
  | none => v = .int .i64 2 ∧ OnesM M ∧ ∀ b, M b ≠ none → b = bi ∨ b = br
theorem subtract_call (bi br : Nat) (row by_ : List Rat) (f : Rat) (w j : Nat) (hne : bi ≠ br) (hr : rowGood row) (hrl : row.length = w) (hb : rowGood by_) (hbl : by_.length = w) (hf : Good f) (hj : j ≤ w) (hw : w ≤ 64) :
    ACall Tryz.prog 83 [.osl bi 4 0 w, (ofQ f).av, .osl br 4 0 w, .int .i64 j] (twoM bi br row by_) (subOut bi br by_ (iterO (belowRow by_ f j) (w - j) row)) := by
  have hne' := Ne.symm hne
  refine acall_S Tryz.func83 rfl rfl 39 rfl (Nat.le_of_ble_eq_true rfl) ?_
  (repeat refine AW.seq_k fun K hK => ?_)
  refine AW.rgR [5] ?_
  simp [argsL]; try (refine hK _ rfl ?_; clear hK; clear K)
  refine AW.seq_ex (ι := List Rat) (fun _ => [(0, .osl bi 4 0 w), (2, .osl br 4 0 w), (3, .int .i64 j), (5, .rptr [.bool (ofQ f).n1, lim (ofQ f).l1, .bool (ofQ f).n2, lim (ofQ f).l2])]) (fun r => twoM bi br r by_) (fun r => iterO (belowRow by_ f j) (w - j) row = some r) ?_ ?_
  · (repeat refine AW.seq_k fun K hK => ?_); refine AW.rg ?_; simp; try (refine hK _ rfl ?_; clear hK; clear K)
    refine AW.block (AW.loopS (ι := Nat × List Rat) (fun z => [(0, .osl bi 4 0 w), (2, .osl br 4 0 w), (3, .int .i64 j), (5, .rptr [.bool (ofQ f).n1, lim (ofQ f).l1, .bool (ofQ f).n2, lim (ofQ f).l2]), (9, .int .i64 ((j + z.1 : Nat) : Int))]) (fun z => twoM bi br z.2 by_) (fun z => z.1 ≤ w - j ∧ iterO (belowRow by_ f j) z.1 row = some z.2 ∧ rowGood z.2 ∧ z.2.length = w) (fun z => w - z.1) (0, row) ⟨by simp, rfl, hr, hrl⟩ rfl (by simp) ?_)
    rintro ⟨t, r⟩ ⟨g1, g2, g3, g4⟩
    simp only at g1 g2 g3 g4
    generalize hk : j + t = k at *
    (repeat refine AW.seq_k fun K hK => ?_); refine AW.rg ?_; simp [-Int.natCast_add]; try (refine hK _ rfl ?_; clear hK; clear K)
    (repeat refine AW.seq ?_)
    refine AW.cs (fun hkw => ?_) (fun hkw => ?_) rfl <;> (try simp at hkw)
    · refine AW.skip ?_
      try simp [-Int.natCast_add]
      refine hK _ rfl ?_; clear hK; clear K
      have w1 : IntKind.i64.wrap ((k + 1 : Nat) : Int) = ((k + 1 : Nat) : Int) := wi (by omega)
      have hkr : k < r.length := by omega
      have hkb : k < by_.length := by omega
      have e1 : rr (r.map ofQ) k = ofQ (qat r k) := rr_map hkr
      have e2 : rr (by_.map ofQ) k = ofQ (qat by_ k) := rr_map hkb
      have hle := less_call (qat r k) f (qat by_ k) (g3.at hkr) hf (hb.at hkb)
      have hrR : (r.map ofQ).length = w := by rw [List.length_map, g4]
      have hbR : (by_.map ofQ).length = w := by rw [List.length_map, hbl]
      have hst : iterO (belowRow by_ f j) (t + 1) row = (lessQ (qat r k) f (qat by_ k)).map (r.set k) := by
        rw [iterO_succ, g2, ← hk]; rfl
      refine AW.seq_ex (ι := List Rat) (fun _ => [(0, .osl bi 4 0 w), (2, .osl br 4 0 w), (3, .int .i64 j), (5, .rptr [.bool (ofQ f).n1, lim (ofQ f).l1, .bool (ofQ f).n2, lim (ofQ f).l2]), (9, .int .i64 (k : Nat))]) (fun r => twoM bi br r by_) (fun r => iterO (belowRow by_ f j) (t + 1) row = some r ∧ rowGood r ∧ r.length = w) ?_ ?_
      · (repeat refine AW.seq ?_); refine AW.block ?_
        cases hq : lessQ (qat r k) f (qat by_ k) with
        | none =>
          rw [hq] at hle hst
          replace hst : iterO (belowRow by_ f j) (t + 1) row = none := hst
          simp only [resQ] at hle
          have hX := iterO_none' hst (m := w - j) (by omega)
          rw [hX]; (repeat refine AW.seq_k fun K hK => ?_)
          refine AW.rdT [] [5] [] [bi, br] [0, 1, 2, 3, 4, 5, 6, 7, 8, 9, 10, 11, 12, 13, 14, 15] mix (by simp [twoM, hne, hne', hkw, hrR, hbR, e1, e2]) (by simp [twoM, hne, hne', hkw, hrR, hbR, e1, e2]) (by simp [twoM, hne, hne', hkw, hrR, hbR, e1, e2]) (by simp [twoM, hne, hne', hkw, hrR, hbR, e1, e2]) (by simp [twoM, hne, hne', hkw, hrR, hbR, e1, e2]) ?_
          simp [-Int.natCast_add, twoM, hne, hne', hkw, hrR, hbR, e1, e2]; try (refine hK _ rfl ?_; clear hK; clear K)
          refine CallK.val hle ?_; simp [zeroRat]
          refine Fresh.intro fun b10 hb10 => ?_
          refine hK _ rfl ?_; clear hK; clear K
          refine AW.turn [(11, .int .i64 2)] (twoM bi br r by_) (Recast.drop hb10 (twoM_ones bi br r by_)) (by simp) ?_
          (repeat refine AW.seq_k fun K hK => ?_); refine AW.rg ?_; simp [-Int.natCast_add]; try (refine hK _ rfl ?_; clear hK; clear K)
          refine AW.yes ?_ rfl; (repeat refine AW.seq_k fun K hK => ?_); refine AW.rg ?_; simp [-Int.natCast_add]; try (refine hK _ rfl ?_; clear hK; clear K)
          exact AW.ret (ret_mem rfl (twoM_ones bi br r by_) ⟨rfl, twoM_ones bi br r by_, twoM_only⟩)
        | some z =>
          rw [hq] at hle hst
          simp only [resQ] at hle
          (repeat refine AW.seq_k fun K hK => ?_)
          refine AW.rdT [] [5] [] [bi, br] [0, 1, 2, 3, 4, 5, 6, 7, 8, 9, 10, 11, 12, 13, 14, 15] mix (by simp [twoM, hne, hne', hkw, hrR, hbR, e1, e2]) (by simp [twoM, hne, hne', hkw, hrR, hbR, e1, e2]) (by simp [twoM, hne, hne', hkw, hrR, hbR, e1, e2]) (by simp [twoM, hne, hne', hkw, hrR, hbR, e1, e2]) (by simp [twoM, hne, hne', hkw, hrR, hbR, e1, e2]) ?_
          simp [-Int.natCast_add, twoM, hne, hne', hkw, hrR, hbR, e1, e2]; try (refine hK _ rfl ?_; clear hK; clear K)
          refine CallK.val hle ?_; simp [qAV]
          refine Fresh.intro fun b10 hb10 => ?_
          refine hK _ rfl ?_; clear hK; clear K
          refine AW.turn [(0, .osl bi 4 0 w), (2, .osl br 4 0 w), (3, .int .i64 j), (5, .rptr [.bool (ofQ f).n1, lim (ofQ f).l1, .bool (ofQ f).n2, lim (ofQ f).l2]), (9, .int .i64 (k : Nat)), (10, .rptr [.bool (ofQ z).n1, lim (ofQ z).l1, .bool (ofQ z).n2, lim (ofQ z).l2]), (11, .int .i64 0)] (twoM bi br r by_) (Recast.drop hb10 (twoM_ones bi br r by_)) ?_ ?_
          · simp
            exact view_temp hb10
          (repeat refine AW.seq_k fun K hK => ?_); refine AW.rg ?_; simp [-Int.natCast_add]; try (refine hK _ rfl ?_; clear hK; clear K)
          refine AW.no ?_ rfl; refine AW.skip ?_
          try simp [-Int.natCast_add]
          refine hK _ rfl ?_; clear hK; clear K; (repeat refine AW.seq_k fun K hK => ?_); refine AW.rg ?_; simp [-Int.natCast_add, twoM, hne, hne', hkw, hrR]; try (refine hK _ rfl ?_; clear hK; clear K)
          refine ⟨r.set k z, ⟨hst, good_set g3 k (good_less hq), by rw [List.length_set]; exact g4⟩, ?_⟩
          rw [set_back hne]
          show (Mem.emp.set bi ⟨36, 4, (rrs (r.map ofQ)).set k (ofQ z).av⟩).set br _ = _
          rw [rrs_set, List.map_set]
      rintro r ⟨q1, q2, q3⟩
      (repeat refine AW.seq_k fun K hK => ?_); refine AW.rg ?_; simp [-Int.natCast_add, w1]; try (refine hK _ rfl ?_; clear hK; clear K)
      exact ⟨t + 1, r, ⟨by omega, q1, q2, q3⟩, by omega, rfl, by omega⟩
    · refine AW.exit ?_
      try simp [-Int.natCast_add]
      have : t = w - j := by omega
      subst this
      exact ⟨r, g2, rfl⟩
  rintro r hX
  rw [hX]; (repeat refine AW.seq_k fun K hK => ?_); refine AW.rg ?_; simp; try (refine hK _ rfl ?_; clear hK; clear K)
  exact AW.ret (ret_mem rfl (twoM_ones bi br r by_) ⟨rfl, rfl⟩)
end Go.Av
end
section
namespace Go.Av
open Go.Proofs
theorem only_two {m : Mem} {bi br : Nat} {a b : List Rat} (h1 : m bi = some ⟨36, 4, rrs (a.map ofQ)⟩) (h2 : m br = some ⟨36, 4, rrs (b.map ofQ)⟩) (hne : bi ≠ br) : m.only [bi, br] = twoM bi br a b := by
  funext k
  unfold twoM
  simp only [set_at, emp_at]
  by_cases k1 : k = br
  · subst k1; rw [only_in (by simp), if_pos rfl, h2]
  · rw [if_neg k1]
    by_cases k2 : k = bi
    · subst k2; rw [only_in (by simp), if_pos rfl, h1]
    · rw [if_neg k2, only_out (by simp [k1, k2])]
theorem back_two {m : Mem} {bi br : Nat} {a b : List Rat} (h2 : m br = some ⟨36, 4, rrs (b.map ofQ)⟩) (hne : bi ≠ br) : m.back [bi, br] (twoM bi br a b) = m.set bi ⟨36, 4, rrs (a.map ofQ)⟩ := by
  funext k
  simp only [set_at]
  by_cases k2 : k = bi
  · subst k2; rw [if_pos rfl]
    exact back_some (by unfold twoM; simp [hne])
  · rw [if_neg k2]
    by_cases k1 : k = br
    · subst k1; rw [h2]
      exact back_some (by unfold twoM; simp)
    · exact back_out (by unfold twoM; simp [k1, k2]) (by simp [k1, k2])
/-- A matrix of the reference in memory. -/
def RefM (M : Mem) (B : Nat) (bs : List Nat) (X : List (List Rat)) : Prop := MatM M B bs (emb X) ∧ OnlyM M (B :: bs)
theorem RefM.ones {M : Mem} {B : Nat} {bs : List Nat} {X : List (List Rat)} (h : RefM M B bs X) : OnesM M := h.1.ones (l := []) h.2 (by simp)
theorem RefM.setRow {M : Mem} {B : Nat} {bs : List Nat} {X : List (List Rat)} (h : RefM M B bs X) {i : Nat} (hi : i < X.length) {r : List Rat} (hr : r.length = (mrow X i).length) : RefM (M.set (nb bs i) ⟨36, 4, rrs (r.map ofQ)⟩) B bs (X.set i r) := by
  refine ⟨?_, h.2.set ?_ _⟩
  · rw [emb_set]
    exact h.1.setRow (by rw [emb_length]; exact hi) _ (by rw [emb_row, List.length_map, List.length_map, hr])
  · exact List.mem_cons_of_mem _ (nb_mem (by rw [h.1.len, emb_length]; exact hi))
def clearOut (B : Nat) (bs : List Nat) (Z : Option (List (List Rat))) (v : AV) (M : Mem) : Prop :=
  match Z with
  | some Y => v = .int .i64 0 ∧ RefM M B bs Y
  | none => v = .int .i64 2 ∧ OnesM M
set_option maxHeartbeats 1000000
end Go.Av
end
section
namespace Go.Av
open Go.Proofs
/-- A matrix whose rows are appended one after the other. -/
def CopM (M : Mem) (ov : AV) (bs : List Nat) (rows : List (List RR)) : Prop :=
  (rows = [] ∧ bs = [] ∧ ov = .nil ∧ M = Mem.emp) ∨ ∃ B, ov = .osl B 1 0 rows.length ∧ MatM M B bs rows ∧ OnlyM M (B :: bs)
theorem MatM.snoc {M' : Mem} {B : Nat} {bs : List Nat} {rows : List (List RR)} {b : Nat} {r : List RR} (hl : bs.length = rows.length) (htop : M' B = some ⟨42, 1, hdrs bs rows ++ [.osl b 4 0 r.length]⟩) (hrow : ∀ i, i < rows.length → M' (nb bs i) = some ⟨36, 4, rrs (mrow rows i)⟩) (hb : M' b = some ⟨36, 4, rrs r⟩) (hnd : bs.Nodup) (hbb : b ∉ bs) (hB : B ∉ bs) (hBb : B ≠ b) : MatM M' B (bs ++ [b]) (rows ++ [r]) := by
  refine ⟨by rw [hdrs_snoc hl]; exact htop, by simp [hl], fun i hi => ?_, ?_, ?_⟩
  · have hi' : i < rows.length + 1 := by simpa using hi
    rw [nb_snoc bs b i (by rw [hl]; exact hi'), mrow_snoc rows r i hi', hl]
    by_cases hlt : i < rows.length
    · rw [if_pos hlt, if_pos hlt]; exact hrow i hlt
    · rw [if_neg hlt, if_neg hlt]; exact hb
  · rw [List.nodup_append]
    exact ⟨hnd, by simp, fun x hx y hy => by simp at hy; subst hy; exact fun e => hbb (e ▸ hx)⟩
  · simp only [List.mem_append, List.mem_singleton, not_or]
    exact ⟨hB, hBb⟩
theorem del_none {m : Mem} {b : Nat} (h : m b = none) : m.del b = m := by
  funext k
  show (if k = b then none else m k) = m k
  split
  · rename_i e; rw [e, h]
  · rfl
theorem copied_call (m : List (List RR)) (h1 : m.length ≤ 64) (h2 : ∀ r ∈ m, r.length ≤ 64) : ACall Tryz.prog 47 [matAV m] Mem.emp fun v M => ∃ bs, CopM M v bs m := by
  refine acall_S Tryz.func47 rfl rfl 21 rfl (Nat.le_of_ble_eq_true rfl) ?_
  (repeat refine AW.seq_k fun K hK => ?_); refine AW.rg ?_; simp [argsL]; try (refine hK _ rfl ?_; clear hK; clear K)
  (repeat refine AW.seq_k fun K hK => ?_); refine AW.rg ?_; simp; try (refine hK _ rfl ?_; clear hK; clear K)
  refine AW.seq_ex (ι := Mem × AV × List Nat) (fun z => [(3, z.2.1)]) (fun z => z.1) (fun z => CopM z.1 z.2.1 z.2.2 m) ?_ ?_
  · (repeat refine AW.seq_k fun K hK => ?_); refine AW.rg ?_; simp; try (refine hK _ rfl ?_; clear hK; clear K)
    refine AW.block (AW.loopS (ι := Nat × Mem × AV × List Nat) (fun z => [(0, matAV m), (3, z.2.2.1), (4, .int .i64 (z.1 : Nat))]) (fun z => z.2.1) (fun z => z.1 ≤ m.length ∧ CopM z.2.1 z.2.2.1 z.2.2.2 (m.take z.1)) (fun z => m.length - z.1) (0, Mem.emp, .nil, []) ⟨by simp, .inl ⟨by simp, rfl, rfl, rfl⟩⟩ rfl (by simp) ?_)
    rintro ⟨i, M, ov, bs⟩ ⟨g1, g2⟩
    simp only at g1 g2; (repeat refine AW.seq_k fun K hK => ?_); refine AW.rg ?_; simp; try (refine hK _ rfl ?_; clear hK; clear K)
    (repeat refine AW.seq ?_)
    refine AW.cs (fun hi => ?_) (fun hi => ?_) rfl <;> (try simp at hi)
    · refine AW.skip ?_; try simp
      refine hK _ rfl ?_; clear hK; clear K
      have w1 : IntKind.i64.wrap ((i + 1 : Nat) : Int) = ((i + 1 : Nat) : Int) := wi (by omega)
      have hm : mrow m i ∈ m := by rw [mrow_eq hi]; exact List.getElem_mem hi
      have hrl := h2 _ hm
      have et : m.take (i + 1) = m.take i ++ [mrow m i] := by rw [List.take_add_one, List.getElem?_eq_getElem hi, mrow_eq hi]; rfl
      have htl : (m.take i).length = i := by simp; omega
      refine AW.seq_ex (ι := Mem × AV × List Nat) (fun z => [(0, matAV m), (3, z.2.1), (4, .int .i64 (i : Nat))]) (fun z => z.1) (fun z => CopM z.1 z.2.1 z.2.2 (m.take (i + 1))) ?_ ?_
      · (repeat refine AW.seq ?_); refine AW.block ?_
        rcases g2 with ⟨z1, z2, z3, z4⟩ | ⟨B, z1, z2, z3⟩
        · subst z2 z3 z4
          rw [z1] at htl
          simp at htl
          subst htl; (repeat refine AW.seq_k fun K hK => ?_)
          refine AW.rgR [18] ?_
          simp [hi]; try (refine hK _ rfl ?_; clear hK; clear K)
          refine Fresh.intro fun b _ => ⟨by omega, by unfold maxLen; omega, Fresh.intro fun b' _ => ⟨by unfold maxLen; omega, Fresh.intro fun B hB => ⟨[b'], .inr ⟨B, ?_, ?_, ?_⟩⟩⟩⟩
          · rw [et]; simp
          · have hBb : B ≠ b' := by rintro rfl; simp at hB
            rw [et, List.take_zero]
            exact MatM.snoc (bs := []) (rows := []) rfl (by simp [hdrs]) (fun i hi => (by cases hi)) (by simp [Ne.symm hBb]) List.nodup_nil (by simp) (by simp) hBb
          · exact (OnlyM.set (OnlyM.set (l := [B, b']) (fun k hk => absurd rfl hk) (by simp) _) (by simp) _)
        · subst z1; rw [htl]; (repeat refine AW.seq_k fun K hK => ?_)
          refine AW.rgR [18] ?_
          simp [hi, z2.top]; try (refine hK _ rfl ?_; clear hK; clear K)
          refine Fresh.intro fun b hb => ⟨by omega, by unfold maxLen; omega, ?_⟩
          rw [del_none hb]
          refine Fresh.intro fun b' hb' => ?_
          have n1 : B ≠ b' := by rintro rfl; rw [z2.top] at hb'; cases hb'
          have n2 : B ≠ b := by rintro rfl; rw [z2.top] at hb; cases hb
          have hl : bs.length = (m.take i).length := z2.len
          refine ⟨hdrs bs (m.take i), by rw [if_neg n1, if_neg n2], by rw [hdrs_length hl, htl], by rw [hdrs_length hl, htl]; omega, by rw [hdrs_length hl, htl]; unfold maxLen; omega, ?_⟩
          refine Fresh.intro fun B1 hB1 => ⟨bs ++ [b'], .inr ⟨B1, ?_, ?_, ?_⟩⟩
          · rw [hdrs_length hl, et]; simp [htl]
          · have hbn : b' ∉ bs := by
              intro hm'
              obtain ⟨k, hk, e⟩ := List.mem_iff_getElem.1 hm'
              rw [← nb_eq hk] at e
              have := z2.row k (by rw [← hl]; exact hk)
              rw [e, hb'] at this; cases this
            have hrow : ∀ k, k < (m.take i).length → (((M.set b' ⟨36, 4, rrs (mrow m i)⟩).del B) (nb bs k)) = some ⟨36, 4, rrs (mrow (m.take i) k)⟩ := by
              intro k hk
              have q1 : nb bs k ≠ B := z2.ne hk
              have q2 : nb bs k ≠ b' := fun e => hbn (e ▸ nb_mem (by rw [hl]; exact hk))
              show (if nb bs k = B then none else (M.set b' _) (nb bs k)) = _
              rw [if_neg q1, Mem.set_other _ _ q2]
              exact z2.row k hk
            have hbv : ((M.set b' ⟨36, 4, rrs (mrow m i)⟩).del B) b' = some ⟨36, 4, rrs (mrow m i)⟩ := by
              show (if b' = B then none else (M.set b' _) b') = _
              rw [if_neg (Ne.symm n1), Mem.set_same]
            have hne : ∀ k y, ((M.set b' ⟨36, 4, rrs (mrow m i)⟩).del B) k = some y → k ≠ B1 := by
              rintro k y hk rfl
              rw [hB1] at hk; cases hk
            rw [et]
            refine MatM.snoc hl (by simp) (fun k hk => ?_) ?_ z2.nd hbn ?_ ?_
            · rw [Mem.set_other _ _ (hne _ _ (hrow k hk))]; exact hrow k hk
            · rw [Mem.set_other _ _ (hne _ _ hbv)]; exact hbv
            · intro hm'
              obtain ⟨k, hk, e⟩ := List.mem_iff_getElem.1 hm'
              rw [← nb_eq hk] at e
              exact hne _ _ (hrow k (by rw [← hl]; exact hk)) e
            · exact Ne.symm (hne _ _ hbv)
          · intro k hk
            simp only [set_at] at hk
            by_cases k1 : k = B1
            · simp [k1]
            · rw [if_neg k1] at hk
              have hk2 : (if k = B then none else (M.set b' ⟨36, 4, rrs (mrow m i)⟩) k) ≠ none := hk
              by_cases k2 : k = B
              · rw [if_pos k2] at hk2; exact absurd rfl hk2
              · rw [if_neg k2] at hk2
                by_cases k3 : k = b'
                · simp [k3]
                · rw [Mem.set_other _ _ k3] at hk2
                  have := z3 k hk2
                  simp [k2] at this
                  simp [this]
      rintro ⟨M, ov, bs⟩ hs
      (repeat refine AW.seq_k fun K hK => ?_); refine AW.rg ?_; simp [-Int.natCast_add, w1]; try (refine hK _ rfl ?_; clear hK; clear K)
      exact ⟨i + 1, M, ov, ⟨hi, bs, hs⟩, by omega, rfl, rfl, rfl⟩
    · refine AW.exit ?_
      try simp
      have : i = m.length := by omega
      subst this
      rw [List.take_length] at g2
      exact ⟨bs, g2⟩
  rintro ⟨M, ov, bs⟩ hs
  simp only at hs; (repeat refine AW.seq_k fun K hK => ?_); refine AW.rg ?_; simp; try (refine hK _ rfl ?_; clear hK; clear K)
  refine AW.ret (ret_mem rfl ?_ ⟨bs, hs⟩)
  rcases hs with ⟨_, _, _, z4⟩ | ⟨B, _, z2, z3⟩
  · intro b y hy
    rw [z4] at hy; cases hy
  · exact z2.ones (l := []) z3 (by simp)
end Go.Av
end
section
namespace Go.Av
open Go.Proofs
structure RefP (M : Mem) (B : Nat) (bs : List Nat) (X : List (List Rat)) (pv : AV) (pb ps : List Nat) : Prop where
  mat : MatM M B bs (emb X)
  piv : PivV M pv pb ps
  npb : ∀ b ∈ pb, b ∉ B :: bs
  ones : OnesM M
section
variable {M : Mem} {B : Nat} {bs : List Nat} {X : List (List Rat)} {pv : AV} {pb ps : List Nat}
theorem RefP.back (h : RefP M B bs X pv pb ps) {g : Mem} {X' : List (List Rat)} (hg : RefM g B bs X') : RefP (M.back (B :: bs) g) B bs X' pv pb ps :=
  ⟨hg.1.back _, h.piv.keep fun b hb => back_out (hg.2.none (h.npb b hb)) (h.npb b hb), h.npb, back_ones h.ones hg.ones⟩
theorem RefP.swap (h : RefP M B bs X pv pb ps) {i r : Nat} (hi : i < X.length) (hr : r < X.length) :
    RefP (M.set B ⟨42, 1, ((hdrs bs (emb X)).set i (.osl (nb bs r) 4 0 (mrow (emb X) r).length)).set r (.osl (nb bs i) 4 0 (mrow (emb X) i).length)⟩) B (swapB bs i r) (swapL X i r) pv pb ps := by
  have hiE : i < (emb X).length := by rw [emb_length]; exact hi
  have hrE : r < (emb X).length := by rw [emb_length]; exact hr
  have hb : ∀ b, b ∈ swapB bs i r ↔ b ∈ bs := fun b => swapB_mem (by rw [h.mat.len]; exact hiE) (by rw [h.mat.len]; exact hrE) b
  refine ⟨by rw [emb_swap]; exact h.mat.swap hiE hrE, h.piv.keep fun b hb' => ?_, fun b hb' => ?_, OnesM.set h.ones B fun v hv => ?_⟩
  · simp only [set_at]; rw [if_neg (by rintro rfl; exact h.npb _ hb' (by simp))]
  · have := h.npb b hb'; simpa [hb] using this
  · rcases List.mem_or_eq_of_mem_set hv with hv | rfl
    · rcases List.mem_or_eq_of_mem_set hv with hv | rfl
      · exact hdrs_ones bs (emb X) v hv
      · rfl
    · rfl
theorem RefP.fresh (h : RefP M B bs X pv pb ps) {b : Nat} (hb : M b = none) : b ∉ B :: bs := by
  intro hm
  rcases List.mem_cons.1 hm with rfl | hm
  · rw [h.mat.top] at hb; cases hb
  · obtain ⟨k, hk, e⟩ := List.mem_iff_getElem.1 hm
    rw [← nb_eq hk] at e
    have := h.mat.row k (by rw [← h.mat.len]; exact hk)
    rw [e, hb] at this; cases this
theorem RefP.push0 (h : RefP M B bs X .nil [] []) {b : Nat} (hb : M b = none) (j : Nat) : RefP (M.set b ⟨3, 1, [.int .i64 (j : Nat)]⟩) B bs X (.osl b 1 0 1) [b] [j] := by
  have hn := h.fresh hb
  have h1 : b ≠ B := fun e => hn (by simp [e])
  have h2 : b ∉ bs := fun e => hn (by simp [e])
  exact ⟨h.mat.other h1 h2 _, .inr ⟨b, rfl, rfl, by simp [ints]⟩, fun a ha => by simp at ha; subst ha; exact hn, h.ones.set b fun v hv => by simp at hv; subst hv; rfl⟩
theorem RefP.push1 {b0 : Nat} (h : RefP M B bs X (.osl b0 1 0 ps.length) [b0] ps) {b : Nat} (hb : (M.del b0) b = none) (j : Nat) : RefP ((M.del b0).set b ⟨3, 1, ints ps ++ [.int .i64 (j : Nat)]⟩) B bs X (.osl b 1 0 (ps.length + 1)) [b] (ps ++ [j]) := by
  have h0 := h.npb b0 (by simp)
  have hh : RefP (M.del b0) B bs X .nil [] [] := by
    have hdel : ∀ a, a ≠ b0 → (M.del b0) a = M a := fun a ha => if_neg ha
    refine ⟨⟨by rw [hdel B (by rintro rfl; exact h0 (by simp))]; exact h.mat.top, h.mat.len, fun i hi => ?_, h.mat.nd, h.mat.nB⟩, .inl ⟨rfl, rfl, rfl⟩, by simp, h.ones.del b0⟩
    rw [hdel _ (fun e => h0 (e ▸ List.mem_cons_of_mem _ (nb_mem (by rw [h.mat.len]; exact hi))))]
    exact h.mat.row i hi
  have hn := hh.fresh hb
  have h1 : b ≠ B := fun e => hn (by simp [e])
  have h2 : b ∉ bs := fun e => hn (by simp [e])
  refine ⟨hh.mat.other h1 h2 _, .inr ⟨b, rfl, by simp, by simp [ints_snoc]⟩, fun a ha => by simp at ha; subst ha; exact hn, hh.ones.set b fun v hv => ?_⟩
  rcases List.mem_append.1 hv with hv | hv
  · exact ints_one ps v hv
  · simp at hv; subst hv; rfl
end
structure RefS where
  X : List (List Rat)
  ps : List Nat
  M : Mem
  bs : List Nat
  pv : AV
  pb : List Nat
def InvQ (X0 : List (List Rat)) (B w j : Nat) (s : RefS) : Prop :=
  iterO colStep j (X0, []) = some (s.X, s.ps) ∧ matGood X0.length w s.X ∧ s.ps.length ≤ X0.length ∧ RefP s.M B s.bs s.X s.pv s.pb s.ps
set_option maxHeartbeats 1000000
end Go.Av
end
section
namespace Go.Av
open Go.Proofs
theorem ty22 : Tryz.prog.underlying 22 = some (.slice 42) := by kernel_rfl
theorem ty42 : Tryz.prog.underlying 42 = some (.slice 36) := by kernel_rfl
theorem ty32 : Tryz.prog.underlying 32 = some (.slice 87) := by kernel_rfl
theorem ty87 : Tryz.prog.underlying 87 = some (.int .u32) := by kernel_rfl
theorem ty4 : Tryz.prog.underlying 4 = some .bool := by kernel_rfl
theorem cl87 : Tryz.prog.cellsOf 87 = 1 := by kernel_rfl
theorem cl42 : Tryz.prog.cellsOf 42 = 1 := by kernel_rfl
theorem cl36 : Tryz.prog.cellsOf 36 = 4 := by kernel_rfl
theorem cl34 : Tryz.prog.cellsOf 34 = 2 := by kernel_rfl
theorem cl32 : Tryz.prog.cellsOf 32 = 1 := by kernel_rfl
theorem cl4 : Tryz.prog.cellsOf 4 = 1 := by kernel_rfl
noncomputable def flds (t : TypeId) : Array Field := match Tryz.prog.underlying t with
  | some (.struct fs) => fs
  | _ => #[]
noncomputable def fldT (t : TypeId) (i : Nat) : Option (TypeId × Nat) := ((flds t)[i]?).map fun f => (f.type, f.offset)
theorem ty36 : Tryz.prog.underlying 36 = some (.struct (flds 36)) := by kernel_rfl
theorem ty34 : Tryz.prog.underlying 34 = some (.struct (flds 34)) := by kernel_rfl
theorem f36_0 : fldT 36 0 = some (34, 0) := by kernel_rfl
theorem f36_1 : fldT 36 1 = some (34, 2) := by kernel_rfl
theorem f34_0 : fldT 34 0 = some (4, 0) := by kernel_rfl
theorem f34_1 : fldT 34 1 = some (32, 1) := by kernel_rfl
theorem fld_get {t : TypeId} {i : Nat} {p : TypeId × Nat} (h : fldT t i = some p) : ∃ f : Field, (flds t)[i]? = some f ∧ f.type = p.1 ∧ f.offset = p.2 := by
  unfold fldT at h
  cases hf : (flds t)[i]? with
  | none => rw [hf] at h; cases h
  | some f => rw [hf] at h; cases h; exact ⟨f, rfl, rfl, rfl⟩
variable {H : Type} {enc : TypeId × Value → H} {W : World}
theorem cell_lt {a : Addr} {v : Value} (h : W.cell? a = some v) : a.block < W.heap.size := by
  unfold World.cell? at h
  rcases Nat.lt_or_ge a.block W.heap.size with hl | hl
  · exact hl
  · rw [Array.getElem?_eq_none hl] at h
    simp at h
theorem cellAt_u32s {l : List Nat} {i j : Nat} {u : AV} (h : cellAt (u32s l) i j = some u) : j = 0 ∧ i < l.length ∧ u = .int .u32 (nth l i : Nat) := by
  unfold cellAt u32s at h
  rw [List.getElem?_map] at h
  cases hi : l[i]? with
  | none => rw [hi] at h; cases h
  | some y =>
    rw [hi] at h
    have hl := (List.getElem?_eq_some_iff.1 hi).1
    cases j with
    | zero =>
      cases h
      refine ⟨rfl, hl, ?_⟩
      unfold nth
      rw [List.getD_eq_getElem?_getD, hi]; rfl
    | succ k => cases h
theorem read_mag {fuel : Nat} {c : Value} {x : DataW H × List MemPlace} (h : DataW.trod enc Tryz.prog W 0 (fun _ => true) true fuel 32 [c] = some x) : ∃ l, Lb l ∧ VR W (fun _ => False) (lim l) c := by
  rcases Go.ChangeShapes.open_ints ty32 ty87 cl87 h with ⟨hc, _⟩ | ⟨a, len, cap, zs, hc, _, hl, hm, hz, _, hcell, hwf⟩
  · simp only [List.cons.injEq, and_true] at hc
    subst hc
    exact ⟨[], fun y hy => (by cases hy), .sl0 1 none 0⟩
  · simp only [List.cons.injEq, and_true] at hc
    subst hc
    simp at hz
    rcases Nat.eq_zero_or_pos len with h0 | h0
    · subst h0
      exact ⟨[], fun y hy => (by cases hy), .sl0 1 (some a) cap⟩
    · have h00 := hcell 0 (by omega)
      have hsp := World.cell?_spot h00
      have hbl := cell_lt h00
      obtain ⟨b, o, sp⟩ := a
      simp [Addr.add] at hsp hbl
      subst hsp
      have hzl : ∀ i, i < len → 0 ≤ zs.getD i 0 ∧ zs.getD i 0 ≤ 4294967295 := fun i hi => by
        have : zs.getD i 0 = zs[i]'(by omega) := by rw [List.getD_eq_getElem?_getD, List.getElem?_eq_getElem (by omega)]; rfl
        rw [this]
        exact Go.bounds_u32 (hwf _ (List.getElem_mem _))
      refine ⟨(List.range len).map fun i => (zs.getD i 0).toNat, fun y hy => ?_, ?_⟩
      · obtain ⟨i, hi, rfl⟩ := List.mem_map.1 hy
        have := hzl i (List.mem_range.1 hi)
        omega
      · have e : ((List.range len).map fun i => (zs.getD i 0).toNat).length = len := by simp
        have := VR.sl (w := W) (F := fun _ => False) 1 (u32s ((List.range len).map fun i => (zs.getD i 0).toNat)) b o cap (fun i _ => .int .u32 (zs.getD i 0)) (by simp) hbl (by simp; exact hl) (by
          intro v hv
          obtain ⟨y, _, rfl⟩ := List.mem_map.1 hv
          rfl) ?_ ?_
        · rw [u32s_length, e] at this
          exact this
        · intro i j u hu
          obtain ⟨rfl, q1, rfl⟩ := cellAt_u32s hu
          rw [e] at q1
          have := hzl i q1
          have hn : nth ((List.range len).map fun i => (zs.getD i 0).toNat) i = (zs.getD i 0).toNat := by
            unfold nth
            rw [List.getD_eq_getElem?_getD, List.getElem?_map, List.getElem?_range q1]
            rfl
          rw [hn, Int.toNat_of_nonneg this.1]
          exact .int _ _
        · intro i j u hu
          obtain ⟨rfl, q1, rfl⟩ := cellAt_u32s hu
          rw [e] at q1
          have := hcell i (by omega)
          rcases Nat.eq_zero_or_pos i with h' | h'
          · subst h'; simpa [Addr.add] using this
          · have h'' : i ≠ 0 := by omega
            simpa [Addr.add, h''] using this
set_option maxRecDepth 100000
theorem read_int {fuel : Nat} {cs : List Value} {x : DataW H × List MemPlace} (h : DataW.trod enc Tryz.prog W 0 (fun _ => true) true fuel 34 cs = some x) : ∃ n l c, cs = [.bool n, c] ∧ Lb l ∧ VR W (fun _ => False) (lim l) c := by
  obtain ⟨xs, n, _, rfl, hl, hlen, hf⟩ := DataW.trod_struct ty34 h
  rw [cl34] at hl
  obtain ⟨c0, c1, rfl⟩ : ∃ c0 c1, cs = [c0, c1] := by
    match cs, hl with
    | [c0, c1], _ => exact ⟨c0, c1, rfl⟩
  obtain ⟨f0, g1, g2, g3⟩ := fld_get f34_0
  obtain ⟨f1, k1, k2, k3⟩ := fld_get f34_1
  have h0 := hf 0 f0 g1
  have h1 := hf 1 f1 k1
  simp only at g2 g3 k2 k3
  rw [g2, g3, cl4] at h0
  rw [k2, k3, cl32] at h1
  have hs : xs.length = 2 := by rw [hlen]; kernel_rfl
  obtain ⟨b, hb, _⟩ := DataW.trod_bool ty4 (h0.trans (List.getElem?_eq_getElem (by omega)))
  obtain ⟨l, hl1, hl2⟩ := read_mag (h1.trans (List.getElem?_eq_getElem (by omega)))
  simp at hb
  exact ⟨b, l, c1, by rw [hb], hl1, hl2⟩
theorem read_rat {fuel : Nat} {cs : List Value} {x : DataW H × List MemPlace} (h : DataW.trod enc Tryz.prog W 0 (fun _ => true) true fuel 36 cs = some x) : ∃ r : RR, r.Lb ∧ cs.length = 4 ∧ ∀ (j : Nat) (u : AV), r.av.cells[j]? = some u → ∃ c, cs[j]? = some c ∧ VR W (fun _ => False) u c := by
  obtain ⟨xs, n, _, rfl, hl, hlen, hf⟩ := DataW.trod_struct ty36 h
  rw [cl36] at hl
  obtain ⟨c0, c1, c2, c3, rfl⟩ : ∃ c0 c1 c2 c3, cs = [c0, c1, c2, c3] := by
    match cs, hl with
    | [c0, c1, c2, c3], _ => exact ⟨c0, c1, c2, c3, rfl⟩
  obtain ⟨f0, g1, g2, g3⟩ := fld_get f36_0
  obtain ⟨f1, k1, k2, k3⟩ := fld_get f36_1
  have h0 := hf 0 f0 g1
  have h1 := hf 1 f1 k1
  simp only at g2 g3 k2 k3
  rw [g2, g3, cl34] at h0
  rw [k2, k3, cl34] at h1
  have hs : xs.length = 2 := by rw [hlen]; kernel_rfl
  obtain ⟨n1, l1, d1, e1, b1, v1⟩ := read_int (h0.trans (List.getElem?_eq_getElem (by omega)))
  obtain ⟨n2, l2, d2, e2, b2, v2⟩ := read_int (h1.trans (List.getElem?_eq_getElem (by omega)))
  simp at e1 e2
  obtain ⟨rfl, rfl⟩ := e1
  obtain ⟨rfl, rfl⟩ := e2
  refine ⟨⟨n1, l1, n2, l2⟩, ⟨b1, b2⟩, rfl, fun j u hu => ?_⟩
  match j, hu with
  | 0, hu => cases hu; exact ⟨_, rfl, .bool _⟩
  | 1, hu => cases hu; exact ⟨_, rfl, v1⟩
  | 2, hu => cases hu; exact ⟨_, rfl, .bool _⟩
  | 3, hu => cases hu; exact ⟨_, rfl, v2⟩
  | k + 4, hu => cases hu
end Go.Av
end
section
namespace Go.Av
open Go.Proofs
variable {H : Type} {enc : TypeId × Value → H} {W : World}
theorem choose_fun {α : Type} [Inhabited α] {n : Nat} {p : Nat → α → Prop} (h : ∀ i, i < n → ∃ a, p i a) : ∃ f : Nat → α, ∀ i, i < n → p i (f i) := by
  classical
  exact ⟨fun i => if hi : i < n then Classical.choose (h i hi) else default, fun i hi => by
    simp only [dif_pos hi]
    exact Classical.choose_spec (h i hi)⟩
theorem addr_add2 (b o i j : Nat) : ((⟨b, o, none⟩ : Addr).add i).add j = ⟨b, o + (i + j), none⟩ := by
  by_cases hi : i = 0
  · subst hi
    by_cases hj : j = 0
    · subst hj; simp [Addr.add]
    · simp [Addr.add, hj]
  · by_cases hj : j = 0
    · subst hj; simp [Addr.add, hi]
    · simp [Addr.add, hi, hj, Nat.add_assoc]
theorem read_row {fuel : Nat} {c : Value} {x : DataW H × List MemPlace} (h : DataW.trod enc Tryz.prog W 0 (fun _ => true) true fuel 42 [c] = some x) : ∃ r : List RR, (∀ y ∈ r, y.Lb) ∧ VR W (fun _ => False) (rowAV r) c := by
  rcases Go.Deep.open_slice ty42 h with ⟨hc, _⟩ | ⟨a, len, cap, m, n, D, Pl, hc, _, hl, hm, hmm, _, hx⟩
  · simp only [List.cons.injEq, and_true] at hc
    subst hc
    exact ⟨[], fun y hy => (by cases hy), .sl0 4 none 0⟩
  · simp only [List.cons.injEq, and_true] at hc
    subst hc
    simp at hmm
    subst hmm
    rcases Nat.eq_zero_or_pos len with h0 | h0
    · subst h0
      exact ⟨[], fun y hy => (by cases hy), .sl0 4 (some a) m⟩
    · rw [cl36] at hx
      obtain ⟨C, hC⟩ := choose_fun (α := List Value) (p := fun i cs => W.cells? 0 (a.add (i * 4)) 4 = some cs ∧ DataW.trod enc Tryz.prog W 0 (fun _ => true) true n 36 cs = some (D i, Pl i)) (n := len) (fun i hi => hx i (by omega))
      obtain ⟨R, hR⟩ := choose_fun (α := RR) (n := len) (fun i hi => read_rat (hC i hi).2)
      have hcell : ∀ i, i < len → ∀ j, j < 4 → W.cell? ((a.add (i * 4)).add j) = (C i)[j]? := fun i hi => (World.cells?_some (hC i hi).1).2.2
      obtain ⟨c00, hc00, _⟩ := (hR 0 h0).2.2 0 (.bool (R 0).n1) rfl
      have h00 := (hcell 0 h0 0 (by omega)).trans hc00
      have hsp := World.cell?_spot h00
      have hbl := cell_lt h00
      obtain ⟨b, o, sp⟩ := a
      simp [Addr.add] at hsp hbl
      subst hsp
      have hcellAt : ∀ i j u, cellAt (rrs ((List.range len).map R)) i j = some u → i < len ∧ (R i).av.cells[j]? = some u := by
        intro i j u hu
        unfold cellAt rrs at hu
        rw [List.map_map, List.getElem?_map] at hu
        by_cases hi : i < len
        · rw [List.getElem?_range hi] at hu
          exact ⟨hi, hu⟩
        · rw [List.getElem?_eq_none (by simp; omega)] at hu
          cases hu
      refine ⟨(List.range len).map R, fun y hy => ?_, ?_⟩
      · obtain ⟨i, hi, rfl⟩ := List.mem_map.1 hy
        exact (hR i (List.mem_range.1 hi)).1
      · have := VR.sl (w := W) (F := fun _ => False) 4 (rrs ((List.range len).map R)) b o m (fun i j => ((C i)[j]?).getD (.bool false)) (by simp) hbl (by simp; exact hl) (by
          intro v hv
          obtain ⟨y, _, rfl⟩ := List.mem_map.1 hv
          rfl) (fun i j u hu => by
            obtain ⟨hi, hu⟩ := hcellAt i j u hu
            obtain ⟨c, q1, q2⟩ := (hR i hi).2.2 j u hu
            rw [q1]; exact q2) (fun i j u hu => by
            obtain ⟨hi, hu⟩ := hcellAt i j u hu
            obtain ⟨c, q1, q2⟩ := (hR i hi).2.2 j u hu
            have hj : j < 4 := by
              have := (List.getElem?_eq_some_iff.1 q1).1
              rw [(hR i hi).2.1] at this; exact this
            have := hcell i hi j hj
            rw [addr_add2, q1] at this
            rw [this, q1]; rfl)
        rw [rrs_length, List.length_map, List.length_range] at this
        exact this
theorem read_mat {fuel : Nat} {c : Value} {x : DataW H × List MemPlace} (h : DataW.trod enc Tryz.prog W 0 (fun _ => true) true fuel 22 [c] = some x) : ∃ m : List (List RR), LbM m ∧ VR W (fun _ => False) (matAV m) c := by
  rcases Go.Deep.open_slice1 ty22 cl42 h with ⟨hc, _⟩ | ⟨a, len, cap, m, n, V, D, Pl, hc, _, hl, hm, hmm, _, hx⟩
  · simp only [List.cons.injEq, and_true] at hc
    subst hc
    exact ⟨[], fun y hy => (by cases hy), .sl0 1 none 0⟩
  · simp only [List.cons.injEq, and_true] at hc
    subst hc
    simp at hmm
    subst hmm
    rcases Nat.eq_zero_or_pos len with h0 | h0
    · subst h0
      exact ⟨[], fun y hy => (by cases hy), .sl0 1 (some a) m⟩
    · obtain ⟨R, hR⟩ := choose_fun (α := List RR) (n := len) (fun i hi => read_row (hx i (by omega)).2)
      have h00 := (hx 0 (by omega)).1
      have hsp := World.cell?_spot h00
      have hbl := cell_lt h00
      obtain ⟨b, o, sp⟩ := a
      simp [Addr.add] at hsp hbl
      subst hsp
      have hcellAt : ∀ i j u, cellAt (((List.range len).map R).map rowAV) i j = some u → i < len ∧ j = 0 ∧ u = rowAV (R i) := by
        intro i j u hu
        unfold cellAt at hu
        rw [List.map_map, List.getElem?_map] at hu
        by_cases hi : i < len
        · rw [List.getElem?_range hi] at hu
          cases j with
          | zero => cases hu; exact ⟨hi, rfl, rfl⟩
          | succ k => cases hu
        · rw [List.getElem?_eq_none (by simp; omega)] at hu
          cases hu
      refine ⟨(List.range len).map R, fun y hy => ?_, ?_⟩
      · obtain ⟨i, hi, rfl⟩ := List.mem_map.1 hy
        exact (hR i (List.mem_range.1 hi)).1
      · have := VR.sl (w := W) (F := fun _ => False) 1 (((List.range len).map R).map rowAV) b o m (fun i _ => V i) (by simp) hbl (by simp; exact hl) (by
          intro v hv
          obtain ⟨y, _, rfl⟩ := List.mem_map.1 hv
          rfl) (fun i j u hu => by
            obtain ⟨hi, rfl, rfl⟩ := hcellAt i j u hu
            exact (hR i hi).2) (fun i j u hu => by
            obtain ⟨hi, rfl, rfl⟩ := hcellAt i j u hu
            have := (hx i (by omega)).1
            rcases Nat.eq_zero_or_pos i with h' | h'
            · subst h'; simpa [Addr.add] using this
            · have h'' : i ≠ 0 := by omega
              simpa [Addr.add, h''] using this)
        rw [List.length_map, List.length_map, List.length_range] at this
        exact this
end Go.Av
end
section
namespace Go.Av
open Go.Proofs
variable {H : Type} {enc : TypeId × Value → H} {W : World}
theorem call_two {f : FuncId} {x y : AV} (hf : ACall Tryz.prog f [x, y] Mem.emp fun v mm => v = .bool true ∧ mm = Mem.emp) {c c' : Value} (hx : VR W (fun _ => False) x c) (hy : VR W (fun _ => False) y c') :
    Calls Tryz.prog f #[c, c'] W fun e W' => e = .returned (.bool true) ∧ RowKit.Below W.heap.size W W' := by
  have hO : Own (fun _ => False) Mem.emp = fun _ => False := by funext b; simp [Own, Mem.emp]
  refine (hf.2 W (fun _ => False) #[c, c'] (fun b hb => hb.elim) (fun b x hx => by cases hx) ?_).mono ?_
  · rw [hO]
    refine ⟨rfl, fun j u v hu hv' => ?_⟩
    match j, hu with
    | 0, hu => cases hu; cases hv'; exact hx
    | 1, hu => cases hu; cases hv'; exact hy
    | k + 2, hu => cases hu
  · rintro e W' ⟨v, cv, g', rfl, ⟨rfl, _⟩, _, hvr, hg, _⟩
    cases hvr
    exact ⟨rfl, ⟨hg.os, hg.tape, hg.output, hg.size, fun k hk => hg.block k hk (by simp [Mem.emp])⟩⟩
end Go.Av
end
section
namespace Go.Av
open Go.Proofs
def sumN : Nat → (Nat → Rat) → Rat
  | 0, _ => 0
  | n + 1, f => sumN n f + f n
theorem sumN_succ (n : Nat) (f : Nat → Rat) : sumN (n + 1) f = sumN n f + f n := rfl
theorem sumN_congr {n : Nat} {f g : Nat → Rat} (h : ∀ i, i < n → f i = g i) : sumN n f = sumN n g := by
  induction n with
  | zero => rfl
  | succ n ih => rw [sumN_succ, sumN_succ, ih (fun i hi => h i (by omega)), h n (by omega)]
theorem sumN_zero {n : Nat} {f : Nat → Rat} (h : ∀ i, i < n → f i = 0) : sumN n f = 0 := by
  induction n with
  | zero => rfl
  | succ n ih => rw [sumN_succ, ih (fun i hi => h i (by omega)), h n (by omega)]; grind
theorem sumN_add (n : Nat) (f g : Nat → Rat) : sumN n (fun i => f i + g i) = sumN n f + sumN n g := by
  induction n with
  | zero => show (0 : Rat) = 0 + 0; grind
  | succ n ih => rw [sumN_succ, sumN_succ, sumN_succ, ih]; grind
theorem sumN_mul (n : Nat) (c : Rat) (f : Nat → Rat) : sumN n (fun i => c * f i) = c * sumN n f := by
  induction n with
  | zero => show (0 : Rat) = c * 0; grind
  | succ n ih => rw [sumN_succ, sumN_succ, ih]; grind
theorem sumN_single {n k : Nat} {f : Nat → Rat} (hk : k < n) (h : ∀ i, i < n → i ≠ k → f i = 0) : sumN n f = f k := by
  induction n with
  | zero => omega
  | succ n ih =>
    rw [sumN_succ]
    by_cases e : k = n
    · subst e
      rw [sumN_zero fun i hi => h i (by omega) (by omega)]; grind
    · rw [ih (by omega) fun i hi => h i (by omega), h n (by omega) (fun h => e h.symm)]; grind
theorem sumN_comm (n m : Nat) (f : Nat → Nat → Rat) : sumN n (fun i => sumN m (f i)) = sumN m fun j => sumN n fun i => f i j := by
  induction n with
  | zero => exact (sumN_zero fun _ _ => rfl).symm
  | succ n ih =>
    rw [sumN_succ, ih, ← sumN_add]
    rfl
/-- A row on a vector. -/
def dotV (w : Nat) (r v : Nat → Rat) : Rat := sumN w fun l => r l * v l
theorem dotV_congr {w : Nat} {r r' v v' : Nat → Rat} (h : ∀ l, l < w → r l = r' l) (h2 : ∀ l, l < w → v l = v' l) : dotV w r v = dotV w r' v' := sumN_congr fun l hl => by rw [h l hl, h2 l hl]
theorem dotV_sub (w : Nat) (r s v : Nat → Rat) (c : Rat) : dotV w (fun l => r l - s l * c) v = dotV w r v - c * dotV w s v := by
  unfold dotV
  rw [← sumN_mul]
  have : sumN w (fun l => (r l - s l * c) * v l) = sumN w (fun l => r l * v l + (-1) * (c * (s l * v l))) := sumN_congr fun l _ => by grind
  rw [this, sumN_add, sumN_mul]; grind
theorem dotV_div (w : Nat) (r v : Nat → Rat) (c : Rat) : dotV w (fun l => r l / c) v = dotV w r v / c := by
  unfold dotV
  have : sumN w (fun l => r l / c * v l) = sumN w (fun l => c⁻¹ * (r l * v l)) := sumN_congr fun l _ => by grind
  rw [this, sumN_mul]; grind
/-! ### Exact results -/
theorem addQ_eq {a b c : Rat} (h : addQ a b = some c) : c = a + b := by unfold addQ at h; split at h <;> cases h; rfl
theorem subQ_eq {a b c : Rat} (h : subQ a b = some c) : c = a - b := by unfold subQ at h; split at h <;> cases h; rfl
theorem mulQ_eq {a b c : Rat} (h : mulQ a b = some c) : c = a * b := by unfold mulQ at h; split at h <;> cases h; rfl
theorem divQ_eq {a b c : Rat} (h : divQ a b = some c) : c = a / b := by unfold divQ at h; split at h <;> cases h; rfl
theorem lessQ_eq {a f b c : Rat} (h : lessQ a f b = some c) : c = a - b * f := by
  unfold lessQ at h
  cases hm : mulQ b f with
  | none => rw [hm] at h; cases h
  | some p => rw [hm] at h; rw [subQ_eq h, mulQ_eq hm]
theorem qat_set {r : List Rat} {k : Nat} (hk : k < r.length) (x : Rat) (i : Nat) : qat (r.set k x) i = if i = k then x else qat r i := by
  unfold qat
  rw [List.getD_eq_getElem?_getD, List.getElem?_set]
  by_cases e : k = i
  · subst e; rw [if_pos rfl, if_pos hk, if_pos rfl]; rfl
  · rw [if_neg e, if_neg (Ne.symm e), ← List.getD_eq_getElem?_getD]
/-- A row that is changed place by place, from a place on. -/
theorem rowIter {op : Rat → Nat → Option Rat} {f : Nat → List Rat → Option (List Rat)} {o : Nat} (hf : ∀ t r, f t r = rowStep op (o + t) r) : ∀ {n : Nat} {row row' : List Rat}, o + n ≤ row.length → iterO f n row = some row' →
    row'.length = row.length ∧ (∀ k, k < n → op (qat row (o + k)) (o + k) = some (qat row' (o + k))) ∧ ∀ k, k < o ∨ o + n ≤ k → qat row' k = qat row k
  | 0, row, row', _, h => by cases h; exact ⟨rfl, fun k hk => by omega, fun _ _ => rfl⟩
  | n + 1, row, row', hl, h => by
    rw [iterO_succ] at h
    cases hs : iterO f n row with
    | none => rw [hs] at h; cases h
    | some u =>
      rw [hs] at h
      obtain ⟨h1, h2, h3⟩ := rowIter hf (by omega) hs
      replace h : f n u = some row' := h
      rw [hf] at h
      unfold rowStep at h
      cases ho : op (qat u (o + n)) (o + n) with
      | none => rw [ho] at h; cases h
      | some x =>
        rw [ho] at h
        cases h
        have hk : o + n < u.length := by omega
        refine ⟨by rw [List.length_set, h1], fun k hk' => ?_, fun k hk' => ?_⟩
        · rw [qat_set hk]
          by_cases e : k = n
          · subst e; rw [if_pos rfl, ← h3 (o + k) (by omega)]; exact ho
          · rw [if_neg (by omega)]; exact h2 k (by omega)
        · rw [qat_set hk, if_neg (by omega)]; exact h3 k (by omega)
theorem qel_set {M : List (List Rat)} {i : Nat} (hi : i < M.length) (r : List Rat) (a b : Nat) : qel (M.set i r) a b = if a = i then qat r b else qel M a b := by
  unfold qel
  rw [mrow_set hi]
  split <;> rfl
theorem qel_swap {M : List (List Rat)} {i r : Nat} (hi : i < M.length) (hr : r < M.length) (a b : Nat) : qel (swapL M i r) a b = if a = r then qel M i b else if a = i then qel M r b else qel M a b := by
  unfold qel
  rw [mrow_swap hi hr]
  split
  · rfl
  · split <;> rfl
theorem elim_spec {n w r j i : Nat} {M M' : List (List Rat)} (h : matGood n w M) (hi : i < n) (he : elimStep r j i M = some M') : M'.length = n ∧ ∀ a b, b < w → qel M' a b = if a = i ∧ i ≠ r then qel M a b - qel M r b * qel M a j else qel M a b := by
  unfold elimStep at he
  by_cases hc : i = r ∨ qel M i j = 0
  · rw [if_pos hc] at he
    cases he
    refine ⟨h.2.2, fun a b hb => ?_⟩
    split
    · rename_i hh
      rw [hh.1, hc.resolve_left hh.2]; grind
    · rfl
  · rw [if_neg hc] at he
    have hl : (mrow M i).length = w := (h.row hi).2
    rw [hl] at he
    cases hm : iterO (subStep (mrow M r) (qel M i j)) w (mrow M i) with
    | none => rw [hm] at he; cases he
    | some row =>
      rw [hm] at he
      cases he
      obtain ⟨k1, k2, k3⟩ := rowIter (o := 0) (op := fun q k => lessQ q (qel M i j) (qat (mrow M r) k)) (fun t r => by rw [Nat.zero_add]; rfl) (by omega) hm
      refine ⟨by rw [List.length_set]; exact h.2.2, fun a b hb => ?_⟩
      rw [qel_set (by rw [h.2.2]; exact hi)]
      by_cases e : a = i
      · subst e; rw [if_pos rfl, if_pos ⟨rfl, fun h => hc (.inl h)⟩]
        have := k2 b hb
        rw [Nat.zero_add] at this
        exact lessQ_eq this
      · rw [if_neg e, if_neg (fun h => e h.1)]
theorem clear_spec {n w r j : Nat} {M Y : List (List Rat)} (h : matGood n w M) (hr : r < n) (hd : qel M r j ≠ 0) (hj : j < w) (he : clearQ M j r = some Y) : matGood n w Y ∧ ∀ a b, a < n → b < w → qel Y a b = if a = r then qel M r b / qel M r j else qel M a b - qel M r b / qel M r j * qel M a j := by
  refine ⟨clear_keep hr h hd he, ?_⟩
  unfold clearQ at he
  have hl : (mrow M r).length = w := (h.row hr).2
  rw [hl] at he
  cases hm : iterO (divStep (qel M r j)) w (mrow M r) with
  | none => rw [hm] at he; cases he
  | some row =>
    rw [hm] at he
    replace he : iterO (elimStep r j) M.length (M.set r row) = some Y := he
    rw [h.2.2] at he
    obtain ⟨k1, k2, k3⟩ := rowIter (o := 0) (op := fun q _ => divQ q (qel M r j)) (fun t r => by rw [Nat.zero_add]; rfl) (by omega) hm
    have hrow : ∀ b, b < w → qat row b = qel M r b / qel M r j := fun b hb => by
      have := k2 b hb
      rw [Nat.zero_add] at this
      exact divQ_eq this
    have hg1 : matGood n w (M.set r row) := h.set r (iter_keep (p := fun row => rowGood row ∧ row.length = w) (fun k s t hs hst => rowStep_keep (fun q k x hx => good_div hd hx) hs hst) (h.row hr) hm)
    have h1 : ∀ a b, qel (M.set r row) a b = if a = r then qat row b else qel M a b := fun a b => qel_set (by rw [h.2.2]; exact hr) row a b
    have key : ∀ (i : Nat) (Z : List (List Rat)), i ≤ n → iterO (elimStep r j) i (M.set r row) = some Z → matGood n w Z ∧ ∀ a b, b < w → qel Z a b = if a = r then qat row b else if a < i then qel M a b - qat row b * qel M a j else qel M a b := by
      intro i
      induction i with
      | zero =>
        intro Z _ hZ
        cases hZ
        refine ⟨hg1, fun a b _ => ?_⟩
        rw [h1, if_neg (show ¬ a < 0 by omega)]
      | succ i ih =>
        intro Z hi hZ
        rw [iterO_succ] at hZ
        cases hs : iterO (elimStep r j) i (M.set r row) with
        | none => rw [hs] at hZ; cases hZ
        | some U =>
          rw [hs] at hZ
          obtain ⟨g1, g2⟩ := ih U (by omega) hs
          have hZ' : elimStep r j i U = some Z := hZ
          refine ⟨elim_keep (by omega) g1 hZ', fun a b hb => ?_⟩
          rw [(elim_spec g1 (by omega) hZ').2 a b hb]
          by_cases e : a = i ∧ i ≠ r
          · obtain ⟨rfl, e2⟩ := e
            rw [if_pos ⟨rfl, e2⟩, if_neg e2, if_pos (by omega), g2 a b hb, g2 r b hb, g2 a j hj, if_neg e2, if_neg (by omega), if_pos rfl, if_neg e2, if_neg (by omega)]
          · rw [if_neg e, g2 a b hb]
            by_cases e1 : a = r
            · rw [if_pos e1, if_pos e1]
            · rw [if_neg e1, if_neg e1]
              by_cases e2 : a < i
              · rw [if_pos e2, if_pos (by omega)]
              · rw [if_neg e2, if_neg]
                intro h3
                exact e ⟨by omega, by omega⟩
    intro a b ha hb
    rw [(key n Y (Nat.le_refl _) he).2 a b hb]
    by_cases e : a = r
    · rw [if_pos e, if_pos e, hrow b hb]
    · rw [if_neg e, if_neg e, if_pos ha, hrow b hb]
end Go.Av
end
section
namespace Go.Av
open Go.Proofs
theorem sumN_two {n k l : Nat} {f : Nat → Rat} (hk : k < n) (hl : l < n) (hne : k ≠ l) (h : ∀ i, i < n → i ≠ k → i ≠ l → f i = 0) : sumN n f = f k + f l := by
  have e : sumN n f = sumN n (fun i => (if i = k then f k else 0) + if i = l then f l else 0) := sumN_congr fun i hi => by
    by_cases h1 : i = k
    · subst h1; rw [if_pos rfl, if_neg hne]; grind
    · by_cases h2 : i = l
      · subst h2; rw [if_neg h1, if_pos rfl]; grind
      · rw [if_neg h1, if_neg h2, h i hi h1 h2]; grind
  rw [e, sumN_add, sumN_single hk fun i _ h => if_neg h, sumN_single hl fun i _ h => if_neg h, if_pos rfl, if_pos rfl]
abbrev MF := Nat → Nat → Rat
def sgnN (i : Nat) : Rat := if i % 2 = 0 then 1 else -1
theorem sgnN_succ (i : Nat) : sgnN (i + 1) = -sgnN i := by
  unfold sgnN
  by_cases h : i % 2 = 0
  · rw [if_pos h, if_neg (by omega)]
  · rw [if_neg h, if_pos (by omega)]; grind
def skipN (i a : Nat) : Nat := if a < i then a else a + 1
def minorF (i : Nat) (M : MF) : MF := fun a b => M (skipN i a) (b + 1)
def detF : Nat → MF → Rat
  | 0, _ => 1
  | n + 1, M => sumN (n + 1) fun i => sgnN i * M i 0 * detF n (minorF i M)
theorem skip_lt {n i a : Nat} (h : a < n) : skipN i a < n + 1 := by unfold skipN; split <;> omega
theorem skip_ne (i a : Nat) : skipN i a ≠ i := by unfold skipN; split <;> omega
theorem detF_congr : ∀ {n : Nat} {M M' : MF}, (∀ a b, a < n → b < n → M a b = M' a b) → detF n M = detF n M'
  | 0, _, _, _ => rfl
  | n + 1, M, M', h => sumN_congr fun i hi => by
    rw [h i 0 hi (by omega), detF_congr (n := n) (M := minorF i M) (M' := minorF i M') fun a b ha hb => h _ _ (skip_lt ha) (by omega)]
/-- Functions of the rows: linear in each, zero if two are equal. -/
structure RowF (n : Nat) (F : MF → Rat) : Prop where
  congr : ∀ {M M' : MF}, (∀ a b, a < n → b < n → M a b = M' a b) → F M = F M'
  lin : ∀ {r : Nat} {c : Rat} {M U V : MF}, r < n → (∀ b, b < n → M r b = c * U r b + V r b) → (∀ a b, a < n → b < n → a ≠ r → U a b = M a b) → (∀ a b, a < n → b < n → a ≠ r → V a b = M a b) → F M = c * F U + F V
  alt : ∀ {r s : Nat} {M : MF}, r < n → s < n → r ≠ s → (∀ b, b < n → M r b = M s b) → F M = 0
theorem detF_lin : ∀ {n : Nat} {r : Nat} {c : Rat} {M U V : MF}, r < n → (∀ b, b < n → M r b = c * U r b + V r b) → (∀ a b, a < n → b < n → a ≠ r → U a b = M a b) → (∀ a b, a < n → b < n → a ≠ r → V a b = M a b) → detF n M = c * detF n U + detF n V
  | 0, r, c, M, U, V, hr, _, _, _ => by omega
  | n + 1, r, c, M, U, V, hr, h, hU, hV => by
    show sumN (n + 1) (fun i => sgnN i * M i 0 * detF n (minorF i M)) = c * sumN (n + 1) (fun i => sgnN i * U i 0 * detF n (minorF i U)) + sumN (n + 1) (fun i => sgnN i * V i 0 * detF n (minorF i V))
    rw [← sumN_mul, ← sumN_add]
    refine sumN_congr fun i hi => ?_
    by_cases e : i = r
    · subst e
      have e1 : detF n (minorF i U) = detF n (minorF i M) := detF_congr fun a b ha hb => hU _ _ (skip_lt ha) (by omega) (skip_ne i a)
      have e2 : detF n (minorF i V) = detF n (minorF i M) := detF_congr fun a b ha hb => hV _ _ (skip_lt ha) (by omega) (skip_ne i a)
      rw [e1, e2, h 0 (by omega)]; grind
    · have e1 : detF n (minorF i M) = c * detF n (minorF i U) + detF n (minorF i V) := by
        have hs : skipN i (if r < i then r else r - 1) = r := by
          by_cases q : r < i
          · rw [if_pos q]; exact if_pos q
          · rw [if_neg q]; unfold skipN; rw [if_neg (by omega)]; omega
        refine detF_lin (r := if r < i then r else r - 1) (by split <;> omega) (fun b hb => ?_) (fun a b ha hb hne => ?_) (fun a b ha hb hne => ?_)
        · show M (skipN i _) (b + 1) = c * U (skipN i _) (b + 1) + V (skipN i _) (b + 1)
          rw [hs]; exact h _ (by omega)
        · refine hU _ _ (skip_lt ha) (by omega) fun e3 => hne ?_
          unfold skipN at e3; split at e3 <;> split <;> omega
        · refine hV _ _ (skip_lt ha) (by omega) fun e3 => hne ?_
          unfold skipN at e3; split at e3 <;> split <;> omega
      rw [e1, hU i 0 hi (by omega) e, hV i 0 hi (by omega) e]; grind
theorem detF_adj : ∀ {n : Nat} {r : Nat} {M : MF}, r + 1 < n → (∀ b, b < n → M r b = M (r + 1) b) → detF n M = 0
  | 0, r, M, hr, _ => by omega
  | n + 1, r, M, hr, h => by
    show sumN (n + 1) (fun i => sgnN i * M i 0 * detF n (minorF i M)) = 0
    rw [sumN_two (k := r) (l := r + 1) (by omega) hr (by omega) fun i hi h1 h2 => by
      have : detF n (minorF i M) = 0 := by
        refine detF_adj (r := if i < r then r - 1 else r) (by split <;> omega) fun b hb => ?_
        show M (skipN i _) (b + 1) = M (skipN i _) (b + 1)
        by_cases e : i < r
        · rw [if_pos e]
          have e1 : skipN i (r - 1) = r := by unfold skipN; split <;> omega
          have e2 : skipN i (r - 1 + 1) = r + 1 := by unfold skipN; split <;> omega
          rw [e1, e2]; exact h _ (by omega)
        · rw [if_neg e]
          have e1 : skipN i r = r := by unfold skipN; split <;> omega
          have e2 : skipN i (r + 1) = r + 1 := by unfold skipN; split <;> omega
          rw [e1, e2]; exact h _ (by omega)
      rw [this]; grind]
    have e : detF n (minorF r M) = detF n (minorF (r + 1) M) := detF_congr fun a b ha hb => by
      show M (skipN r a) (b + 1) = M (skipN (r + 1) a) (b + 1)
      by_cases e : a = r
      · subst e
        have e1 : skipN a a = a + 1 := by unfold skipN; split <;> omega
        have e2 : skipN (a + 1) a = a := by unfold skipN; split <;> omega
        rw [e1, e2]; exact (h _ (by omega)).symm
      · have e1 : skipN r a = skipN (r + 1) a := by unfold skipN; split <;> split <;> omega
        rw [e1]
    rw [e, sgnN_succ, h 0 (by omega)]; grind
def swapF (M : MF) (r s : Nat) : MF := fun a b => if a = r then M s b else if a = s then M r b else M a b
theorem swap_of_alt {n r s : Nat} {F : MF → Rat} (hr : r < n) (hs : s < n) (hne : r ≠ s) (congr : ∀ {M M' : MF}, (∀ a b, a < n → b < n → M a b = M' a b) → F M = F M')
    (lin : ∀ {r : Nat} {c : Rat} {M U V : MF}, r < n → (∀ b, b < n → M r b = c * U r b + V r b) → (∀ a b, a < n → b < n → a ≠ r → U a b = M a b) → (∀ a b, a < n → b < n → a ≠ r → V a b = M a b) → F M = c * F U + F V)
    (alt : ∀ M : MF, (∀ b, b < n → M r b = M s b) → F M = 0) (M : MF) : F (swapF M r s) = -F M := by
  have W := fun (x y : Nat → Rat) (a b : Nat) => if a = r then x b else if a = s then y b else M a b
  let W : (Nat → Rat) → (Nat → Rat) → MF := fun x y a b => if a = r then x b else if a = s then y b else M a b
  let u := M r
  let v := M s
  let t : Nat → Rat := fun b => M r b + M s b
  have l1 : ∀ z, F (W t z) = F (W u z) + F (W v z) := fun z => by
    have := lin (r := r) (c := 1) (M := W t z) (U := W u z) (V := W v z) hr (fun b _ => by simp only [W, if_pos, u, v, t]; grind) (fun a b _ _ hn => by simp only [W, if_neg hn]) (fun a b _ _ hn => by simp only [W, if_neg hn])
    rw [this]; grind
  have l2 : ∀ z, F (W z t) = F (W z u) + F (W z v) := fun z => by
    have := lin (r := s) (c := 1) (M := W z t) (U := W z u) (V := W z v) hs (fun b _ => by simp only [W, if_neg (Ne.symm hne), if_pos, u, v, t]; grind) (fun a b _ _ hn => by simp only [W, if_neg hn]) (fun a b _ _ hn => by simp only [W, if_neg hn])
    rw [this]; grind
  have z : ∀ x, F (W x x) = 0 := fun x => alt _ fun b _ => by simp only [W, if_pos, if_neg (Ne.symm hne)]
  have e1 : F (W u v) = F M := congr fun a b _ _ => by
    simp only [W, u, v]
    by_cases h1 : a = r
    · rw [if_pos h1, h1]
    · rw [if_neg h1]
      by_cases h2 : a = s
      · rw [if_pos h2, h2]
      · rw [if_neg h2]
  have e2 : F (W v u) = F (swapF M r s) := congr fun a b _ _ => rfl
  have h1 := l1 t
  rw [z t, l2 u, l2 v, z u, z v, e1, e2] at h1
  grind
theorem detF_eq : ∀ {n : Nat} (k : Nat) {r : Nat} {M : MF}, r + k + 1 < n → (∀ b, b < n → M r b = M (r + k + 1) b) → detF n M = 0
  | n, 0, r, M, hr, h => detF_adj hr h
  | n, k + 1, r, M, hr, h => by
    have hs := swap_of_alt (F := detF n) (r := r + k + 1) (s := r + k + 2) (by omega) (by omega) (by omega) detF_congr detF_lin (fun M hM => detF_adj (r := r + k + 1) (by omega) hM) M
    have h0 : detF n (swapF M (r + k + 1) (r + k + 2)) = 0 := detF_eq k (r := r) (by omega) fun b hb => by
      unfold swapF
      rw [if_neg (by omega), if_neg (by omega), if_pos rfl]
      exact h b hb
    rw [h0] at hs
    grind
theorem detF_row (n : Nat) : RowF n (detF n) where
  congr := detF_congr
  lin := detF_lin
  alt := fun {r s M} hr hs hne h => by
    rcases Nat.lt_or_gt_of_ne hne with hl | hl
    · exact detF_eq (s - r - 1) (r := r) (by omega) fun b hb => by rw [show r + (s - r - 1) + 1 = s by omega]; exact h b hb
    · exact detF_eq (r - s - 1) (r := s) (by omega) fun b hb => by rw [show s + (r - s - 1) + 1 = r by omega]; exact (h b hb).symm
theorem RowF.swap {n : Nat} {F : MF → Rat} (h : RowF n F) {r s : Nat} (hr : r < n) (hs : s < n) (hne : r ≠ s) (M : MF) : F (swapF M r s) = -F M :=
  swap_of_alt hr hs hne h.congr h.lin (fun M hM => h.alt hr hs hne hM) M
def idF : MF := fun a b => if a = b then 1 else 0
theorem detF_id : ∀ n, detF n idF = 1
  | 0 => rfl
  | n + 1 => by
    show sumN (n + 1) (fun i => sgnN i * idF i 0 * detF n (minorF i idF)) = 1
    rw [sumN_single (k := 0) (by omega) fun i _ hi => by unfold idF; rw [if_neg hi]; grind]
    rw [detF_congr (M' := idF) fun a b ha hb => by
      show idF (skipN 0 a) (b + 1) = idF a b
      rw [show skipN 0 a = a + 1 from if_neg (by omega)]
      unfold idF
      by_cases e : a = b
      · rw [if_pos e, if_pos (by omega)]
      · rw [if_neg e, if_neg (by omega)], detF_id n]
    unfold sgnN idF
    simp
def setF (M : MF) (r : Nat) (u : Nat → Rat) : MF := fun a b => if a = r then u b else M a b
def eF (j : Nat) : Nat → Rat := fun b => if b = j then 1 else 0
theorem RowF.sum {n : Nat} {F : MF → Rat} (h : RowF n F) {k : Nat} (hk : k < n) (M : MF) : F M = sumN n fun j => M k j * F (setF M k (eF j)) := by
  have key : ∀ t, F (setF M k fun b => if b < t then M k b else 0) = sumN t fun j => M k j * F (setF M k (eF j)) := by
    intro t
    induction t with
    | zero =>
      have := h.lin (r := k) (c := 1) (M := setF M k fun b => if b < 0 then M k b else 0) (U := setF M k fun b => if b < 0 then M k b else 0) (V := setF M k fun b => if b < 0 then M k b else 0) hk (fun b _ => by unfold setF; rw [if_pos rfl]; dsimp only; rw [if_neg (by omega)]; grind) (fun _ _ _ _ _ => rfl) (fun _ _ _ _ _ => rfl)
      show _ = (0 : Rat)
      grind
    | succ t ih =>
      rw [sumN_succ, ← ih]
      have := h.lin (r := k) (c := M k t) (M := setF M k fun b => if b < t + 1 then M k b else 0) (U := setF M k (eF t)) (V := setF M k fun b => if b < t then M k b else 0) hk (fun b _ => by
        unfold setF eF
        rw [if_pos rfl, if_pos rfl, if_pos rfl]
        dsimp only
        by_cases e : b = t
        · subst e; rw [if_pos (by omega), if_pos rfl, if_neg (by omega)]; grind
        · rw [if_neg e]
          by_cases e2 : b < t
          · rw [if_pos (by omega), if_pos e2]; grind
          · rw [if_neg (by omega), if_neg e2]; grind) (fun a b _ _ hn => by unfold setF; rw [if_neg hn, if_neg hn]) (fun a b _ _ hn => by unfold setF; rw [if_neg hn, if_neg hn])
      rw [this]; grind
  rw [← key n]
  refine h.congr fun a b _ hb => ?_
  unfold setF
  by_cases e : a = k
  · rw [if_pos e]; dsimp only; rw [if_pos hb, e]
  · rw [if_neg e]
theorem pigeon : ∀ (m : Nat) (f : Nat → Nat), (∀ i, i ≤ m → f i < m) → ∃ i j, i < j ∧ j ≤ m ∧ f i = f j
  | 0, f, h => by have := h 0 (by omega); omega
  | m + 1, f, h => by
    by_cases e : ∃ i, i ≤ m ∧ f i = f (m + 1)
    · obtain ⟨i, hi, he⟩ := e
      exact ⟨i, m + 1, by omega, by omega, he⟩
    · have hne : ∀ i, i ≤ m → f i ≠ f (m + 1) := fun i hi he => e ⟨i, hi, he⟩
      obtain ⟨i, j, h1, h2, h3⟩ := pigeon m (fun i => if f (m + 1) < f i then f i - 1 else f i) fun i hi => by
        have := h i (by omega)
        have := h (m + 1) (by omega)
        have := hne i hi
        split <;> omega
      refine ⟨i, j, h1, by omega, ?_⟩
      have a1 := hne i (by omega)
      have a2 := hne j h2
      split at h3 <;> split at h3 <;> omega
def unitF (c : Nat → Nat) : MF := fun a b => if b = c a then 1 else 0
theorem RowF.unit {n : Nat} {F : MF → Rat} (h : RowF n F) : ∀ (j k : Nat), k + j = n → ∀ c : Nat → Nat, (∀ a, a < n → c a < n) → (∀ r, r < k → c r = r) → F (unitF c) = F idF * detF n (unitF c)
  | 0, k, hk, c, hc, hr => by
    have e : ∀ a b, a < n → b < n → unitF c a b = idF a b := fun a b ha _ => by
      unfold unitF idF
      rw [hr a (by omega)]
      by_cases e : b = a
      · rw [if_pos e, if_pos e.symm]
      · rw [if_neg e, if_neg (Ne.symm e)]
    rw [h.congr e, detF_congr e, detF_id]; grind
  | j + 1, k, hk, c, hc, hr => by
    by_cases hex : ∃ s, k ≤ s ∧ s < n ∧ c s = k
    · obtain ⟨s, hs1, hs2, hs3⟩ := hex
      by_cases e : s = k
      · subst e
        exact h.unit j (s + 1) (by omega) c hc fun r hr' => by
          by_cases e : r = s
          · rw [e]; exact hs3
          · exact hr r (by omega)
      · let c' : Nat → Nat := fun a => if a = k then c s else if a = s then c k else c a
        have hsw : ∀ a b, a < n → b < n → unitF c a b = swapF (unitF c') k s a b := fun a b _ _ => by
          unfold swapF unitF
          by_cases h1 : a = k
          · rw [if_pos h1]; simp only [c', if_neg e, if_pos, h1]
          · rw [if_neg h1]
            by_cases h2 : a = s
            · rw [if_pos h2]; simp only [c', if_pos, h2]
            · rw [if_neg h2]; simp only [c', if_neg h1, if_neg h2]
        rw [h.congr hsw, detF_congr hsw, h.swap (by omega) hs2 (Ne.symm e), (detF_row n).swap (by omega) hs2 (Ne.symm e), h.unit j (k + 1) (by omega) c' (fun a ha => by
          simp only [c']
          split
          · exact hc s hs2
          · split
            · exact hc k (by omega)
            · exact hc a ha) (fun r hr' => by
          simp only [c']
          by_cases h1 : r = k
          · rw [if_pos h1, hs3, h1]
          · rw [if_neg h1, if_neg (by omega)]; exact hr r (by omega))]
        grind
    · have hno : ∀ a, a < n → c a ≠ k := fun a ha he => by
        rcases Nat.lt_or_ge a k with h1 | h1
        · have := hr a h1; omega
        · exact hex ⟨a, h1, ha, he⟩
      obtain ⟨p, q, h1, h2, h3⟩ := pigeon (n - 1) (fun a => if k < c a then c a - 1 else c a) fun a ha => by
        have := hc a (by omega)
        have := hno a (by omega)
        split <;> omega
      have hpq : c p = c q := by
        have := hno p (by omega)
        have := hno q (by omega)
        split at h3 <;> split at h3 <;> omega
      rw [h.alt (r := p) (s := q) (by omega) (by omega) (by omega) fun b _ => by unfold unitF; rw [hpq], (detF_row n).alt (r := p) (s := q) (by omega) (by omega) (by omega) fun b _ => by unfold unitF; rw [hpq]]
      grind
theorem RowF.step {n : Nat} {F : MF → Rat} (h : RowF n F) : ∀ k, k ≤ n → ∀ M : MF, (∀ r, k ≤ r → r < n → ∃ c, c < n ∧ ∀ b, b < n → M r b = if b = c then 1 else 0) → F M = F idF * detF n M
  | 0, _, M, hM => by
    have hM' : ∀ r, ∃ c, r < n → c < n ∧ ∀ b, b < n → M r b = if b = c then 1 else 0 := fun r => by
      by_cases hr : r < n
      · obtain ⟨c, hc⟩ := hM r (by omega) hr
        exact ⟨c, fun _ => hc⟩
      · exact ⟨0, fun h => absurd h hr⟩
    have e : ∀ a b, a < n → b < n → M a b = unitF (fun r => (hM' r).choose) a b := fun a b ha hb => ((hM' a).choose_spec ha).2 b hb
    rw [h.congr e, detF_congr e]
    exact h.unit n 0 (by omega) _ (fun a ha => ((hM' a).choose_spec ha).1) fun r hr => by omega
  | k + 1, hk, M, hM => by
    rw [h.sum (k := k) (by omega) M, (detF_row n).sum (k := k) (by omega) M, ← sumN_mul]
    refine sumN_congr fun j hj => ?_
    rw [h.step k (by omega) (setF M k (eF j)) fun r hr hrn => by
      by_cases e : r = k
      · exact ⟨j, hj, fun b _ => by unfold setF eF; rw [if_pos e]⟩
      · obtain ⟨c, h1, h2⟩ := hM r (by omega) hrn
        exact ⟨c, h1, fun b hb => by unfold setF; rw [if_neg e]; exact h2 b hb⟩]
    grind
/-- There is but one. -/
theorem RowF.uniq {n : Nat} {F : MF → Rat} (h : RowF n F) (M : MF) : F M = F idF * detF n M := h.step n (Nat.le_refl _) M fun r h1 h2 => by omega
def mulF (n : Nat) (A B : MF) : MF := fun i j => sumN n fun k => A i k * B k j
theorem mulF_row (n : Nat) (B : MF) : RowF n fun A => detF n (mulF n A B) where
  congr := fun {M M'} h => detF_congr fun a b ha hb => sumN_congr fun k hk => by rw [h a k ha hk]
  lin := fun {r c M U V} hr h hU hV => detF_lin hr (fun b hb => by
    unfold mulF
    rw [← sumN_mul, ← sumN_add]
    exact sumN_congr fun k hk => by rw [h k hk]; grind) (fun a b ha hb hn => sumN_congr fun k hk => by rw [hU a k ha hk hn]) (fun a b ha hb hn => sumN_congr fun k hk => by rw [hV a k ha hk hn])
  alt := fun {r s M} hr hs hne h => (detF_row n).alt hr hs hne fun b hb => sumN_congr fun k hk => by rw [h k hk]
theorem detF_mul (n : Nat) (A B : MF) : detF n (mulF n A B) = detF n A * detF n B := by
  have := (mulF_row n B).uniq A
  have e : detF n (mulF n idF B) = detF n B := detF_congr fun a b ha hb => by
    unfold mulF
    rw [sumN_single (k := a) ha fun i _ hne => by unfold idF; rw [if_neg (Ne.symm hne)]; grind]
    unfold idF
    rw [if_pos rfl]; grind
  rw [this, e]; grind
def trF (M : MF) : MF := fun i j => M j i
theorem detF_clin : ∀ {n : Nat} {r : Nat} {c : Rat} {M U V : MF}, r < n → (∀ a, a < n → M a r = c * U a r + V a r) → (∀ a b, a < n → b < n → b ≠ r → U a b = M a b) → (∀ a b, a < n → b < n → b ≠ r → V a b = M a b) → detF n M = c * detF n U + detF n V
  | 0, r, c, M, U, V, hr, _, _, _ => by omega
  | n + 1, r, c, M, U, V, hr, h, hU, hV => by
    show sumN (n + 1) (fun i => sgnN i * M i 0 * detF n (minorF i M)) = c * sumN (n + 1) (fun i => sgnN i * U i 0 * detF n (minorF i U)) + sumN (n + 1) (fun i => sgnN i * V i 0 * detF n (minorF i V))
    rw [← sumN_mul, ← sumN_add]
    refine sumN_congr fun i hi => ?_
    by_cases e : r = 0
    · subst e
      have e1 : detF n (minorF i U) = detF n (minorF i M) := detF_congr fun a b ha hb => hU _ _ (skip_lt ha) (by omega) (by omega)
      have e2 : detF n (minorF i V) = detF n (minorF i M) := detF_congr fun a b ha hb => hV _ _ (skip_lt ha) (by omega) (by omega)
      rw [e1, e2, h i hi]; grind
    · have e1 : detF n (minorF i M) = c * detF n (minorF i U) + detF n (minorF i V) := by
        refine detF_clin (r := r - 1) (by omega) (fun a ha => ?_) (fun a b ha hb hne => hU _ _ (skip_lt ha) (by omega) (by omega)) (fun a b ha hb hne => hV _ _ (skip_lt ha) (by omega) (by omega))
        show M (skipN i a) (r - 1 + 1) = c * U (skipN i a) (r - 1 + 1) + V (skipN i a) (r - 1 + 1)
        rw [show r - 1 + 1 = r by omega]; exact h _ (skip_lt ha)
      rw [e1, hU i 0 hi (by omega) (Ne.symm e), hV i 0 hi (by omega) (Ne.symm e)]; grind
theorem detF_ceq {n r s : Nat} {M : MF} (hr : r < n) (hs : s < n) (hne : r ≠ s) (h : ∀ a, a < n → M a r = M a s) : detF n M = 0 := by
  have e := detF_mul n M (swapF idF r s)
  rw [(detF_row n).swap hr hs hne, detF_id] at e
  have e2 : detF n (mulF n M (swapF idF r s)) = detF n M := detF_congr fun a b ha hb => by
    unfold mulF
    by_cases e1 : b = r
    · rw [sumN_single (k := s) hs fun i hi hn => by
        unfold swapF idF
        by_cases q1 : i = r
        · rw [if_pos q1, if_neg (by omega)]; grind
        · rw [if_neg q1, if_neg hn, if_neg (by omega)]; grind]
      unfold swapF idF
      rw [if_neg (Ne.symm hne), if_pos rfl, if_pos e1.symm, ← h a ha, e1]; grind
    · by_cases e3 : b = s
      · rw [sumN_single (k := r) hr fun i hi hn => by
          unfold swapF idF
          rw [if_neg hn]
          by_cases q1 : i = s
          · rw [if_pos q1, if_neg (by omega)]; grind
          · rw [if_neg q1, if_neg (by omega)]; grind]
        unfold swapF idF
        rw [if_pos rfl, if_pos e3.symm, h a ha, e3]; grind
      · rw [sumN_single (k := b) hb fun i hi hn => by
          unfold swapF idF
          by_cases q1 : i = r
          · rw [if_pos q1, if_neg (by omega)]; grind
          · rw [if_neg q1]
            by_cases q2 : i = s
            · rw [if_pos q2, if_neg (by omega)]; grind
            · rw [if_neg q2, if_neg hn]; grind]
        unfold swapF idF
        rw [if_neg e1, if_neg e3, if_pos rfl]; grind
  rw [e2] at e
  grind
theorem trF_row (n : Nat) : RowF n fun A => detF n (trF A) where
  congr := fun {M M'} h => detF_congr fun a b ha hb => h b a hb ha
  lin := fun {r c M U V} hr h hU hV => detF_clin hr (fun a ha => h a ha) (fun a b ha hb hn => hU b a hb ha hn) (fun a b ha hb hn => hV b a hb ha hn)
  alt := fun {r s M} hr hs hne h => detF_ceq hr hs hne fun a ha => h a ha
theorem detF_tr (n : Nat) (A : MF) : detF n (trF A) = detF n A := by
  have := (trF_row n).uniq A
  have e : detF n (trF idF) = 1 := by
    rw [← detF_id n]
    exact detF_congr fun a b _ _ => by
      unfold trF idF
      by_cases e : a = b
      · rw [if_pos e, if_pos e.symm]
      · rw [if_neg e, if_neg (Ne.symm e)]
  rw [this, e]; grind
/-- Multiples of a row are added to the others. -/
theorem detF_ops {n r : Nat} {M Y : MF} (hr : r < n) (c : Nat → Rat) (hrow : ∀ b, b < n → Y r b = M r b) (h : ∀ a b, a < n → b < n → a ≠ r → Y a b = M a b - c a * M r b) : detF n Y = detF n M := by
  have key : ∀ k, k ≤ n → detF n (fun a b => if a < k ∧ a ≠ r then M a b - c a * M r b else M a b) = detF n M := by
    intro k
    induction k with
    | zero => intro _; exact detF_congr fun a b _ _ => if_neg (by omega)
    | succ k ih =>
      intro hk
      rw [← ih (by omega)]
      by_cases e : k = r
      · exact detF_congr fun a b _ _ => by
          by_cases q : a < k ∧ a ≠ r
          · rw [if_pos q, if_pos ⟨by omega, q.2⟩]
          · rw [if_neg q, if_neg (by omega)]
      · rw [detF_lin (r := k) (c := -c k) (U := fun a b => if a = k then M r b else if a < k ∧ a ≠ r then M a b - c a * M r b else M a b) (V := fun a b => if a < k ∧ a ≠ r then M a b - c a * M r b else M a b) (by omega) (fun b _ => by
          simp only [if_pos]
          rw [if_pos ⟨by omega, e⟩, if_neg (by omega)]; grind) (fun a b _ _ hn => by
          simp only [if_neg hn]
          by_cases q : a < k ∧ a ≠ r
          · rw [if_pos q, if_pos ⟨by omega, q.2⟩]
          · rw [if_neg q, if_neg (by omega)]) (fun a b _ _ hn => by
          by_cases q : a < k ∧ a ≠ r
          · rw [if_pos q, if_pos ⟨by omega, q.2⟩]
          · rw [if_neg q, if_neg (by omega)])]
        rw [(detF_row n).alt (r := k) (s := r) (by omega) hr e fun b _ => by
          simp only [if_pos]
          rw [if_neg (Ne.symm e), if_neg (by omega)]]
        grind
  rw [← key n (Nat.le_refl _)]
  refine detF_congr fun a b ha hb => ?_
  by_cases e : a = r
  · rw [if_neg (by omega), e]; exact hrow b hb
  · rw [if_pos ⟨ha, e⟩]; exact h a b ha hb e
theorem detF_scale {n r : Nat} {M Y : MF} (hr : r < n) (c : Rat) (hrow : ∀ b, b < n → Y r b = c * M r b) (h : ∀ a b, a < n → b < n → a ≠ r → Y a b = M a b) : detF n Y = c * detF n M := by
  have h0 : detF n (fun a b => if a = r then 0 else M a b) = 0 := by
    have := detF_lin (n := n) (r := r) (c := 1) (M := fun a b => if a = r then 0 else M a b) (U := fun a b => if a = r then 0 else M a b) (V := fun a b => if a = r then 0 else M a b) hr (fun b _ => by simp only [if_pos]; grind) (fun _ _ _ _ _ => rfl) (fun _ _ _ _ _ => rfl)
    grind
  have := detF_lin (n := n) (r := r) (c := c) (M := Y) (U := M) (V := fun a b => if a = r then 0 else M a b) hr (fun b hb => by simp only [if_pos]; rw [hrow b hb]; grind) (fun a b ha hb hn => (h a b ha hb hn).symm) (fun a b ha hb hn => by simp only [if_neg hn]; exact (h a b ha hb hn).symm)
  rw [this, h0]; grind
def prodN : Nat → (Nat → Rat) → Rat
  | 0, _ => 1
  | n + 1, f => prodN n f * f n
/-- Zeros below the diagonal in the first columns. -/
theorem detF_tri {M : MF} : ∀ (j n : Nat), (∀ c a, c < j → c < a → a < j + n → M a c = 0) → detF (j + n) M = prodN j (fun c => M c c) * detF n fun a b => M (a + j) (b + j)
  | 0, n, _ => by
    rw [Nat.zero_add]
    show detF n M = 1 * detF n M
    grind
  | j + 1, n, h => by
    have e : j + 1 + n = j + (n + 1) := by omega
    rw [e, detF_tri j (n + 1) fun c a h1 h2 h3 => h c a (by omega) h2 (by omega)]
    show prodN j _ * detF (n + 1) _ = prodN j _ * M j j * _
    have e2 : detF (n + 1) (fun a b => M (a + j) (b + j)) = M j j * detF n fun a b => M (a + (j + 1)) (b + (j + 1)) := by
      show sumN (n + 1) (fun i => sgnN i * M (i + j) (0 + j) * detF n (minorF i fun a b => M (a + j) (b + j))) = _
      rw [sumN_single (k := 0) (by omega) fun i hi hn => by rw [Nat.zero_add, h j (i + j) (by omega) (by omega) (by omega)]; grind]
      rw [detF_congr (M' := fun a b => M (a + (j + 1)) (b + (j + 1))) fun a b _ _ => by
        show M (skipN 0 a + j) (b + 1 + j) = M (a + (j + 1)) (b + (j + 1))
        unfold skipN
        rw [if_neg (by omega), show a + 1 + j = a + (j + 1) by omega, show b + 1 + j = b + (j + 1) by omega]]
      rw [Nat.zero_add]
      unfold sgnN
      simp
    rw [e2]; grind
theorem detF_zcol {n : Nat} {M : MF} (h : ∀ a, a < n + 1 → M a 0 = 0) : detF (n + 1) M = 0 := sumN_zero fun i hi => by rw [h i hi]; grind
end Go.Av
end
section
namespace Go.Av
open Go.Proofs
def NullV (n w : Nat) (M : List (List Rat)) (v : Nat → Rat) : Prop := ∀ i, i < n → dotV w (qel M i) v = 0
theorem null_swap {n w : Nat} {M : List (List Rat)} {i r : Nat} (hM : M.length = n) (hi : i < n) (hr : r < n) (v : Nat → Rat) : NullV n w (swapL M i r) v ↔ NullV n w M v := by
  have e : ∀ a, dotV w (qel (swapL M i r) a) v = if a = r then dotV w (qel M i) v else if a = i then dotV w (qel M r) v else dotV w (qel M a) v := fun a => by
    have : qel (swapL M i r) a = fun b => if a = r then qel M i b else if a = i then qel M r b else qel M a b := funext fun b => qel_swap (by omega) (by omega) a b
    rw [this]
    split
    · rfl
    · split <;> rfl
  constructor
  · intro h a ha
    by_cases e1 : a = r
    · by_cases e2 : i = r
      · have := h r hr; rw [e, if_pos rfl, e2] at this; rw [e1]; exact this
      · have := h i hi; rw [e, if_neg e2, if_pos rfl] at this; rw [e1]; exact this
    · by_cases e2 : a = i
      · have := h r hr; rw [e, if_pos rfl] at this; rw [e2]; exact this
      · have := h a ha; rw [e, if_neg e1, if_neg e2] at this; exact this
  · intro h a ha
    rw [e]
    split
    · exact h i hi
    · split
      · exact h r hr
      · exact h a ha
theorem null_clear {n w r j : Nat} {M Y : List (List Rat)} (hr : r < n) (hd : qel M r j ≠ 0) (hs : ∀ a b, a < n → b < w → qel Y a b = if a = r then qel M r b / qel M r j else qel M a b - qel M r b / qel M r j * qel M a j) (v : Nat → Rat) : NullV n w Y v ↔ NullV n w M v := by
  have e1 : dotV w (qel Y r) v = dotV w (qel M r) v / qel M r j := by
    rw [← dotV_div]
    exact dotV_congr (fun l hl => by rw [hs r l hr hl, if_pos rfl]) fun _ _ => rfl
  have e2 : ∀ a, a < n → a ≠ r → dotV w (qel Y a) v = dotV w (qel M a) v - qel M a j * (dotV w (qel M r) v / qel M r j) := fun a ha hne => by
    rw [← dotV_div, ← dotV_sub]
    exact dotV_congr (fun l hl => by rw [hs a l ha hl, if_neg hne]) fun _ _ => rfl
  constructor
  · intro h a ha
    have h0 : dotV w (qel M r) v = 0 := by have := h r hr; rw [e1] at this; grind
    by_cases e : a = r
    · rw [e]; exact h0
    · have := h a ha
      rw [e2 a ha e, h0] at this; grind
  · intro h a ha
    by_cases e : a = r
    · subst e; rw [e1, h a ha]; grind
    · rw [e2 a ha e, h a ha, h r hr]; grind
theorem pivQ_none {M : List (List Rat)} {j r : Nat} (h : pivQ M j r = none) : ∀ i, r ≤ i → i < M.length → qel M i j = 0 := by
  unfold pivQ at h
  rw [List.find?_eq_none] at h
  intro i hr hi
  have := h i (List.mem_range.2 hi)
  simp [hr] at this
  exact this
/-- The reduced form, as far as column j. -/
structure RRef (n w j : Nat) (M : List (List Rat)) (ps : List Nat) : Prop where
  good : matGood n w M
  len : ps.length ≤ n
  srt : ps.Pairwise (· < ·)
  lt : ∀ p ∈ ps, p < j
  one : ∀ k, k < ps.length → ∀ i, i < n → qel M i (ps.getD k 0) = if i = k then 1 else 0
  zer : ∀ i, i < n → ∀ c, c < j → (i < ps.length → c < ps.getD i 0) → qel M i c = 0
theorem getD_mem {ps : List Nat} {k : Nat} (h : k < ps.length) : ps.getD k 0 ∈ ps := by rw [List.getD_eq_getElem?_getD, List.getElem?_eq_getElem h]; exact List.getElem_mem h
theorem getD_snoc (ps : List Nat) (j k : Nat) : (ps ++ [j]).getD k 0 = if k < ps.length then ps.getD k 0 else if k = ps.length then j else 0 := by
  rw [List.getD_eq_getElem?_getD]
  by_cases h : k < ps.length
  · rw [if_pos h, List.getElem?_append_left h, ← List.getD_eq_getElem?_getD]
  · rw [if_neg h, List.getElem?_append_right (by omega)]
    by_cases e : k = ps.length
    · rw [if_pos e, e, Nat.sub_self]; rfl
    · rw [if_neg e, List.getElem?_eq_none (by simp; omega)]; rfl
theorem RRef.start {n w : Nat} {M : List (List Rat)} (h : matGood n w M) : RRef n w 0 M [] :=
  ⟨h, Nat.zero_le _, List.Pairwise.nil, fun p hp => (by cases hp), fun k hk => (by cases hk), fun i _ c hc => by omega⟩
theorem RRef.step {n w j : Nat} {M : List (List Rat)} {ps : List Nat} (h : RRef n w j M ps) (hj : j < w) {z : List (List Rat) × List Nat} (he : colStep j (M, ps) = some z) : RRef n w (j + 1) z.1 z.2 ∧ ∀ v, NullV n w z.1 v ↔ NullV n w M v := by
  have hl := h.good.2.2
  unfold colStep at he
  simp only at he
  cases hp : pivQ M j ps.length with
  | none =>
    rw [hp] at he
    simp only [Option.some.injEq] at he
    subst he
    have h0 := pivQ_none hp
    show RRef n w (j + 1) M ps ∧ _
    refine ⟨⟨h.good, h.len, h.srt, fun p hp => by have := h.lt p hp; omega, h.one, fun i hi c hc hcl => ?_⟩, fun _ => Iff.rfl⟩
    by_cases e : c = j
    · subst e
      by_cases hil : i < ps.length
      · have := hcl hil
        have := h.lt _ (getD_mem hil)
        omega
      · exact h0 i (by omega) (by omega)
    · exact h.zer i hi c (by omega) hcl
  | some i0 =>
    rw [hp] at he
    obtain ⟨p1, p2, p3⟩ := pivQ_some hp
    rw [hl] at p1
    have hr : ps.length < n := by omega
    simp only at he
    cases hc : clearQ (swapL M i0 ps.length) j ps.length with
    | none => rw [hc] at he; cases he
    | some Y =>
      rw [hc] at he
      cases he
      have hG := h.good.swap p1 hr
      have hsw : ∀ a b, qel (swapL M i0 ps.length) a b = if a = ps.length then qel M i0 b else if a = i0 then qel M ps.length b else qel M a b := fun a b => qel_swap (by omega) (by omega) a b
      have hd : qel (swapL M i0 ps.length) ps.length j ≠ 0 := by rw [hsw, if_pos rfl]; exact p3
      obtain ⟨hY, hs⟩ := clear_spec hG hr hd hj hc
      refine ⟨⟨hY, by simp; omega, ?_, fun p hp => ?_, fun k hk i hi => ?_, fun i hi c hc hcl => ?_⟩, fun v => ?_⟩
      · rw [List.pairwise_append]
        exact ⟨h.srt, by simp, fun a ha b hb => by simp at hb; subst hb; exact h.lt a ha⟩
      · simp at hp
        rcases hp with hp | rfl
        · have := h.lt p hp; omega
        · omega
      · rw [getD_snoc]
        by_cases hkl : k < ps.length
        · rw [if_pos hkl]
          have hpj := h.lt _ (getD_mem hkl)
          have o := h.one k hkl
          have z1 : qel (swapL M i0 ps.length) ps.length (ps.getD k 0) = 0 := by rw [hsw, if_pos rfl, o i0 p1, if_neg (by omega)]
          rw [hs i _ hi (by omega), z1]
          by_cases e1 : i = ps.length
          · rw [if_pos e1, if_neg (by omega)]; grind
          · rw [if_neg e1, hsw, if_neg e1]
            by_cases e2 : i = i0
            · rw [if_pos e2, o _ hr, if_neg (by omega), if_neg (by omega)]; grind
            · rw [if_neg e2, o i hi]; grind
        · have hk2 : k = ps.length := by simp at hk; omega
          rw [if_neg hkl, if_pos hk2, hs i j hi hj]
          by_cases e1 : i = ps.length
          · rw [if_pos e1, if_pos (by omega)]; grind
          · rw [if_neg e1, if_neg (by omega)]; grind
      · have hcj : c < j ∨ c = j := by omega
        have zr : c < j → qel (swapL M i0 ps.length) ps.length c = 0 := fun hc => by
          rw [hsw, if_pos rfl]; exact h.zer i0 p1 c hc (fun h => by omega)
        rw [hs i c hi (by omega)]
        by_cases e1 : i = ps.length
        · have : c < j := by
            have := hcl (by simp; omega)
            rw [getD_snoc, if_neg (by omega), if_pos e1] at this
            exact this
          rw [if_pos e1, zr this]; grind
        · rw [if_neg e1]
          rcases hcj with hcj | hcj
          · rw [zr hcj, hsw, if_neg e1]
            have hz : i ≠ i0 → qel M i c = 0 := fun hne => h.zer i hi c hcj fun hil => by
              have := hcl (by simp; omega)
              rwa [getD_snoc, if_pos hil] at this
            by_cases e2 : i = i0
            · rw [if_pos e2, h.zer _ hr c hcj (fun h => by omega)]; grind
            · rw [if_neg e2, hz e2]; grind
          · subst hcj
            have : ¬ i < ps.length := fun hil => by
              have h1 := hcl (by simp; omega)
              rw [getD_snoc, if_pos hil] at h1
              have := h.lt _ (getD_mem hil)
              omega
            grind
      · rw [null_clear hr hd hs v, null_swap hl p1 hr v]
end Go.Av
end
section
namespace Go.Av
open Go.Proofs
theorem whole7_call (n : Int) (h1 : -9223372036854775808 ≤ n) (h2 : n < 9223372036854775808) : ACall Tryz.prog 60 [.int .i64 n] Mem.emp fun v m => v = (ofQ (intQ n)).av ∧ m = Mem.emp := by
  have ho := of2_call n 1 h1 h2 (by omega) (by omega) (by omega)
  have e : Rat.divInt n 1 = intQ n := rfl
  rw [e, resQ] at ho
  generalize intQ n = q at *
  unfold qAV at ho
  unfold RR.av ofQ
  simp only
  refine acall_S Tryz.func60 rfl rfl 11 rfl (Nat.le_of_ble_eq_true rfl) ?_
  (repeat refine AW.seq_k fun K hK => ?_); refine AW.rg ?_; simp [argsL]; try (refine hK _ rfl ?_; clear hK; clear K)
  refine Fresh.intro fun b2 hb2 => ?_
  refine hK _ rfl ?_; clear hK; clear K; (repeat refine AW.seq_k fun K hK => ?_); refine AW.rg ?_; simp; try (refine hK _ rfl ?_; clear hK; clear K)
  refine CallK.val ho ?_; simp
  refine Fresh.intro fun b3 hb3 => ?_
  simp only [set_none2, emp_at, and_true] at hb3
  try simp [hb3]
  refine hK _ rfl ?_; clear hK; clear K; (repeat refine AW.seq_k fun K hK => ?_); refine AW.rg ?_; simp [hb3]; try (refine hK _ rfl ?_; clear hK; clear K)
  exact AW.ret (ret_views (vs := [.agg [.bool (decide (q.num < 0)), lim (dig q.num.natAbs), .bool false, lim (dig q.den)]]) [.agg [.bool (decide (q.num < 0)), lim (dig q.num.natAbs), .bool false, lim (dig q.den)]] (by simp [hb3]) (by simp) ⟨rfl, rfl⟩)
/-- A vector of zeros: nothing, or a block. -/
def ZerV (n : Nat) (v : AV) (M : Mem) : Prop := (n = 0 ∧ v = .nil ∧ M = Mem.emp) ∨ ∃ b, v = .osl b 4 0 n ∧ M = Mem.emp.set b ⟨36, 4, rrs (List.replicate n (ofQ 0))⟩
/-- A list that grows, alone in memory. -/
structure LstO (M : Mem) (ty : TypeId) (z : Nat) (ov : AV) (ob : List Nat) (l : List AV) : Prop where
  lst : LstV M ty z ov ob l
  only : OnlyM M ob
section
variable {M : Mem} {ov : AV} {ty : TypeId} {z : Nat} {ob : List Nat} {l : List AV}
theorem LstO.start (ty : TypeId) (z : Nat) : LstO Mem.emp ty z .nil [] [] := ⟨.inl ⟨rfl, rfl, rfl⟩, fun _ h => absurd rfl h⟩
theorem LstO.ones (h : LstO M ty z ov ob l) (hl : ∀ v ∈ l, v.cells.all AV.one = true) : OnesM M := by
  intro b y hy
  have hb := h.only b (by rw [hy]; simp)
  rcases h.lst with ⟨_, h1, _⟩ | ⟨b', h1, _, h3⟩
  · rw [h1] at hb; cases hb
  · rw [h1] at hb
    simp at hb
    subst hb
    rw [h3] at hy; cases hy
    exact hl
theorem LstO.push0 (h : LstO M ty z .nil [] []) (b : Nat) (v : AV) : LstO (M.set b ⟨ty, z, [v]⟩) ty z (.osl b z 0 1) [b] [v] :=
  ⟨.inr ⟨b, rfl, rfl, by simp⟩, (h.only.sub fun a ha => by cases ha).set (by simp) _⟩
theorem LstO.push1 {b0 : Nat} (h : LstO M ty z (.osl b0 z 0 l.length) [b0] l) (b : Nat) (v : AV) : LstO ((M.del b0).set b ⟨ty, z, l ++ [v]⟩) ty z (.osl b z 0 (l.length + 1)) [b] (l ++ [v]) := by
  refine ⟨.inr ⟨b, rfl, by simp, by simp⟩, OnlyM.set (l := [b]) (fun a ha => ?_) (by simp) _⟩
  by_cases h1 : a = b0
  · subst h1; exact absurd (if_pos rfl) ha
  · have e : (M.del b0) a = M a := if_neg h1
    rw [e] at ha
    have := h.only a ha
    simp at this
    exact absurd this h1
end
structure KerS7 where
  M : Mem
  ov : AV
  ob : List Nat
def InvK7 (Y : List (List Rat)) (ps : List Nat) (w j : Nat) (s : KerS7) : Prop := LstO s.M 42 1 s.ov s.ob ((emb (kerP Y ps w j)).map rowAV)
theorem rowAV_ones (X : List (List Rat)) : ∀ v ∈ (emb X).map rowAV, v.cells.all AV.one = true := by
  intro v hv
  obtain ⟨r, _, rfl⟩ := List.mem_map.1 hv
  rfl
end Go.Av
end
section
namespace Go.Av
open Go.Proofs
def entStep (r : List Rat) (b : List (List Rat)) (j k : Nat) (s : Rat) : Option Rat := (mulQ (qat r k) (qel b k j)).bind (addQ s)
def entQ (r : List Rat) (b : List (List Rat)) (j : Nat) : Option Rat := iterO (entStep r b j) b.length 0
def tmCol (r : List Rat) (b : List (List Rat)) (j : Nat) (acc : List Rat) : Option (List Rat) := (entQ r b j).map fun x => acc ++ [x]
def tmStep (a b : List (List Rat)) (w i : Nat) (acc : List (List Rat)) : Option (List (List Rat)) := (iterO (tmCol (mrow a i) b) w []).map fun r => acc ++ [r]
def timesQ (a b : List (List Rat)) : Option (List (List Rat)) := iterO (tmStep a b (mrow b 0).length) a.length []
noncomputable def timR (a b : List (List RR)) : Int × List (List Rat) :=
  if chk a ≠ 0 then (chk a, []) else if chk b ≠ 0 then (chk b, []) else if (mrow a 0).length ≠ b.length then (1, []) else
  match timesQ (unq a) (unq b) with
  | none => (2, [])
  | some Y => (0, Y)
theorem ent_good {r : List Rat} {b : List (List Rat)} {j : Nat} : ∀ {k : Nat} {q : Rat}, iterO (entStep r b j) k 0 = some q → Good q
  | 0, q, h => by cases h; exact good_zero
  | k + 1, q, h => by
    rw [iterO_succ] at h
    cases hs : iterO (entStep r b j) k 0 with
    | none => rw [hs] at h; cases h
    | some s =>
      rw [hs] at h
      replace h : (mulQ (qat r k) (qel b k j)).bind (addQ s) = some q := h
      cases hm : mulQ (qat r k) (qel b k j) with
      | none => rw [hm] at h; cases h
      | some m => rw [hm] at h; exact good_add h
theorem tmCol_keep {r : List Rat} {b : List (List Rat)} : ∀ {j : Nat} {acc : List Rat}, iterO (tmCol r b) j [] = some acc → acc.length = j ∧ rowGood acc
  | 0, acc, h => by cases h; exact ⟨rfl, fun q hq => (by cases hq)⟩
  | j + 1, acc, h => by
    rw [iterO_succ] at h
    cases hs : iterO (tmCol r b) j [] with
    | none => rw [hs] at h; cases h
    | some a0 =>
      rw [hs] at h
      obtain ⟨h1, h2⟩ := tmCol_keep hs
      replace h : (entQ r b j).map (fun x => a0 ++ [x]) = some acc := h
      cases he : entQ r b j with
      | none => rw [he] at h; cases h
      | some x =>
        rw [he] at h
        cases h
        refine ⟨by simp [h1], fun q hq => ?_⟩
        rcases List.mem_append.1 hq with hq | hq
        · exact h2 q hq
        · simp at hq; subst hq; exact ent_good he
theorem tm_keep {a b : List (List Rat)} {w : Nat} : ∀ {i : Nat} {Y : List (List Rat)}, iterO (tmStep a b w) i [] = some Y → matGood i w Y
  | 0, Y, h => by cases h; exact ⟨fun r hr => (by cases hr), fun i hi => (by cases hi), rfl⟩
  | i + 1, Y, h => by
    rw [iterO_succ] at h
    cases hs : iterO (tmStep a b w) i [] with
    | none => rw [hs] at h; cases h
    | some Y0 =>
      rw [hs] at h
      obtain ⟨h1, h2, h3⟩ := tm_keep hs
      replace h : (iterO (tmCol (mrow a i) b) w []).map (fun r => Y0 ++ [r]) = some Y := h
      cases he : iterO (tmCol (mrow a i) b) w [] with
      | none => rw [he] at h; cases h
      | some r =>
        rw [he] at h
        cases h
        obtain ⟨k1, k2⟩ := tmCol_keep he
        refine ⟨fun x hx => ?_, fun i hi => ?_, by simp [h3]⟩
        · rcases List.mem_append.1 hx with hx | hx
          · exact h1 x hx
          · simp at hx; subst hx; exact k2
        · rw [mrow_snoc Y0 r i (by simpa using hi)]
          split
          · exact h2 i (by assumption)
          · exact k1
/-- The memory while a row is computed. -/
def TM (M : Mem) (c B bv : Nat) (x : AV) (v : List RR) (H : List AV) : Mem := ((M.set c ⟨61, 1, [x]⟩).set bv ⟨36, 4, rrs v⟩).set B ⟨42, 1, H⟩
section
variable {M : Mem} {c B bv : Nat} {x x' : AV} {v v' : List RR} {H : List AV}
end
structure TimS where
  M : Mem
  bs : List Nat
  Y : List (List Rat)
  x : AV
def InvT (c B : Nat) (a b : List (List Rat)) (w n i : Nat) (s : TimS) : Prop :=
  iterO (tmStep a b w) i [] = some s.Y ∧ MatP s.M B s.bs (emb s.Y) (n - i) ∧ s.M c = none ∧ isE s.x 0
set_option maxHeartbeats 1000000
end Go.Av
end
section
namespace Go.Av
open Go.Proofs
theorem rrs_snoc (r : List RR) (x : RR) : rrs (r ++ [x]) = rrs r ++ [x.av] := by simp [rrs]
/-- A list of rows and a row that is being made. -/
structure TwoL (M : Mem) (ov : AV) (ob : List Nat) (l : List AV) (rv : AV) (rb : List Nat) (r : List AV) : Prop where
  lst : LstV M 42 1 ov ob l
  row : LstV M 36 4 rv rb r
  only : OnlyM M (ob ++ rb)
  dis : ∀ b ∈ ob, b ∉ rb
section
variable {M : Mem} {ov rv : AV} {ob rb : List Nat} {l r : List AV}
theorem lstV_mem {M : Mem} {ty : TypeId} {z : Nat} {ov : AV} {ob : List Nat} {l : List AV} (h : LstV M ty z ov ob l) {b : Nat} (hb : b ∈ ob) : M b = some ⟨ty, z, l⟩ := by
  rcases h with ⟨_, h1, _⟩ | ⟨b', h1, _, h3⟩
  · rw [h1] at hb; cases hb
  · rw [h1] at hb; simp at hb; subst hb; exact h3
theorem TwoL.start {M : Mem} {ov : AV} {ob : List Nat} {l : List AV} (h : LstO M 42 1 ov ob l) : TwoL M ov ob l .nil [] [] :=
  ⟨h.lst, .inl ⟨rfl, rfl, rfl⟩, by simpa using h.only, by simp⟩
theorem TwoL.fresh (h : TwoL M ov ob l rv rb r) {b : Nat} (hb : M b = none) : b ∉ ob ∧ b ∉ rb :=
  ⟨fun h' => (by rw [lstV_mem h.lst h'] at hb; cases hb), fun h' => (by rw [lstV_mem h.row h'] at hb; cases hb)⟩
theorem TwoL.push0 (h : TwoL M ov ob l .nil [] []) {b : Nat} (hb : M b = none) (v : AV) : TwoL (M.set b ⟨36, 4, [v]⟩) ov ob l (.osl b 4 0 1) [b] [v] := by
  obtain ⟨f1, _⟩ := h.fresh hb
  refine ⟨h.lst.keep fun a ha => by simp only [set_at]; rw [if_neg (by rintro rfl; exact f1 ha)], .inr ⟨b, rfl, rfl, by simp⟩, OnlyM.set (h.only.sub fun a ha => by simp at ha ⊢; exact .inl ha) (by simp) _, fun a ha => by simp; rintro rfl; exact f1 ha⟩
theorem TwoL.push1 {b0 : Nat} (h : TwoL M ov ob l (.osl b0 4 0 r.length) [b0] r) {b : Nat} (hb : (M.del b0) b = none) (v : AV) : TwoL ((M.del b0).set b ⟨36, 4, r ++ [v]⟩) ov ob l (.osl b 4 0 (r.length + 1)) [b] (r ++ [v]) := by
  have hd : ∀ a, a ≠ b0 → (M.del b0) a = M a := fun a ha => if_neg ha
  have h0 : ∀ a ∈ ob, a ≠ b0 := fun a ha e => h.dis a ha (by simp [e])
  have hh : TwoL (M.del b0) ov ob l .nil [] [] := by
    refine ⟨h.lst.keep fun a ha => hd a (h0 a ha), .inl ⟨rfl, rfl, rfl⟩, fun a ha => ?_, by simp⟩
    have h1 : a ≠ b0 := by rintro rfl; exact ha (if_pos rfl)
    rw [hd a h1] at ha
    have := h.only a ha
    simp at this ⊢
    exact this.resolve_right h1
  have := hh.push0 hb v
  obtain ⟨f1, _⟩ := hh.fresh hb
  refine ⟨hh.lst.keep fun a ha => by simp only [set_at]; rw [if_neg (by rintro rfl; exact f1 ha)], .inr ⟨b, rfl, by simp, by simp⟩, OnlyM.set (hh.only.sub fun a ha => by simp at ha ⊢; exact .inl ha) (by simp) _, fun a ha => by simp; rintro rfl; exact f1 ha⟩
theorem TwoL.ones (h : TwoL M ov ob l rv rb r) (h1 : ∀ v ∈ l, v.cells.all AV.one = true) (h2 : ∀ v ∈ r, v.cells.all AV.one = true) : OnesM M := by
  intro b y hy
  rcases List.mem_append.1 (h.only b (by rw [hy]; simp)) with hb | hb
  · rw [lstV_mem h.lst hb] at hy; cases hy; exact h1
  · rw [lstV_mem h.row hb] at hy; cases hy; exact h2
/-- The row is done: what is left is the list. -/
theorem TwoL.done (h : TwoL M ov ob l rv rb r) (h1 : ∀ v ∈ l, v.cells.all AV.one = true) : ∃ M', Recast M M' ∧ LstO M' 42 1 ov ob l ∧ View M M' rv (.sl 4 r) ∧ View M M' ov ov := by
  refine ⟨fun b => if b ∈ rb then none else M b, Recast.sub fun b y hy => ?_, ⟨h.lst.keep fun b hb => if_neg (h.dis b hb), fun b hb => ?_⟩, ?_, .same _⟩
  · by_cases hb : b ∈ rb
    · simp [hb] at hy
    · simp [hb] at hy
      refine ⟨hy, ?_⟩
      have := h.only b (by rw [hy]; simp)
      simp [hb] at this
      rw [lstV_mem h.lst this] at hy; cases hy; exact h1
  · by_cases hm : b ∈ rb
    · simp [hm] at hb
    · simp [hm] at hb
      have := h.only b hb
      simpa [hm] using this
  · exact h.row.view fun b hb => if_pos hb
end
end Go.Av
end
section
namespace Go.Av
open Go.Proofs
def entM (b8 b10 : Nat) (s : Rat) : Mem := (Mem.emp.set b8 ⟨36, 4, [.agg [.bool false, .nil, .bool false, .nil]]⟩).set b10 ⟨36, 4, [(ofQ s).av]⟩
theorem entM_ones (b8 b10 : Nat) (s : Rat) : OnesM (entM b8 b10 s) := by
  unfold entM
  refine OnesM.set (OnesM.set (fun c y hy => by cases hy) b8 fun v hv => ?_) b10 fun v hv => ?_
  · simp at hv; subst hv; rfl
  · simp at hv; subst hv; rfl
theorem entM_set {b8 b10 : Nat} {s s' : Rat} : (entM b8 b10 s).set b10 ⟨36, 4, [(ofQ s').av]⟩ = entM b8 b10 s' := by
  unfold entM; funext k; simp only [set_at]
  by_cases e : k = b10 <;> simp [e]
theorem entM_at {b8 b10 : Nat} {s : Rat} (h : b10 ≠ b8) : entM b8 b10 s b10 = some ⟨36, 4, [(ofQ s).av]⟩ ∧ entM b8 b10 s b8 = some ⟨36, 4, [.agg [.bool false, .nil, .bool false, .nil]]⟩ := by
  unfold entM; simp [Ne.symm h]
set_option maxHeartbeats 1000000
theorem entry_call (A N : List (List Rat)) (n m w i j : Nat) (hA : matGood n m A) (hN : matGood m w N) (hi : i < n) (hj : j < w) (hm : m ≤ 64) : ACall Tryz.prog 65 [matAV (emb A), matAV (emb N), .int .i64 i, .int .i64 j] Mem.emp fun v mm => v = resQ (entQ (mrow A i) N j) ∧ mm = Mem.emp := by
  have hzero := whole7_call 0 (by omega) (by omega)
  rw [intQ_zero] at hzero
  have hNl := hN.2.2
  have hE : entQ (mrow A i) N j = iterO (entStep (mrow A i) N j) m 0 := by unfold entQ; rw [hNl]
  rw [hE]
  refine acall_S Tryz.func65 rfl rfl 57 rfl (Nat.le_of_ble_eq_true rfl) ?_
  (repeat refine AW.seq_k fun K hK => ?_); refine AW.rg ?_; simp [argsL]; try (refine hK _ rfl ?_; clear hK; clear K)
  refine Fresh.intro fun b8 _ => ?_
  refine hK _ rfl ?_; clear hK; clear K; (repeat refine AW.seq_k fun K hK => ?_); refine AW.rg ?_; simp; try (refine hK _ rfl ?_; clear hK; clear K)
  refine CallK.val hzero ?_; simp
  refine Fresh.intro fun b10 hb10 => ?_
  simp only [set_none2, emp_at, and_true] at hb10
  refine hK _ rfl ?_; clear hK; clear K
  obtain ⟨n1, n2⟩ := hb10
  try simp [n1, n2]
  refine AW.seq_ex (ι := Rat) (fun _ => [(8, .ptr b8 4 0 0), (10, .ptr b10 4 0 0)]) (fun s => entM b8 b10 s) (fun s => iterO (entStep (mrow A i) N j) m 0 = some s) ?_ ?_
  · (repeat refine AW.seq_k fun K hK => ?_); refine AW.rg ?_; simp; try (refine hK _ rfl ?_; clear hK; clear K)
    refine AW.block (AW.loopS (ι := Nat × Rat) (fun z => [(0, matAV (emb A)), (1, matAV (emb N)), (2, .int .i64 i), (3, .int .i64 j), (8, .ptr b8 4 0 0), (10, .ptr b10 4 0 0), (11, .int .i64 (z.1 : Nat))]) (fun z => entM b8 b10 z.2) (fun z => z.1 ≤ m ∧ iterO (entStep (mrow A i) N j) z.1 0 = some z.2) (fun z => m - z.1) (0, 0) ⟨by simp, rfl⟩ ?_ (by simp) ?_)
    · rfl
    rintro ⟨k, s⟩ ⟨g1, g2⟩
    simp only at g1 g2; (repeat refine AW.seq_k fun K hK => ?_); refine AW.rg ?_; simp [emb_length, hNl]; try (refine hK _ rfl ?_; clear hK; clear K)
    (repeat refine AW.seq ?_)
    refine AW.cs (fun hk => ?_) (fun hk => ?_) rfl <;> (try simp at hk)
    · refine AW.skip ?_; try simp
      refine hK _ rfl ?_; clear hK; clear K
      have w1 : IntKind.i64.wrap ((k + 1 : Nat) : Int) = ((k + 1 : Nat) : Int) := wi (by omega)
      have hgs := ent_good g2
      have hst : iterO (entStep (mrow A i) N j) (k + 1) 0 = (mulQ (qat (mrow A i) k) (qel N k j)).bind (addQ s) := by rw [iterO_succ, g2]; rfl
      have hiE : i < (emb A).length := by rw [emb_length, hA.2.2]; exact hi
      have hkr : k < (mrow A i).length := by rw [(hA.row hi).2]; exact hk
      have hkrE : (mrow (emb A) i).length = m := by rw [emb_row, List.length_map, (hA.row hi).2]
      have hkE : k < (emb N).length := by rw [emb_length, hNl]; exact hk
      have hlk : (mrow (emb N) k).length = w := by rw [emb_row, List.length_map]; exact (hN.row hk).2
      have hjl : j < (mrow N k).length := by rw [(hN.row hk).2]; exact hj
      have e1 : rr (mrow (emb A) i) k = ofQ (qat (mrow A i) k) := by rw [emb_row, rr_map hkr]
      have e2 : rr (mrow (emb N) k) j = ofQ (qel N k j) := by rw [emb_row, rr_map hjl]; rfl
      have y1 : Good (qat (mrow A i) k) := hA.1.at hkr
      have y2 : Good (qel N k j) := hN.1.at hjl
      have hmul := mul2_call _ _ y1 y2
      refine AW.seq_ex (ι := Rat) (fun _ => [(0, matAV (emb A)), (1, matAV (emb N)), (2, .int .i64 i), (3, .int .i64 j), (8, .ptr b8 4 0 0), (10, .ptr b10 4 0 0), (11, .int .i64 (k : Nat))]) (fun s => entM b8 b10 s) (fun s => iterO (entStep (mrow A i) N j) (k + 1) 0 = some s) ?_ ?_
      · (repeat refine AW.seq ?_); refine AW.block ?_
        cases hq : mulQ (qat (mrow A i) k) (qel N k j) with
        | none =>
          rw [hq] at hmul hst
          have hX := iterO_none' hst (m := m) (by omega)
          rw [hX]
          simp only [resQ] at hmul
          (repeat refine AW.seq_k fun K hK => ?_)
          refine AW.rd [0, 1, 2, 3, 4, 5, 6, 7, 8, 9, 10, 11, 12, 13, 14, 15, 16, 17, 18, 19, 20] mix ?_
          simp [hiE, hkrE, hk, hkE, hlk, hj, e1, e2]; try (refine hK _ rfl ?_; clear hK; clear K)
          refine CallK.val hmul ?_; simp [zeroRat]
          refine Fresh.intro fun b12 hb12 => ?_
          refine hK _ rfl ?_; clear hK; clear K
          refine AW.turn [(8, .ptr b8 4 0 0), (13, .int .i64 2)] (entM b8 b10 s) (Recast.drop hb12 (entM_ones b8 b10 s)) (by simp) ?_
          (repeat refine AW.seq_k fun K hK => ?_); refine AW.rg ?_; simp; try (refine hK _ rfl ?_; clear hK; clear K)
          refine AW.yes ?_ rfl; (repeat refine AW.seq_k fun K hK => ?_); refine AW.rg ?_; simp [entM, n1, n2]; try (refine hK _ rfl ?_; clear hK; clear K)
          exact AW.ret (ret_rat (b := b8) (.bool false) (lim []) (.bool false) (lim []) rfl rfl (by simp [n1, n2]) rfl ⟨.same _, .nilsl 1, .same _, .nilsl 1, trivial⟩ ⟨rfl, rfl⟩)
        | some p =>
          rw [hq] at hmul hst
          simp only [resQ] at hmul
          have hadd := add2_call s p hgs (good_mul hq)
          replace hst : iterO (entStep (mrow A i) N j) (k + 1) 0 = addQ s p := hst
          (repeat refine AW.seq_k fun K hK => ?_)
          refine AW.rd [0, 1, 2, 3, 4, 5, 6, 7, 8, 9, 10, 11, 12, 13, 14, 15, 16, 17, 18, 19, 20] mix ?_
          simp [hiE, hkrE, hk, hkE, hlk, hj, e1, e2]; try (refine hK _ rfl ?_; clear hK; clear K)
          refine CallK.val hmul ?_; simp [qAV]
          refine Fresh.intro fun b12 hb12 => ?_
          refine hK _ rfl ?_; clear hK; clear K
          refine AW.turn [(0, matAV (emb A)), (1, matAV (emb N)), (2, .int .i64 i), (3, .int .i64 j), (8, .ptr b8 4 0 0), (10, .ptr b10 4 0 0), (11, .int .i64 (k : Nat)), (12, .rptr [.bool (ofQ p).n1, lim (ofQ p).l1, .bool (ofQ p).n2, lim (ofQ p).l2]), (13, .int .i64 0)] (entM b8 b10 s) (Recast.drop hb12 (entM_ones b8 b10 s)) ?_ ?_
          · simp
            exact view_temp hb12
          (repeat refine AW.seq_k fun K hK => ?_); refine AW.rg ?_; simp; try (refine hK _ rfl ?_; clear hK; clear K)
          refine AW.no ?_ rfl; refine AW.skip ?_; try simp
          refine hK _ rfl ?_; clear hK; clear K
          cases hqa : addQ s p with
          | none =>
            rw [hqa] at hadd hst
            have hX := iterO_none' hst (m := m) (by omega)
            rw [hX]
            simp only [resQ] at hadd
            (repeat refine AW.seq_k fun K hK => ?_); refine AW.rg ?_; simp [(entM_at n1 (s := s)).1]; try (refine hK _ rfl ?_; clear hK; clear K)
            refine CallK.val hadd ?_; simp [zeroRat]
            refine Fresh.intro fun b14 hb14 => ?_
            refine hK _ rfl ?_; clear hK; clear K
            refine AW.turn [(8, .ptr b8 4 0 0), (15, .int .i64 2)] (entM b8 b10 s) (Recast.drop hb14 (entM_ones b8 b10 s)) (by simp) ?_
            (repeat refine AW.seq_k fun K hK => ?_); refine AW.rg ?_; simp; try (refine hK _ rfl ?_; clear hK; clear K)
            refine AW.yes ?_ rfl; (repeat refine AW.seq_k fun K hK => ?_); refine AW.rg ?_; simp [entM, n1, n2]; try (refine hK _ rfl ?_; clear hK; clear K)
            exact AW.ret (ret_rat (b := b8) (.bool false) (lim []) (.bool false) (lim []) rfl rfl (by simp [n1, n2]) rfl ⟨.same _, .nilsl 1, .same _, .nilsl 1, trivial⟩ ⟨rfl, rfl⟩)
          | some z =>
            rw [hqa] at hadd hst
            simp only [resQ] at hadd
            (repeat refine AW.seq_k fun K hK => ?_); refine AW.rg ?_; simp [(entM_at n1 (s := s)).1]; try (refine hK _ rfl ?_; clear hK; clear K)
            refine CallK.val hadd ?_; simp [qAV]
            refine Fresh.intro fun b14 hb14 => ?_
            refine hK _ rfl ?_; clear hK; clear K
            refine AW.turn [(0, matAV (emb A)), (1, matAV (emb N)), (2, .int .i64 i), (3, .int .i64 j), (8, .ptr b8 4 0 0), (10, .ptr b10 4 0 0), (11, .int .i64 (k : Nat)), (14, .rptr [.bool (ofQ z).n1, lim (ofQ z).l1, .bool (ofQ z).n2, lim (ofQ z).l2]), (15, .int .i64 0)] (entM b8 b10 s) (Recast.drop hb14 (entM_ones b8 b10 s)) ?_ ?_
            · simp
              exact view_temp hb14
            (repeat refine AW.seq_k fun K hK => ?_); refine AW.rg ?_; simp; try (refine hK _ rfl ?_; clear hK; clear K)
            refine AW.no ?_ rfl; refine AW.skip ?_; try simp
            refine hK _ rfl ?_; clear hK; clear K; (repeat refine AW.seq_k fun K hK => ?_); refine AW.rg ?_; simp [(entM_at n1 (s := s)).1]; try (refine hK _ rfl ?_; clear hK; clear K)
            exact ⟨z, hst, entM_set⟩
      rintro s hs
      (repeat refine AW.seq_k fun K hK => ?_); refine AW.rg ?_; simp [-Int.natCast_add, w1]; try (refine hK _ rfl ?_; clear hK; clear K)
      exact ⟨k + 1, s, ⟨hk, hs⟩, by omega, rfl, rfl⟩
    · refine AW.exit ?_
      try simp
      have : k = m := by omega
      subst this
      exact ⟨s, g2, rfl⟩
  rintro s hs
  rw [hs]; (repeat refine AW.seq_k fun K hK => ?_); refine AW.rg ?_; simp [entM, n1, n2]; try (refine hK _ rfl ?_; clear hK; clear K)
  exact AW.ret (ret_rr (b := b8) (ofQ s) rfl rfl (by simp [n1, n2]; rfl) rfl ⟨rfl, rfl⟩)
end Go.Av
end
section
namespace Go.Av
open Go.Proofs
structure TS7 where
  M : Mem
  ov : AV
  ob : List Nat
  Y : List (List Rat)
structure TR7 where
  M : Mem
  rv : AV
  rb : List Nat
  r : List Rat
def InvT7 (A N : List (List Rat)) (w i : Nat) (s : TS7) : Prop := iterO (tmStep A N w) i [] = some s.Y ∧ LstO s.M 42 1 s.ov s.ob ((emb s.Y).map rowAV)
set_option maxHeartbeats 1000000
theorem times7_call (a b : List (List RR)) (ha : LbM a) (hb : LbM b) : ACall Tryz.prog 29 [matAV a, matAV b] Mem.emp fun v mm => v = .tup [matAV (emb (timR a b).2), .int .i64 (timR a b).1] ∧ mm = Mem.emp := by
  have hca := check2_call a ha
  have hcb := check2_call b hb
  have hwa := columns_call a
  have hwb := columns_call b
  by_cases h0 : chk a = 0
  · rw [h0] at hca
    by_cases h1 : chk b = 0
    · rw [h1] at hcb
      by_cases h2 : (mrow a 0).length = b.length
      · have hT : timR a b = match timesQ (unq a) (unq b) with
          | none => (2, [])
          | some Y => (0, Y) := by unfold timR; rw [if_neg (by simp [h0]), if_neg (by simp [h1]), if_neg (by simp [h2])] <;> rfl
        rw [hT]
        clear hT
        obtain ⟨a1, a2, a3, a4, a5⟩ := chk_emb ha h0
        obtain ⟨b1, b2, b3, b4, b5⟩ := chk_emb hb h1
        have hla := unq_length a
        have hlb := unq_length b
        have ea : (mrow (unq a) 0).length = (mrow a 0).length := by rw [unq_row, List.length_map]
        have eb : (mrow (unq b) 0).length = (mrow b 0).length := by rw [unq_row, List.length_map]
        have hq : timesQ (unq a) (unq b) = iterO (tmStep (unq a) (unq b) (mrow b 0).length) a.length [] := by unfold timesQ; rw [eb, hla]
        rw [ea] at a3 a5
        rw [eb] at b3 b5
        rw [h2] at hwa a3
        rw [hq]
        generalize (mrow b 0).length = w at *
        generalize unq a = A at *
        generalize unq b = N at *
        subst a1 b1
        rw [emb_length] at *
        generalize hn : A.length = n at *
        generalize hm : N.length = m at *
        have hA : matGood n m A := ⟨a2, a3, hn⟩
        have hN : matGood m w N := ⟨b2, b3, hm⟩
        refine acall_S Tryz.func29 rfl rfl 61 rfl (Nat.le_of_ble_eq_true rfl) ?_
        (repeat refine AW.seq_k fun K hK => ?_); refine AW.rg ?_; simp [argsL]; try (refine hK _ rfl ?_; clear hK; clear K)
        (repeat refine AW.seq_k fun K hK => ?_); refine AW.rg ?_; simp; try (refine hK _ rfl ?_; clear hK; clear K)
        refine CallK.val hca ?_; simp; refine hK _ rfl ?_; clear hK; clear K; (repeat refine AW.seq_k fun K hK => ?_); refine AW.rg ?_; simp; try (refine hK _ rfl ?_; clear hK; clear K)
        refine CallK.val hcb ?_; simp; refine hK _ rfl ?_; clear hK; clear K; (repeat refine AW.seq_k fun K hK => ?_); refine AW.rg ?_; simp; try (refine hK _ rfl ?_; clear hK; clear K)
        refine AW.no ?_ rfl; refine AW.skip ?_; try simp
        refine hK _ rfl ?_; clear hK; clear K; (repeat refine AW.seq_k fun K hK => ?_); refine AW.rg ?_; simp; try (refine hK _ rfl ?_; clear hK; clear K)
        refine AW.no ?_ rfl; refine AW.skip ?_; try simp
        refine hK _ rfl ?_; clear hK; clear K; (repeat refine AW.seq_k fun K hK => ?_); refine AW.rg ?_; simp; try (refine hK _ rfl ?_; clear hK; clear K)
        refine CallK.val hwa ?_; simp [emb_length, hm]; refine hK _ rfl ?_; clear hK; clear K; refine AW.no ?_ rfl; refine AW.skip ?_; try simp
        refine hK _ rfl ?_; clear hK; clear K; (repeat refine AW.seq_k fun K hK => ?_); refine AW.rg ?_; simp; try (refine hK _ rfl ?_; clear hK; clear K)
        refine AW.seq_ex (ι := TS7) (fun s => [(8, s.ov)]) (fun s => s.M) (fun s => InvT7 A N w n s) ?_ ?_
        · (repeat refine AW.seq_k fun K hK => ?_); refine AW.rg ?_; simp; try (refine hK _ rfl ?_; clear hK; clear K)
          refine AW.block (AW.loopS (ι := Nat × TS7) (fun z => [(0, matAV (emb A)), (1, matAV (emb N)), (8, z.2.ov), (9, .int .i64 (z.1 : Nat))]) (fun z => z.2.M) (fun z => z.1 ≤ n ∧ InvT7 A N w z.1 z.2) (fun z => n - z.1) (0, ⟨Mem.emp, .nil, [], []⟩) ⟨by simp, rfl, LstO.start _ _⟩ rfl (by simp) ?_)
          rintro ⟨i, M, ov, ob, Y⟩ ⟨g1, g2, g3⟩
          simp only at g1 g2 g3; simp only; (repeat refine AW.seq_k fun K hK => ?_); refine AW.rg ?_; simp [emb_length, hn]; try (refine hK _ rfl ?_; clear hK; clear K)
          (repeat refine AW.seq ?_)
          refine AW.cs (fun hi => ?_) (fun hi => ?_) rfl <;> (try simp at hi)
          · refine AW.skip ?_; try simp
            refine hK _ rfl ?_; clear hK; clear K
            have w1 : IntKind.i64.wrap ((i + 1 : Nat) : Int) = ((i + 1 : Nat) : Int) := wi (by omega)
            have hst : iterO (tmStep A N w) (i + 1) [] = (iterO (tmCol (mrow A i) N) w []).map fun r => Y ++ [r] := by rw [iterO_succ, g2]; rfl
            obtain ⟨_, _, hYl⟩ := tm_keep g2
            have hones := rowAV_ones Y
            have hll : ((emb Y).map rowAV).length = i := by rw [List.length_map, emb_length, hYl]
            generalize hl : (emb Y).map rowAV = l at *
            refine AW.seq_ex (ι := TS7) (fun s => [(0, matAV (emb A)), (1, matAV (emb N)), (8, s.ov), (9, .int .i64 (i : Nat))]) (fun s => s.M) (fun s => InvT7 A N w (i + 1) s) ?_ ?_
            · (repeat refine AW.seq ?_); refine AW.block ?_; (repeat refine AW.seq_k fun K hK => ?_); refine AW.rg ?_; simp; try (refine hK _ rfl ?_; clear hK; clear K)
              refine AW.seq_ex (ι := TR7) (fun s => [(0, matAV (emb A)), (1, matAV (emb N)), (8, ov), (9, .int .i64 (i : Nat)), (10, s.rv)]) (fun s => s.M) (fun s => TwoL s.M ov ob l s.rv s.rb (rrs (s.r.map ofQ)) ∧ iterO (tmCol (mrow A i) N) w [] = some s.r) ?_ ?_
              · (repeat refine AW.seq_k fun K hK => ?_); refine AW.rg ?_; simp; try (refine hK _ rfl ?_; clear hK; clear K)
                refine AW.block (AW.loopS (ι := Nat × TR7) (fun z => [(0, matAV (emb A)), (1, matAV (emb N)), (8, ov), (9, .int .i64 (i : Nat)), (10, z.2.rv), (11, .int .i64 (z.1 : Nat))]) (fun z => z.2.M) (fun z => z.1 ≤ w ∧ TwoL z.2.M ov ob l z.2.rv z.2.rb (rrs (z.2.r.map ofQ)) ∧ iterO (tmCol (mrow A i) N) z.1 [] = some z.2.r) (fun z => w - z.1) (0, ⟨M, .nil, [], []⟩) ⟨by simp, TwoL.start g3, rfl⟩ rfl (by simp) ?_)
                rintro ⟨j, M, rv, rb, r⟩ ⟨q1, q2, q3⟩
                simp only at q1 q2 q3; simp only; (repeat refine AW.seq_k fun K hK => ?_); refine AW.rg ?_; simp; try (refine hK _ rfl ?_; clear hK; clear K)
                refine CallK.val hwb ?_; simp; refine hK _ rfl ?_; clear hK; clear K; (repeat refine AW.seq ?_)
                refine AW.cs (fun hj => ?_) (fun hj => ?_) rfl <;> (try simp at hj)
                · refine AW.skip ?_; try simp
                  refine hK _ rfl ?_; clear hK; clear K
                  have w2 : IntKind.i64.wrap ((j + 1 : Nat) : Int) = ((j + 1 : Nat) : Int) := wi (by omega)
                  have hcol : iterO (tmCol (mrow A i) N) (j + 1) [] = (entQ (mrow A i) N j).map fun x => r ++ [x] := by rw [iterO_succ, q3]; rfl
                  have hrl := (tmCol_keep q3).1
                  have hent := entry_call A N n m w i j hA hN hi hj (by omega)
                  have hon := q2.ones hones (rrs_ok _)
                  refine AW.seq_ex (ι := TR7) (fun s => [(0, matAV (emb A)), (1, matAV (emb N)), (8, ov), (9, .int .i64 (i : Nat)), (10, s.rv), (11, .int .i64 (j : Nat))]) (fun s => s.M) (fun s => TwoL s.M ov ob l s.rv s.rb (rrs (s.r.map ofQ)) ∧ iterO (tmCol (mrow A i) N) (j + 1) [] = some s.r) ?_ ?_
                  · (repeat refine AW.seq ?_); refine AW.block ?_
                    cases hq : entQ (mrow A i) N j with
                    | none =>
                      rw [hq] at hent hcol
                      replace hcol : iterO (tmCol (mrow A i) N) (j + 1) [] = none := hcol
                      rw [iterO_none' hcol (m := w) (by omega)] at hst
                      replace hst : iterO (tmStep A N w) (i + 1) [] = none := hst
                      rw [iterO_none' hst (m := n) (by omega)]
                      simp only [resQ] at hent
                      (repeat refine AW.seq_k fun K hK => ?_); refine AW.rg ?_; simp; try (refine hK _ rfl ?_; clear hK; clear K)
                      refine CallK.val hent ?_; simp [zeroRat]
                      refine Fresh.intro fun b12 hb12 => ?_
                      refine hK _ rfl ?_; clear hK; clear K
                      refine AW.turn [(13, .int .i64 2)] M (Recast.drop hb12 hon) (by simp) ?_
                      (repeat refine AW.seq_k fun K hK => ?_); refine AW.rg ?_; simp; try (refine hK _ rfl ?_; clear hK; clear K)
                      refine AW.yes ?_ rfl; (repeat refine AW.seq_k fun K hK => ?_); refine AW.rg ?_; simp; try (refine hK _ rfl ?_; clear hK; clear K)
                      exact AW.ret (ret_views [matAV [], .int .i64 2] rfl ⟨.nilsl 1, .same _, trivial⟩ ⟨rfl, rfl⟩)
                    | some z =>
                      rw [hq] at hent hcol
                      replace hcol : iterO (tmCol (mrow A i) N) (j + 1) [] = some (r ++ [z]) := hcol
                      simp only [resQ] at hent
                      (repeat refine AW.seq_k fun K hK => ?_); refine AW.rg ?_; simp; try (refine hK _ rfl ?_; clear hK; clear K)
                      refine CallK.val hent ?_; simp [qAV]
                      refine Fresh.intro fun b12 hb12 => ?_
                      refine hK _ rfl ?_; clear hK; clear K
                      refine AW.turn [(0, matAV (emb A)), (1, matAV (emb N)), (8, ov), (9, .int .i64 (i : Nat)), (10, rv), (11, .int .i64 (j : Nat)), (12, .rptr [.bool (ofQ z).n1, lim (ofQ z).l1, .bool (ofQ z).n2, lim (ofQ z).l2]), (13, .int .i64 0)] M (Recast.drop hb12 hon) ?_ ?_
                      · simp
                        exact view_temp hb12
                      (repeat refine AW.seq_k fun K hK => ?_); refine AW.rg ?_; simp; try (refine hK _ rfl ?_; clear hK; clear K)
                      refine AW.no ?_ rfl; refine AW.skip ?_; try simp
                      refine hK _ rfl ?_; clear hK; clear K
                      have hfin : ∀ s : TR7, s.r = r ++ [z] → TwoL s.M ov ob l s.rv s.rb (rrs (r.map ofQ) ++ [(ofQ z).av]) → TwoL s.M ov ob l s.rv s.rb (rrs (s.r.map ofQ)) ∧ iterO (tmCol (mrow A i) N) (j + 1) [] = some s.r := by
                        intro s h1 h2
                        rw [h1]
                        refine ⟨?_, hcol⟩
                        rw [List.map_append, List.map_singleton, rrs_snoc]
                        exact h2
                      have hl2 : (rrs (r.map ofQ)).length = j := by rw [rrs_length, List.length_map, hrl]
                      generalize rrs (r.map ofQ) = l2 at *
                      rcases q2.row with ⟨z1, z2, z3⟩ | ⟨b0, z2, z3, z4⟩
                      · subst z1 z2 z3; (repeat refine AW.seq_k fun K hK => ?_)
                        refine AW.rgR [54] ?_
                        simp; try (refine hK _ rfl ?_; clear hK; clear K)
                        exact ⟨by unfold maxLen; omega, Fresh.intro fun b hb => ⟨⟨_, _, [b], r ++ [z]⟩, hfin _ rfl (q2.push0 hb _), rfl, rfl⟩⟩
                      · subst z2 z3; (repeat refine AW.seq_k fun K hK => ?_)
                        refine AW.rgR [54] ?_
                        simp [z4]; try (refine hK _ rfl ?_; clear hK; clear K)
                        exact ⟨by omega, by unfold maxLen; omega, Fresh.intro fun b hb => ⟨⟨_, _, [b], r ++ [z]⟩, hfin _ rfl (q2.push1 hb _), rfl, rfl⟩⟩
                  rintro ⟨M, rv, rb, r⟩ hs
                  (repeat refine AW.seq_k fun K hK => ?_); refine AW.rg ?_; simp [-Int.natCast_add, w2]; try (refine hK _ rfl ?_; clear hK; clear K)
                  exact ⟨j + 1, ⟨M, rv, rb, r⟩, ⟨hj, hs⟩, by omega, by simp⟩
                · refine AW.exit ?_
                  try simp
                  have : j = w := by omega
                  subst this
                  exact ⟨⟨M, rv, rb, r⟩, ⟨q2, q3⟩, by simp⟩
              rintro ⟨M, rv, rb, r⟩ ⟨q2, q3⟩
              simp only at q2 q3; simp only
              rw [q3] at hst
              obtain ⟨M', t1, t2, t3, t4⟩ := q2.done hones
              refine AW.turn [(0, matAV (emb A)), (1, matAV (emb N)), (8, ov), (9, .int .i64 (i : Nat)), (10, rowAV (r.map ofQ))] M' t1 ?_ ?_
              · simp
                exact t3
              have hfin : ∀ s : TS7, s.Y = Y ++ [r] → LstO s.M 42 1 s.ov s.ob (l ++ [rowAV (r.map ofQ)]) → InvT7 A N w (i + 1) s := by
                intro s h1 h2
                refine ⟨by rw [h1]; exact hst, ?_⟩
                rw [h1, show (emb (Y ++ [r])).map rowAV = (emb Y).map rowAV ++ [rowAV (r.map ofQ)] by simp [emb], hl]
                exact h2
              rcases t2.lst with ⟨z1, z2, z3⟩ | ⟨b0, z2, z3, z4⟩
              · subst z1 z2 z3; (repeat refine AW.seq_k fun K hK => ?_)
                refine AW.rgR [58] ?_
                simp; try (refine hK _ rfl ?_; clear hK; clear K)
                exact ⟨by unfold maxLen; omega, Fresh.intro fun b hb => ⟨⟨_, _, [b], Y ++ [r]⟩, hfin _ rfl (t2.push0 b _), rfl, rfl⟩⟩
              · subst z2 z3; (repeat refine AW.seq_k fun K hK => ?_)
                refine AW.rgR [58] ?_
                simp [z4]; try (refine hK _ rfl ?_; clear hK; clear K)
                exact ⟨by omega, by unfold maxLen; omega, Fresh.intro fun b hb => ⟨⟨_, _, [b], Y ++ [r]⟩, hfin _ rfl (t2.push1 b _), rfl, rfl⟩⟩
            rintro ⟨M, ov, ob, Y⟩ hs
            (repeat refine AW.seq_k fun K hK => ?_); refine AW.rg ?_; simp [-Int.natCast_add, w1]; try (refine hK _ rfl ?_; clear hK; clear K)
            exact ⟨i + 1, ⟨M, ov, ob, Y⟩, ⟨hi, hs⟩, by omega, by simp⟩
          · refine AW.exit ?_
            try simp
            have : i = n := by omega
            subst this
            exact ⟨⟨M, ov, ob, Y⟩, ⟨g2, g3⟩, by simp⟩
        rintro ⟨M, ov, ob, Y⟩ ⟨g2, g3⟩
        simp only at g2 g3; simp only; rw [g2]; (repeat refine AW.seq_k fun K hK => ?_); refine AW.rg ?_; simp; try (refine hK _ rfl ?_; clear hK; clear K)
        have hv := g3.lst.view (M' := Mem.emp) (fun _ _ => rfl)
        exact AW.ret (ret_views [matAV (emb Y), .int .i64 0] rfl ⟨hv, .same _, trivial⟩ ⟨rfl, rfl⟩)
      · have hT : timR a b = (1, []) := by unfold timR; rw [if_neg (by simp [h0]), if_neg (by simp [h1]), if_pos h2]
        rw [hT]
        refine acall_S Tryz.func29 rfl rfl 61 rfl (Nat.le_of_ble_eq_true rfl) ?_
        (repeat refine AW.seq_k fun K hK => ?_); refine AW.rg ?_; simp [argsL]; try (refine hK _ rfl ?_; clear hK; clear K)
        (repeat refine AW.seq_k fun K hK => ?_); refine AW.rg ?_; simp; try (refine hK _ rfl ?_; clear hK; clear K)
        refine CallK.val hca ?_; simp; refine hK _ rfl ?_; clear hK; clear K; (repeat refine AW.seq_k fun K hK => ?_); refine AW.rg ?_; simp; try (refine hK _ rfl ?_; clear hK; clear K)
        refine CallK.val hcb ?_; simp; refine hK _ rfl ?_; clear hK; clear K; (repeat refine AW.seq_k fun K hK => ?_); refine AW.rg ?_; simp; try (refine hK _ rfl ?_; clear hK; clear K)
        refine AW.no ?_ rfl; refine AW.skip ?_; try simp
        refine hK _ rfl ?_; clear hK; clear K; (repeat refine AW.seq_k fun K hK => ?_); refine AW.rg ?_; simp; try (refine hK _ rfl ?_; clear hK; clear K)
        refine AW.no ?_ rfl; refine AW.skip ?_; try simp
        refine hK _ rfl ?_; clear hK; clear K; (repeat refine AW.seq_k fun K hK => ?_); refine AW.rg ?_; simp; try (refine hK _ rfl ?_; clear hK; clear K)
        refine CallK.val hwa ?_; simp; refine hK _ rfl ?_; clear hK; clear K
        refine AW.yes ?_ (by simp [h2])
        (repeat refine AW.seq_k fun K hK => ?_); refine AW.rg ?_; simp; try (refine hK _ rfl ?_; clear hK; clear K)
        exact AW.ret (ret_views [matAV [], .int .i64 1] rfl ⟨.nilsl 1, .same _, trivial⟩ ⟨rfl, rfl⟩)
    · have hT : timR a b = (chk b, []) := by unfold timR; rw [if_neg (by simp [h0]), if_pos h1]
      rw [hT]
      generalize chk b = e at *
      refine acall_S Tryz.func29 rfl rfl 61 rfl (Nat.le_of_ble_eq_true rfl) ?_
      (repeat refine AW.seq_k fun K hK => ?_); refine AW.rg ?_; simp [argsL]; try (refine hK _ rfl ?_; clear hK; clear K)
      (repeat refine AW.seq_k fun K hK => ?_); refine AW.rg ?_; simp; try (refine hK _ rfl ?_; clear hK; clear K)
      refine CallK.val hca ?_; simp; refine hK _ rfl ?_; clear hK; clear K; (repeat refine AW.seq_k fun K hK => ?_); refine AW.rg ?_; simp; try (refine hK _ rfl ?_; clear hK; clear K)
      refine CallK.val hcb ?_; simp; refine hK _ rfl ?_; clear hK; clear K; (repeat refine AW.seq_k fun K hK => ?_); refine AW.rg ?_; simp; try (refine hK _ rfl ?_; clear hK; clear K)
      refine AW.no ?_ rfl; refine AW.skip ?_; try simp
      refine hK _ rfl ?_; clear hK; clear K; (repeat refine AW.seq_k fun K hK => ?_); refine AW.rg ?_; simp [h1]; try (refine hK _ rfl ?_; clear hK; clear K)
      refine AW.yes ?_ rfl; (repeat refine AW.seq_k fun K hK => ?_); refine AW.rg ?_; simp; try (refine hK _ rfl ?_; clear hK; clear K)
      exact AW.ret (ret_views [matAV [], .int .i64 e] rfl ⟨.nilsl 1, .same _, trivial⟩ ⟨rfl, rfl⟩)
  · have hT : timR a b = (chk a, []) := by unfold timR; rw [if_pos h0]
    rw [hT]
    generalize chk a = e at *
    refine acall_S Tryz.func29 rfl rfl 61 rfl (Nat.le_of_ble_eq_true rfl) ?_
    (repeat refine AW.seq_k fun K hK => ?_); refine AW.rg ?_; simp [argsL]; try (refine hK _ rfl ?_; clear hK; clear K)
    (repeat refine AW.seq_k fun K hK => ?_); refine AW.rg ?_; simp; try (refine hK _ rfl ?_; clear hK; clear K)
    refine CallK.val hca ?_; simp; refine hK _ rfl ?_; clear hK; clear K; (repeat refine AW.seq_k fun K hK => ?_); refine AW.rg ?_; simp; try (refine hK _ rfl ?_; clear hK; clear K)
    refine CallK.val hcb ?_; simp; refine hK _ rfl ?_; clear hK; clear K; (repeat refine AW.seq_k fun K hK => ?_); refine AW.rg ?_; simp [h0]; try (refine hK _ rfl ?_; clear hK; clear K)
    refine AW.yes ?_ rfl; (repeat refine AW.seq_k fun K hK => ?_); refine AW.rg ?_; simp; try (refine hK _ rfl ?_; clear hK; clear K)
    exact AW.ret (ret_views [matAV [], .int .i64 e] rfl ⟨.nilsl 1, .same _, trivial⟩ ⟨rfl, rfl⟩)
end Go.Av
end
section
namespace Go.Av
open Go.Proofs
def trRow (X : List (List Rat)) (n j : Nat) : List Rat := (List.range n).map fun i => qel X i j
def trM (X : List (List Rat)) (n w : Nat) : List (List Rat) := (List.range w).map fun j => trRow X n j
theorem trRow_succ (X : List (List Rat)) (n j : Nat) : trRow X (n + 1) j = trRow X n j ++ [qel X n j] := by unfold trRow; rw [List.range_succ, List.map_append]; rfl
theorem trM_succ (X : List (List Rat)) (n w : Nat) : trM X n (w + 1) = trM X n w ++ [trRow X n w] := by unfold trM; rw [List.range_succ, List.map_append]; rfl
theorem tr_good {X : List (List Rat)} {n w : Nat} (h : matGood n w X) : matGood w n (trM X n w) := by
  refine ⟨fun r hr q hq => ?_, fun i hi => ?_, by simp [trM]⟩
  · obtain ⟨j, hj, rfl⟩ := List.mem_map.1 hr
    obtain ⟨i, hi, rfl⟩ := List.mem_map.1 hq
    rw [List.mem_range] at hi hj
    exact h.1.at (by rw [(h.row hi).2]; exact hj)
  · have : mrow (trM X n w) i ∈ trM X n w := by rw [mrow_eq hi]; exact List.getElem_mem hi
    obtain ⟨j, _, e⟩ := List.mem_map.1 this
    rw [← e]; simp [trRow]
structure TrS where
  M : Mem
  rv : AV
  rb : List Nat
set_option maxHeartbeats 1000000
theorem transposed_call (X : List (List Rat)) (n w : Nat) (hX : matGood n w X) (h0 : n = 0 → w = 0) (hn : n ≤ 64) (hw : w ≤ 64) : ACall Tryz.prog 30 [matAV (emb X)] Mem.emp fun v mm => v = matAV (emb (trM X n w)) ∧ mm = Mem.emp := by
  have hXl := hX.2.2
  refine acall_S Tryz.func30 rfl rfl 41 rfl (Nat.le_of_ble_eq_true rfl) ?_
  (repeat refine AW.seq_k fun K hK => ?_); refine AW.rg ?_; simp [argsL]; try (refine hK _ rfl ?_; clear hK; clear K)
  (repeat refine AW.seq_k fun K hK => ?_); refine AW.rg ?_; simp; try (refine hK _ rfl ?_; clear hK; clear K)
  refine AW.seq_ex (ι := TrS) (fun s => [(3, s.rv)]) (fun s => s.M) (fun s => LstO s.M 42 1 s.rv s.rb ((emb (trM X n w)).map rowAV)) ?_ ?_
  · (repeat refine AW.seq_k fun K hK => ?_); refine AW.rg ?_; simp; try (refine hK _ rfl ?_; clear hK; clear K)
    refine AW.block (AW.loopS (ι := Nat × TrS) (fun z => [(0, matAV (emb X)), (3, z.2.rv), (4, .int .i64 (z.1 : Nat))]) (fun z => z.2.M) (fun z => z.1 ≤ w ∧ LstO z.2.M 42 1 z.2.rv z.2.rb ((emb (trM X n z.1)).map rowAV)) (fun z => w - z.1) (0, ⟨Mem.emp, .nil, []⟩) ⟨by simp, LstO.start _ _⟩ rfl (by simp) ?_)
    rintro ⟨j, M, ov, ob⟩ ⟨g1, g2⟩
    simp only at g1 g2; simp only
    rcases Nat.eq_zero_or_pos n with hn0 | hn0
    · have hw0 := h0 hn0
      subst hw0
      have hj0 : j = 0 := by omega
      subst hj0; subst hn0; (repeat refine AW.seq_k fun K hK => ?_); refine AW.rg ?_; simp [emb_length, hXl]; try (refine hK _ rfl ?_; clear hK; clear K)
      refine AW.no ?_ rfl
      refine AW.exit ?_
      try simp
      exact ⟨⟨M, ov, ob⟩, g2, by simp⟩
    · have hE0 : 0 < (emb X).length := by rw [emb_length, hXl]; exact hn0
      have hl0 : (mrow (emb X) 0).length = w := by rw [emb_row, List.length_map]; exact (hX.row hn0).2
      (repeat refine AW.seq_k fun K hK => ?_); refine AW.rg ?_; simp [hE0, hl0]; try (refine hK _ rfl ?_; clear hK; clear K)
      (repeat refine AW.seq ?_)
      refine AW.cs (fun hj => ?_) (fun hj => ?_) rfl <;> (try simp at hj)
      · refine AW.skip ?_; try simp
        refine hK _ rfl ?_; clear hK; clear K
        have w1 : IntKind.i64.wrap ((j + 1 : Nat) : Int) = ((j + 1 : Nat) : Int) := wi (by omega)
        have hones := rowAV_ones (trM X n j)
        have hll : ((emb (trM X n j)).map rowAV).length = j := by rw [List.length_map, emb_length]; simp [trM]
        generalize hl : (emb (trM X n j)).map rowAV = l at *
        refine AW.seq_ex (ι := TrS) (fun s => [(0, matAV (emb X)), (3, s.rv), (4, .int .i64 (j : Nat))]) (fun s => s.M) (fun s => LstO s.M 42 1 s.rv s.rb ((emb (trM X n (j + 1))).map rowAV)) ?_ ?_
        · (repeat refine AW.seq ?_); refine AW.block ?_; (repeat refine AW.seq_k fun K hK => ?_); refine AW.rg ?_; simp; try (refine hK _ rfl ?_; clear hK; clear K)
          refine AW.seq_ex (ι := TrS) (fun s => [(0, matAV (emb X)), (3, ov), (4, .int .i64 (j : Nat)), (5, s.rv)]) (fun s => s.M) (fun s => TwoL s.M ov ob l s.rv s.rb (rrs ((trRow X n j).map ofQ))) ?_ ?_
          · (repeat refine AW.seq_k fun K hK => ?_); refine AW.rg ?_; simp; try (refine hK _ rfl ?_; clear hK; clear K)
            refine AW.block (AW.loopS (ι := Nat × TrS) (fun z => [(0, matAV (emb X)), (3, ov), (4, .int .i64 (j : Nat)), (5, z.2.rv), (6, .int .i64 (z.1 : Nat))]) (fun z => z.2.M) (fun z => z.1 ≤ n ∧ TwoL z.2.M ov ob l z.2.rv z.2.rb (rrs ((trRow X z.1 j).map ofQ))) (fun z => n - z.1) (0, ⟨M, .nil, []⟩) ⟨by simp, TwoL.start g2⟩ rfl (by simp) ?_)
            rintro ⟨i, M, rv, rb⟩ ⟨q1, q2⟩
            simp only at q1 q2; simp only; (repeat refine AW.seq_k fun K hK => ?_); refine AW.rg ?_; simp [emb_length, hXl]; try (refine hK _ rfl ?_; clear hK; clear K)
            (repeat refine AW.seq ?_)
            refine AW.cs (fun hi => ?_) (fun hi => ?_) rfl <;> (try simp at hi)
            · refine AW.skip ?_; try simp
              refine hK _ rfl ?_; clear hK; clear K
              have w2 : IntKind.i64.wrap ((i + 1 : Nat) : Int) = ((i + 1 : Nat) : Int) := wi (by omega)
              have hiE : i < (emb X).length := by rw [emb_length, hXl]; exact hi
              have hli : (mrow (emb X) i).length = w := by rw [emb_row, List.length_map]; exact (hX.row hi).2
              have hjl : j < (mrow X i).length := by rw [(hX.row hi).2]; exact hj
              have e1 : rr (mrow (emb X) i) j = ofQ (qel X i j) := by rw [emb_row, rr_map hjl]; rfl
              refine AW.seq_ex (ι := TrS) (fun s => [(0, matAV (emb X)), (3, ov), (4, .int .i64 (j : Nat)), (5, s.rv), (6, .int .i64 (i : Nat))]) (fun s => s.M) (fun s => TwoL s.M ov ob l s.rv s.rb (rrs ((trRow X (i + 1) j).map ofQ))) ?_ ?_
              · (repeat refine AW.seq ?_); refine AW.block ?_
                have hfin : ∀ s : TrS, TwoL s.M ov ob l s.rv s.rb (rrs ((trRow X i j).map ofQ) ++ [(ofQ (qel X i j)).av]) → TwoL s.M ov ob l s.rv s.rb (rrs ((trRow X (i + 1) j).map ofQ)) := by
                  intro s h2
                  rw [trRow_succ, List.map_append, List.map_singleton, rrs_snoc]
                  exact h2
                have hl2 : (rrs ((trRow X i j).map ofQ)).length = i := by rw [rrs_length, List.length_map]; simp [trRow]
                generalize rrs ((trRow X i j).map ofQ) = l2 at *
                rcases q2.row with ⟨z1, z2, z3⟩ | ⟨b0, z2, z3, z4⟩
                · subst z1 z2 z3; (repeat refine AW.seq_k fun K hK => ?_)
                  refine AW.rgR [34] ?_
                  simp [hiE, hli, hj, e1]; try (refine hK _ rfl ?_; clear hK; clear K)
                  exact ⟨by unfold maxLen; omega, Fresh.intro fun b hb => ⟨⟨_, _, [b]⟩, hfin _ (q2.push0 hb _), rfl, rfl⟩⟩
                · subst z2 z3; (repeat refine AW.seq_k fun K hK => ?_)
                  refine AW.rgR [34] ?_
                  simp [hiE, hli, hj, e1, z4]; try (refine hK _ rfl ?_; clear hK; clear K)
                  exact ⟨by omega, by unfold maxLen; omega, Fresh.intro fun b hb => ⟨⟨_, _, [b]⟩, hfin _ (q2.push1 hb _), rfl, rfl⟩⟩
              rintro ⟨M, rv, rb⟩ hs
              (repeat refine AW.seq_k fun K hK => ?_); refine AW.rg ?_; simp [-Int.natCast_add, w2]; try (refine hK _ rfl ?_; clear hK; clear K)
              exact ⟨i + 1, ⟨M, rv, rb⟩, ⟨hi, hs⟩, by omega, by simp⟩
            · refine AW.exit ?_
              try simp
              have : i = n := by omega
              subst this
              exact ⟨⟨M, rv, rb⟩, q2, by simp⟩
          rintro ⟨M, rv, rb⟩ q2
          simp only at q2; simp only
          obtain ⟨M', t1, t2, t3, t4⟩ := q2.done hones
          refine AW.turn [(0, matAV (emb X)), (3, ov), (4, .int .i64 (j : Nat)), (5, rowAV ((trRow X n j).map ofQ))] M' t1 ?_ ?_
          · simp
            exact t3
          have hfin : ∀ s : TrS, LstO s.M 42 1 s.rv s.rb (l ++ [rowAV ((trRow X n j).map ofQ)]) → LstO s.M 42 1 s.rv s.rb ((emb (trM X n (j + 1))).map rowAV) := by
            intro s h2
            rw [trM_succ, show (emb (trM X n j ++ [trRow X n j])).map rowAV = (emb (trM X n j)).map rowAV ++ [rowAV ((trRow X n j).map ofQ)] by simp [emb], hl]
            exact h2
          rcases t2.lst with ⟨z1, z2, z3⟩ | ⟨b0, z2, z3, z4⟩
          · subst z1 z2 z3; (repeat refine AW.seq_k fun K hK => ?_)
            refine AW.rgR [38] ?_
            simp; try (refine hK _ rfl ?_; clear hK; clear K)
            exact ⟨by unfold maxLen; omega, Fresh.intro fun b hb => ⟨⟨_, _, [b]⟩, hfin _ (t2.push0 b _), rfl, rfl⟩⟩
          · subst z2 z3; (repeat refine AW.seq_k fun K hK => ?_)
            refine AW.rgR [38] ?_
            simp [z4]; try (refine hK _ rfl ?_; clear hK; clear K)
            exact ⟨by omega, by unfold maxLen; omega, Fresh.intro fun b hb => ⟨⟨_, _, [b]⟩, hfin _ (t2.push1 b _), rfl, rfl⟩⟩
        rintro ⟨M, ov, ob⟩ hs
        (repeat refine AW.seq_k fun K hK => ?_); refine AW.rg ?_; simp [-Int.natCast_add, w1]; try (refine hK _ rfl ?_; clear hK; clear K)
        exact ⟨j + 1, ⟨M, ov, ob⟩, ⟨hj, hs⟩, by omega, by simp⟩
      · refine AW.exit ?_
        try simp
        have : j = w := by omega
        subst this
        exact ⟨⟨M, ov, ob⟩, g2, by simp⟩
  rintro ⟨M, ov, ob⟩ g2
  simp only at g2; simp only; (repeat refine AW.seq_k fun K hK => ?_); refine AW.rg ?_; simp; try (refine hK _ rfl ?_; clear hK; clear K)
  have hv := g2.lst.view (M' := Mem.emp) (fun _ _ => rfl)
  exact AW.ret (ret_views [matAV (emb (trM X n w))] rfl ⟨hv, trivial⟩ ⟨rfl, rfl⟩)
end Go.Av
end
section
namespace Go.Av
open Go.Proofs
/-- Products. -/
theorem qat_snoc {l : List Rat} {x : Rat} (i : Nat) : qat (l ++ [x]) i = if i < l.length then qat l i else if i = l.length then x else 0 := by
  unfold qat
  rw [List.getD_eq_getElem?_getD]
  by_cases h : i < l.length
  · rw [if_pos h, List.getElem?_append_left h, ← List.getD_eq_getElem?_getD]
  · rw [if_neg h, List.getElem?_append_right (by omega)]
    by_cases e : i = l.length
    · rw [if_pos e, e, Nat.sub_self]; rfl
    · rw [if_neg e, List.getElem?_eq_none (by simp; omega)]; rfl
theorem ent_eq {r : List Rat} {b : List (List Rat)} {j : Nat} : ∀ {k : Nat} {s : Rat}, iterO (entStep r b j) k 0 = some s → s = sumN k fun t => qat r t * qel b t j
  | 0, s, h => by cases h; rfl
  | k + 1, s, h => by
    rw [iterO_succ] at h
    cases hs : iterO (entStep r b j) k 0 with
    | none => rw [hs] at h; cases h
    | some q =>
      rw [hs] at h
      replace h : (mulQ (qat r k) (qel b k j)).bind (addQ q) = some s := h
      cases hm : mulQ (qat r k) (qel b k j) with
      | none => rw [hm] at h; cases h
      | some m => rw [hm] at h; rw [addQ_eq h, mulQ_eq hm, ent_eq hs]; rfl
theorem col_eq {r : List Rat} {b : List (List Rat)} : ∀ {j : Nat} {acc : List Rat}, iterO (tmCol r b) j [] = some acc → ∀ t, t < j → qat acc t = sumN b.length fun k => qat r k * qel b k t
  | 0, acc, h, t, ht => by omega
  | j + 1, acc, h, t, ht => by
    rw [iterO_succ] at h
    cases hs : iterO (tmCol r b) j [] with
    | none => rw [hs] at h; cases h
    | some a0 =>
      rw [hs] at h
      replace h : (entQ r b j).map (fun x => a0 ++ [x]) = some acc := h
      cases he : entQ r b j with
      | none => rw [he] at h; cases h
      | some x =>
        rw [he] at h
        cases h
        rw [qat_snoc, (tmCol_keep hs).1]
        by_cases e : t < j
        · rw [if_pos e]; exact col_eq hs t e
        · have : t = j := by omega
          subst this; rw [if_neg e, if_pos rfl]
          exact ent_eq he
theorem mrow_snoc' {l : List (List Rat)} {x : List Rat} (i : Nat) : mrow (l ++ [x]) i = if i < l.length then mrow l i else if i = l.length then x else [] := by
  unfold mrow
  rw [List.getD_eq_getElem?_getD]
  by_cases h : i < l.length
  · rw [if_pos h, List.getElem?_append_left h, ← List.getD_eq_getElem?_getD]
  · rw [if_neg h, List.getElem?_append_right (by omega)]
    by_cases e : i = l.length
    · rw [if_pos e, e, Nat.sub_self]; rfl
    · rw [if_neg e, List.getElem?_eq_none (by simp; omega)]; rfl
theorem tm_eq {a b : List (List Rat)} {w : Nat} : ∀ {i : Nat} {Z : List (List Rat)}, iterO (tmStep a b w) i [] = some Z → ∀ s t, s < i → t < w → qel Z s t = sumN b.length fun k => qel a s k * qel b k t
  | 0, Z, h, s, t, hs, ht => by omega
  | i + 1, Z, h, s, t, hs, ht => by
    rw [iterO_succ] at h
    cases hu : iterO (tmStep a b w) i [] with
    | none => rw [hu] at h; cases h
    | some Y0 =>
      rw [hu] at h
      replace h : (iterO (tmCol (mrow a i) b) w []).map (fun r => Y0 ++ [r]) = some Z := h
      cases he : iterO (tmCol (mrow a i) b) w [] with
      | none => rw [he] at h; cases h
      | some r =>
        rw [he] at h
        cases h
        unfold qel
        rw [mrow_snoc', (tm_keep hu).2.2]
        by_cases e : s < i
        · rw [if_pos e]; exact tm_eq hu s t e ht
        · have : s = i := by omega
          subst this; rw [if_neg e, if_pos rfl]
          exact col_eq he t ht
theorem times_eq {a b Z : List (List Rat)} (h : timesQ a b = some Z) {s t : Nat} (hs : s < a.length) (ht : t < (mrow b 0).length) : qel Z s t = sumN b.length fun k => qel a s k * qel b k t := tm_eq h s t hs ht
theorem qel_tr {X : List (List Rat)} {n w i j : Nat} (hi : i < w) (hj : j < n) : qel (trM X n w) i j = qel X j i := by
  unfold qel mrow trM
  rw [List.getD_eq_getElem?_getD, List.getElem?_map, List.getElem?_range hi]
  show qat (trRow X n i) j = _
  unfold trRow qat
  rw [List.getD_eq_getElem?_getD, List.getElem?_map, List.getElem?_range hj]
  rfl
end Go.Av
end
section
namespace Go.Av
open Go.Proofs
def wideP (X : List (List Rat)) (b : List Rat) : Nat → List (List Rat)
  | 0 => X
  | i + 1 => (wideP X b i).set i (mrow X i ++ [qat b i])
def wideQ (X : List (List Rat)) (b : List Rat) : List (List Rat) := wideP X b X.length
def solF (Y : List (List Rat)) (ps : List Nat) (w : Nat) : Nat → List Rat → List Rat
  | 0, v => v
  | k + 1, v => (solF Y ps w k v).set (ps.getD k 0) (qel Y k w)
def solV (Y : List (List Rat)) (ps : List Nat) (w : Nat) : List Rat := solF Y ps w ps.length (List.replicate w 0)
def okV (b : List RR) : Prop := ∀ i, i < b.length → (rr b i).ok = true
open Classical in
/-- The error, is there a solution, the solution. -/
noncomputable def solR (m : List (List RR)) (b : List RR) : Int × Bool × List Rat :=
  if chk m ≠ 0 then (chk m, false, []) else if b.length ≠ m.length then (1, false, []) else if ¬ okV b then (1, false, []) else if (mrow m 0).length = 64 then (2, false, []) else
  match reduceQ (wideQ (unq m) (b.map RR.q)) with
  | none => (2, false, [])
  | some z => if (mrow m 0).length ∈ z.2 then (0, false, []) else (0, true, solV z.1 z.2 (mrow m 0).length)
theorem hdrs_put {bs : List Nat} {rows : List (List RR)} (i : Nat) (b' : Nat) (r : List RR) : hdrs (bs.set i b') (rows.set i r) = (hdrs bs rows).set i (.osl b' 4 0 r.length) := by
  unfold hdrs
  refine List.ext_getElem? fun k => ?_
  rw [List.getElem?_zipWith, List.getElem?_set, List.getElem?_set, List.getElem?_set, List.length_zipWith]
  by_cases e : i = k
  · subst e
    simp only [if_true]
    by_cases h1 : i < bs.length <;> by_cases h2 : i < rows.length <;> simp [h1, h2] <;> omega
  · simp only [if_neg e]
    rw [List.getElem?_zipWith]
theorem RefM.grow {M : Mem} {B : Nat} {bs : List Nat} {X : List (List Rat)} (h : RefM M B bs X) {i : Nat} (hi : i < X.length) {b' : Nat} (hb' : (M.del (nb bs i)) b' = none) (r : List Rat) :
    RefM (((M.del (nb bs i)).set b' ⟨36, 4, rrs (r.map ofQ)⟩).set B ⟨42, 1, (hdrs bs (emb X)).set i (.osl b' 4 0 r.length)⟩) B (bs.set i b') (X.set i r) := by
  have hiE : i < (emb X).length := by rw [emb_length]; exact hi
  have hib : i < bs.length := by rw [h.1.len]; exact hiE
  have hni := h.1.ne hiE
  have hdel : ∀ a, a ≠ nb bs i → (M.del (nb bs i)) a = M a := fun a ha => if_neg ha
  have hB' : B ≠ b' := by
    rintro rfl
    rw [hdel _ (Ne.symm hni), h.1.top] at hb'; cases hb'
  have hk' : ∀ k, k < (emb X).length → k ≠ i → nb bs k ≠ nb bs i ∧ nb bs k ≠ b' := fun k hk hki => by
    have h1 : nb bs k ≠ nb bs i := fun e => hki (nb_inj h.1.nd (by rw [h.1.len]; exact hk) hib e)
    refine ⟨h1, fun e => ?_⟩
    rw [← e, hdel _ h1, h.1.row k hk] at hb'; cases hb'
  refine ⟨⟨?_, ?_, fun k hk => ?_, ?_, ?_⟩, fun a ha => ?_⟩
  · rw [emb_set, hdrs_put, List.length_map]; simp
  · rw [List.length_set, emb_set, List.length_set]; exact h.1.len
  · rw [emb_set, List.length_set] at hk
    rw [nb_set hib, emb_set, mrow_set hiE]
    simp only [set_at]
    by_cases e : k = i
    · rw [if_pos e, if_pos e, if_neg (Ne.symm hB'), if_pos rfl]
    · obtain ⟨h1, h2⟩ := hk' k hk e
      rw [if_neg e, if_neg e, if_neg (h.1.ne hk), if_neg h2, hdel _ h1]
      exact h.1.row k hk
  · unfold List.Nodup
    rw [List.pairwise_iff_getElem]
    intro x y hx hy hxy
    rw [← nb_eq hx, ← nb_eq hy, nb_set hib, nb_set hib]
    rw [List.length_set, h.1.len] at hx hy
    by_cases e1 : x = i
    · rw [if_pos e1, if_neg (by omega)]
      exact Ne.symm (hk' y hy (by omega)).2
    · rw [if_neg e1]
      by_cases e2 : y = i
      · rw [if_pos e2]; exact (hk' x hx e1).2
      · rw [if_neg e2]
        intro e
        have := nb_inj h.1.nd (by rw [h.1.len]; exact hx) (by rw [h.1.len]; exact hy) e
        omega
  · intro hm
    rcases List.mem_or_eq_of_mem_set hm with hm | e
    · exact h.1.nB hm
    · exact hB' e
  · simp only [set_at] at ha
    by_cases e1 : a = B
    · simp [e1]
    · rw [if_neg e1] at ha
      by_cases e2 : a = b'
      · rw [e2]
        refine List.mem_cons_of_mem _ ?_
        have := nb_mem (bs := bs.set i b') (i := i) (by rw [List.length_set]; exact hib)
        rwa [nb_set hib, if_pos rfl] at this
      · rw [if_neg e2] at ha
        have e3 : a ≠ nb bs i := by rintro rfl; exact ha (if_pos rfl)
        rw [hdel _ e3] at ha
        have := h.2 a ha
        rcases List.mem_cons.1 this with e4 | hm
        · exact absurd e4 e1
        · obtain ⟨k, hk, e⟩ := List.mem_iff_getElem.1 hm
          have hki : k ≠ i := by
            rintro rfl
            exact e3 (by rw [← e, nb_eq hk])
          refine List.mem_cons_of_mem _ ?_
          have := nb_mem (bs := bs.set i b') (i := k) (by rw [List.length_set]; exact hk)
          rwa [nb_set hib, if_neg hki, nb_eq hk, e] at this
end Go.Av
end
section
namespace Go.Av
open Go.Proofs
theorem below_row {n j t : Nat} {M M' : List (List Rat)} (hn : M.length = n) (hi : j + 1 + t < n) (he : belowStep n j t M = some M') : mrow M' j = mrow M j := by
  unfold belowStep at he
  split at he
  · cases he; rfl
  · cases hf : divQ (qel M (j + 1 + t) j) (qel M j j) with
    | none => rw [hf] at he; cases he
    | some f =>
      rw [hf] at he
      replace he : (iterO (belowRow (mrow M j) f j) (n - j) (mrow M (j + 1 + t))).map (M.set (j + 1 + t)) = some M' := he
      cases hm : iterO (belowRow (mrow M j) f j) (n - j) (mrow M (j + 1 + t)) with
      | none => rw [hm] at he; cases he
      | some row =>
        rw [hm] at he
        cases he
        rw [mrow_set (by omega), if_neg (by omega)]
set_option maxHeartbeats 1000000
theorem below_call (M0 : Mem) (B : Nat) (bs : List Nat) (X : List (List Rat)) (n j : Nat) (hM : RefM M0 B bs X) (hG : matGood n n X) (hj : j < n) (hdq : qel X j j ≠ 0) (hn : n ≤ 64) :
    ACall Tryz.prog 61 [.osl B 1 0 n, .int .i64 j] M0 (clearOut B bs (belowQ n j X)) := by
  have w0 : IntKind.i64.wrap ((j + 1 : Nat) : Int) = ((j + 1 : Nat) : Int) := wi (by omega)
  refine acall_S Tryz.func61 rfl rfl 61 rfl (Nat.le_of_ble_eq_true rfl) ?_
  (repeat refine AW.seq_k fun K hK => ?_); refine AW.rg ?_; simp [argsL]; try (refine hK _ rfl ?_; clear hK; clear K)
  refine AW.seq_ex (ι := Mem × List (List Rat)) (fun _ => []) (fun z => z.1) (fun z => RefM z.1 B bs z.2 ∧ belowQ n j X = some z.2) ?_ ?_
  · (repeat refine AW.seq_k fun K hK => ?_); refine AW.rg ?_; simp [-Int.natCast_add, w0]; try (refine hK _ rfl ?_; clear hK; clear K)
    refine AW.block (AW.loopS (ι := Nat × Mem × List (List Rat)) (fun z => [(0, .osl B 1 0 n), (1, .int .i64 j), (5, .int .i64 ((j + 1 + z.1 : Nat) : Int))]) (fun z => z.2.1) (fun z => z.1 ≤ n - (j + 1) ∧ RefM z.2.1 B bs z.2.2 ∧ iterO (belowStep n j) z.1 X = some z.2.2 ∧ matGood n n z.2.2 ∧ mrow z.2.2 j = mrow X j) (fun z => n - z.1) (0, M0, X) ⟨by simp, hM, rfl, hG, rfl⟩ rfl (by simp [-Int.natCast_add]) ?_)
    rintro ⟨t, M, Y⟩ ⟨g1, g2, g3, g4, g5⟩
    simp only at g1 g2 g3 g4 g5; simp only
    generalize hi' : j + 1 + t = i at *
    (repeat refine AW.seq_k fun K hK => ?_); refine AW.rg ?_; simp [-Int.natCast_add]; try (refine hK _ rfl ?_; clear hK; clear K)
    (repeat refine AW.seq ?_)
    refine AW.cs (fun hi => ?_) (fun hi => ?_) rfl <;> (try simp at hi)
    · refine AW.skip ?_
      try simp [-Int.natCast_add]
      refine hK _ rfl ?_; clear hK; clear K
      have w1 : IntKind.i64.wrap ((i + 1 : Nat) : Int) = ((i + 1 : Nat) : Int) := wi (by omega)
      have hiE : i < (emb Y).length := by rw [emb_length, g4.2.2]; exact hi
      have hjE : j < (emb Y).length := by rw [emb_length, g4.2.2]; exact hj
      have hli : (mrow (emb Y) i).length = n := by rw [emb_row, List.length_map]; exact (g4.row hi).2
      have hlj : (mrow (emb Y) j).length = n := by rw [emb_row, List.length_map]; exact (g4.row hj).2
      have hji : j < (mrow Y i).length := by rw [(g4.row hi).2]; exact hj
      have hjj : j < (mrow Y j).length := by rw [(g4.row hj).2]; exact hj
      have ef : rr (mrow (emb Y) i) j = ofQ (qel Y i j) := by rw [emb_row, rr_map hji]; rfl
      have ed : rr (mrow (emb Y) j) j = ofQ (qel Y j j) := by rw [emb_row, rr_map hjj]; rfl
      have gf : Good (qel Y i j) := g4.1.at hji
      have gd : Good (qel Y j j) := g4.1.at hjj
      have hd0 : qel Y j j ≠ 0 := by unfold qel; rw [g5]; exact hdq
      have hsg := rsign2_call (ofQ (qel Y i j)) (ofQ_lb _)
      rw [signR_ofQ gf] at hsg
      have hst : iterO (belowStep n j) (t + 1) X = belowStep n j t Y := by rw [iterO_succ, g3]; rfl
      have hrow : ∀ Y', belowStep n j t Y = some Y' → mrow Y' j = mrow X j := fun Y' h => by rw [below_row g4.2.2 (by omega) h, g5]
      have hBi := g2.1.row i hiE
      have hBj := g2.1.row j hjE
      refine AW.seq_ex (ι := Mem × List (List Rat)) (fun _ => [(0, .osl B 1 0 n), (1, .int .i64 j), (5, .int .i64 (i : Nat))]) (fun z => z.1) (fun z => RefM z.1 B bs z.2 ∧ iterO (belowStep n j) (t + 1) X = some z.2 ∧ matGood n n z.2 ∧ mrow z.2 j = mrow X j) ?_ ?_
      · (repeat refine AW.seq ?_); refine AW.block ?_; (repeat refine AW.seq_k fun K hK => ?_); refine AW.rg ?_; simp [-Int.natCast_add, hi, g2.1.top, ↓g2.1.get hiE, hBi, hli, hj, ef]; try (refine hK _ rfl ?_; clear hK; clear K)
        refine CallK.val hsg ?_; simp; refine hK _ rfl ?_; clear hK; clear K; (repeat refine AW.seq ?_)
        refine AW.cs (fun h0 => ?_) (fun h0 => ?_) rfl <;> (try simp at h0)
        · refine AW.exit ?_
          try simp [-Int.natCast_add]
          refine ⟨Y, g2, ?_, g4, g5⟩
          rw [hst]
          unfold belowStep
          rw [hi', if_pos (signQ_zero.1 h0)]
        · refine AW.skip ?_
          try simp [-Int.natCast_add]
          refine hK _ rfl ?_; clear hK; clear K
          have hne0 : qel Y i j ≠ 0 := fun h => h0 (signQ_zero.2 h)
          have hdv := div2_call (qel Y i j) (qel Y j j) gf gd hd0
          have hbs : belowStep n j t Y = (divQ (qel Y i j) (qel Y j j)).bind fun f => (iterO (belowRow (mrow Y j) f j) (n - j) (mrow Y i)).map (Y.set i) := by
            unfold belowStep; rw [hi', if_neg hne0]
          cases hq : divQ (qel Y i j) (qel Y j j) with
          | none =>
            rw [hq] at hdv hbs
            simp only [resQ] at hdv
            have hno : iterO (belowStep n j) (t + 1) X = none := by rw [hst, hbs]; rfl
            have hX : belowQ n j X = none := iterO_none' hno (m := n - (j + 1)) (by omega)
            rw [hX]; (repeat refine AW.seq_k fun K hK => ?_)
            refine AW.rdT [] [] [] [B, nb bs i, nb bs j] [0, 1, 2, 3, 4, 5, 6, 7, 8, 9, 10, 11, 12, 13, 14, 15, 16, 17, 18, 19, 20] mix (by simp [hi, hj, g2.1.top, ↓g2.1.get hiE, ↓g2.1.get hjE, hBi, hBj, hli, hlj, ef, ed]) (by simp [hi, hj, g2.1.top, ↓g2.1.get hiE, ↓g2.1.get hjE, hBi, hBj, hli, hlj, ef, ed]) (by simp [hi, hj, g2.1.top, ↓g2.1.get hiE, ↓g2.1.get hjE, hBi, hBj, hli, hlj, ef, ed]) (by simp [hi, hj, g2.1.top, ↓g2.1.get hiE, ↓g2.1.get hjE, hBi, hBj, hli, hlj, ef, ed]) (by simp [hi, hj, g2.1.top, ↓g2.1.get hiE, ↓g2.1.get hjE, hBi, hBj, hli, hlj, ef, ed]) ?_
            simp [-Int.natCast_add, hi, hj, g2.1.top, ↓g2.1.get hiE, ↓g2.1.get hjE, hBi, hBj, hli, hlj, ef, ed]; try (refine hK _ rfl ?_; clear hK; clear K)
            refine CallK.val hdv ?_; simp [zeroRat]
            refine Fresh.intro fun b6 hb6 => ?_
            refine hK _ rfl ?_; clear hK; clear K
            refine AW.turn [(7, .int .i64 2)] M (Recast.drop hb6 g2.ones) (by simp) ?_
            (repeat refine AW.seq_k fun K hK => ?_); refine AW.rg ?_; simp [-Int.natCast_add]; try (refine hK _ rfl ?_; clear hK; clear K)
            refine AW.yes ?_ rfl; (repeat refine AW.seq_k fun K hK => ?_); refine AW.rg ?_; simp [-Int.natCast_add]; try (refine hK _ rfl ?_; clear hK; clear K)
            exact AW.ret (ret_mem rfl g2.ones ⟨rfl, g2.ones⟩)
          | some f =>
            rw [hq] at hdv hbs
            simp only [resQ] at hdv
            replace hbs : belowStep n j t Y = (iterO (belowRow (mrow Y j) f j) (n - j) (mrow Y i)).map (Y.set i) := hbs
            (repeat refine AW.seq_k fun K hK => ?_)
            refine AW.rdT [] [] [] [B, nb bs i, nb bs j] [0, 1, 2, 3, 4, 5, 6, 7, 8, 9, 10, 11, 12, 13, 14, 15, 16, 17, 18, 19, 20] mix (by simp [hi, hj, g2.1.top, ↓g2.1.get hiE, ↓g2.1.get hjE, hBi, hBj, hli, hlj, ef, ed]) (by simp [hi, hj, g2.1.top, ↓g2.1.get hiE, ↓g2.1.get hjE, hBi, hBj, hli, hlj, ef, ed]) (by simp [hi, hj, g2.1.top, ↓g2.1.get hiE, ↓g2.1.get hjE, hBi, hBj, hli, hlj, ef, ed]) (by simp [hi, hj, g2.1.top, ↓g2.1.get hiE, ↓g2.1.get hjE, hBi, hBj, hli, hlj, ef, ed]) (by simp [hi, hj, g2.1.top, ↓g2.1.get hiE, ↓g2.1.get hjE, hBi, hBj, hli, hlj, ef, ed]) ?_
            simp [-Int.natCast_add, hi, hj, g2.1.top, ↓g2.1.get hiE, ↓g2.1.get hjE, hBi, hBj, hli, hlj, ef, ed]; try (refine hK _ rfl ?_; clear hK; clear K)
            refine CallK.val hdv ?_; simp [qAV]
            refine Fresh.intro fun b6 hb6 => ?_
            refine hK _ rfl ?_; clear hK; clear K
            refine AW.turn [(0, .osl B 1 0 n), (1, .int .i64 j), (5, .int .i64 (i : Nat)), (6, .rptr [.bool (ofQ f).n1, lim (ofQ f).l1, .bool (ofQ f).n2, lim (ofQ f).l2]), (7, .int .i64 0)] M (Recast.drop hb6 g2.ones) ?_ ?_
            · simp
              exact view_temp hb6
            (repeat refine AW.seq_k fun K hK => ?_); refine AW.rg ?_; simp [-Int.natCast_add]; try (refine hK _ rfl ?_; clear hK; clear K)
            refine AW.no ?_ rfl; refine AW.skip ?_
            try simp [-Int.natCast_add]
            refine hK _ rfl ?_; clear hK; clear K
            have hne : nb bs i ≠ nb bs j := fun h => absurd (nb_inj g2.1.nd (by rw [g2.1.len]; exact hiE) (by rw [g2.1.len]; exact hjE) h) (by omega)
            have hsub := subtract_call (nb bs i) (nb bs j) (mrow Y i) (mrow Y j) f n j hne (g4.row hi).1 (g4.row hi).2 (g4.row hj).1 (g4.row hj).2 (good_div hd0 hq) (by omega) hn
            have hMi := hBi
            have hMr := hBj
            rw [emb_row] at hMi hMr
            rw [← only_two hMi hMr hne] at hsub
            have nBi := g2.1.ne hiE
            have nBr := g2.1.ne hjE
            (repeat refine AW.seq_k fun K hK => ?_)
            refine AW.rdT [] [6] [] [B] [0, 1, 2, 3, 4, 5, 6, 7, 8, 9, 10, 11] mix (by simp [hi, hj, g2.1.top, ↓g2.1.get hiE, ↓g2.1.get hjE, hli, hlj]) (by simp [hi, hj, g2.1.top, ↓g2.1.get hiE, ↓g2.1.get hjE, hli, hlj]) (by simp [hi, hj, g2.1.top, ↓g2.1.get hiE, ↓g2.1.get hjE, hli, hlj]) (by simp [hi, hj, g2.1.top, ↓g2.1.get hiE, ↓g2.1.get hjE, hli, hlj]) (by simp [hi, hj, g2.1.top, ↓g2.1.get hiE, ↓g2.1.get hjE, hli, hlj]) ?_
            simp [-Int.natCast_add, hi, hj, g2.1.top, ↓g2.1.get hiE, ↓g2.1.get hjE, hli, hlj]; try (refine hK _ rfl ?_; clear hK; clear K)
            refine CallK.hand [nb bs i, nb bs j] (by simp [nBi, nBr]) hsub ?_
            intro v g hv hf
            cases hit : iterO (belowRow (mrow Y j) f j) (n - j) (mrow Y i) with
            | none =>
              rw [hit] at hv hbs
              obtain ⟨rfl, k2, k3⟩ := hv
              have hno : iterO (belowStep n j) (t + 1) X = none := by rw [hst, hbs]; rfl
              have hX : belowQ n j X = none := iterO_none' hno (m := n - (j + 1)) (by omega)
              have hones : OnesM (M.back [nb bs i, nb bs j] g) := back_ones g2.ones k2
              generalize M.back [nb bs i, nb bs j] g = M' at *
              simp; refine hK _ rfl ?_; clear hK; clear K; (repeat refine AW.seq_k fun K hK => ?_); refine AW.rg ?_; simp [-Int.natCast_add]; try (refine hK _ rfl ?_; clear hK; clear K)
              refine AW.yes ?_ rfl; (repeat refine AW.seq_k fun K hK => ?_); refine AW.rg ?_; simp [-Int.natCast_add]; try (refine hK _ rfl ?_; clear hK; clear K)
              rw [hX]
              exact AW.ret (ret_mem rfl hones ⟨rfl, hones⟩)
            | some row =>
              rw [hit] at hv hbs
              obtain ⟨rfl, rfl⟩ := hv
              rw [back_two hMr hne]; simp; refine hK _ rfl ?_; clear hK; clear K; (repeat refine AW.seq_k fun K hK => ?_); refine AW.rg ?_; simp [-Int.natCast_add]; try (refine hK _ rfl ?_; clear hK; clear K)
              refine AW.no ?_ rfl; refine AW.skip ?_
              try simp [-Int.natCast_add]
              have hrg := iter_keep (p := fun row => rowGood row ∧ row.length = n) (fun k s t hs hst => rowStep_keep (fun q k x hx => good_less hx) hs hst) (g4.row hi) hit
              exact ⟨Y.set i row, g2.setRow (by rw [g4.2.2]; exact hi) (by rw [hrg.2, (g4.row hi).2]), by rw [hst, hbs]; rfl, g4.set i hrg, hrow _ hbs⟩
      rintro ⟨M, Y⟩ ⟨q1, q2, q3, q4⟩
      (repeat refine AW.seq_k fun K hK => ?_); refine AW.rg ?_; simp [-Int.natCast_add, w1]; try (refine hK _ rfl ?_; clear hK; clear K)
      exact ⟨t + 1, M, ⟨by omega, Y, q1, q2, q3, q4⟩, by omega, rfl, by omega⟩
    · refine AW.exit ?_
      try simp [-Int.natCast_add]
      have : t = n - (j + 1) := by omega
      subst this
      exact ⟨Y, g2, g3⟩
  rintro ⟨M, Y⟩ ⟨g2, g3⟩
  simp only at g2 g3; simp only; rw [g3]; (repeat refine AW.seq_k fun K hK => ?_); refine AW.rg ?_; simp; try (refine hK _ rfl ?_; clear hK; clear K)
  exact AW.ret (ret_mem rfl g2.ones ⟨rfl, g2⟩)
end Go.Av
end
section
namespace Go.Av
open Go.Proofs
theorem swapL_self {α : Type} {l : List (List α)} {j : Nat} (h : j < l.length) : swapL l j j = l := by
  unfold swapL
  rw [mrow_eq h, List.set_getElem_self, List.set_getElem_self]
theorem RefM.swap {M : Mem} {B : Nat} {bs : List Nat} {X : List (List Rat)} (h : RefM M B bs X) {i r : Nat} (hi : i < X.length) (hr : r < X.length) :
    RefM (M.set B ⟨42, 1, ((hdrs bs (emb X)).set i (.osl (nb bs r) 4 0 (mrow (emb X) r).length)).set r (.osl (nb bs i) 4 0 (mrow (emb X) i).length)⟩) B (swapB bs i r) (swapL X i r) := by
  have hiE : i < (emb X).length := by rw [emb_length]; exact hi
  have hrE : r < (emb X).length := by rw [emb_length]; exact hr
  have hb : ∀ b, b ∈ swapB bs i r ↔ b ∈ bs := fun b => swapB_mem (by rw [h.1.len]; exact hiE) (by rw [h.1.len]; exact hrE) b
  refine ⟨by rw [emb_swap]; exact h.1.swap hiE hrE, fun b hb' => ?_⟩
  have := (h.2.set (by simp) _) b hb'
  simpa [hb] using this
def D2 (M : Mem) (b6 b2 : Nat) (d : Rat) : Mem := (M.set b6 ⟨36, 4, [(ofQ d).av]⟩).set b2 ⟨36, 4, [.agg [.bool false, .nil, .bool false, .nil]]⟩
section
variable {M : Mem} {B b6 b2 : Nat} {d : Rat}
theorem D2_set (h1 : B ≠ b6) (h2 : B ≠ b2) (x : Blk) : (D2 M b6 b2 d).set B x = D2 (M.set B x) b6 b2 d := by
  unfold D2; funext k; simp only [set_at]
  by_cases e : k = B
  · subst e; simp [h1, h2]
  · simp [e]
theorem D2_other (h1 : B ≠ b6) (h2 : B ≠ b2) : D2 M b6 b2 d B = M B := by unfold D2; simp [h1, h2]
theorem D2_at (h : b6 ≠ b2) : D2 M b6 b2 d b6 = some ⟨36, 4, [(ofQ d).av]⟩ ∧ D2 M b6 b2 d b2 = some ⟨36, 4, [.agg [.bool false, .nil, .bool false, .nil]]⟩ := by unfold D2; simp [h]
theorem D2_d (h : b6 ≠ b2) (d' : Rat) : (D2 M b6 b2 d).set b6 ⟨36, 4, [(ofQ d').av]⟩ = D2 M b6 b2 d' := by
  unfold D2; funext k; simp only [set_at]
  by_cases e : k = b6
  · subst e; simp [h]
  · simp [e]
theorem D2_ones (h : OnesM M) : OnesM (D2 M b6 b2 d) := by
  unfold D2
  refine OnesM.set (OnesM.set h b6 fun v hv => ?_) b2 fun v hv => ?_
  · simp at hv; subst hv; rfl
  · simp at hv; subst hv; rfl
theorem D2_only {l : List Nat} (h6 : b6 ∉ l) (h2 : b2 ∉ l) : (D2 M b6 b2 d).only l = M.only l := mem_two h6 h2
theorem D2_back {l : List Nat} {g : Mem} (h6 : b6 ∉ l) (h2 : b2 ∉ l) (k6 : g b6 = none) (k2 : g b2 = none) : (D2 M b6 b2 d).back l g = D2 (M.back l g) b6 b2 d := by
  unfold D2; rw [back_set h2 k2, back_set h6 k6]
end
theorem RefM.mat2 {M : Mem} {B : Nat} {bs : List Nat} {X : List (List Rat)} {b6 b2 : Nat} {d : Rat} (h : RefM M B bs X) (h6 : b6 ∉ B :: bs) (h2 : b2 ∉ B :: bs) : MatM (D2 M b6 b2 d) B bs (emb X) := by
  simp only [List.mem_cons, not_or] at h6 h2
  exact (h.1.other h6.1 h6.2 _).other h2.1 h2.2 _
theorem RefM.fresh {M : Mem} {B : Nat} {bs : List Nat} {X : List (List Rat)} (h : RefM M B bs X) {b : Nat} (hb : M b = none) : b ∉ B :: bs := by
  intro hm
  rcases List.mem_cons.1 hm with rfl | hm
  · rw [h.1.top] at hb; cases hb
  · obtain ⟨k, hk, e⟩ := List.mem_iff_getElem.1 hm
    rw [← nb_eq hk] at e
    have := h.1.row k (by rw [← h.1.len]; exact hk)
    rw [e, hb] at this; cases this
theorem emp_back (g : Mem) : Mem.emp.back [] g = g := by
  funext k
  cases hk : g k with
  | some y => exact back_some hk
  | none => rw [back_out hk (by simp)]; rfl
def OffL (b : Nat) (l : List Nat) : Prop := b ∉ l
structure DS7 where
  X : List (List Rat)
  d : Rat
  M : Mem
  bs : List Nat
def InvD7 (n : Nat) (X0 : List (List Rat)) (B b6 b2 j : Nat) (s : DS7) : Prop :=
  detIter n X0 j = some (some (s.X, s.d)) ∧ matGood n n s.X ∧ Good s.d ∧ RefM s.M B s.bs s.X ∧ OffL b6 (B :: s.bs) ∧ OffL b2 (B :: s.bs)
theorem iter_keepB {n j : Nat} {X : List (List Rat)} (hj : j < n) (hG : matGood n n X) : ∀ {Y : List (List Rat)}, belowQ n j X = some Y → matGood n n Y := by
  have key : ∀ (t : Nat) (Y : List (List Rat)), t ≤ n - (j + 1) → iterO (belowStep n j) t X = some Y → matGood n n Y := by
    intro t
    induction t with
    | zero => intro Y _ h; cases h; exact hG
    | succ t ih =>
      intro Y ht h
      rw [iterO_succ] at h
      cases hs : iterO (belowStep n j) t X with
      | none => rw [hs] at h; cases h
      | some Z => rw [hs] at h; exact below_keep (by omega) (ih Z (by omega) hs) h
  intro Y h
  exact key _ Y (Nat.le_refl _) h
set_option maxHeartbeats 1000000
theorem det7_call (m : List (List RR)) (hm : LbM m) : ACall Tryz.prog 24 [matAV m] Mem.emp fun v mm => v = .tup [(detR m).2.av, .int .i64 (detR m).1] ∧ mm = Mem.emp := by
  have hck := check2_call m hm
  have hwid := columns_call m
  by_cases h0 : chk m = 0
  · obtain ⟨h1, h2, h3, h4, h5⟩ := chk_emb hm h0
    rw [h0] at hck
    by_cases hsq : m.length = (mrow m 0).length
    · have hR : detR m = match detQ m.length (unq m) with
        | none => (2, badR)
        | some q => (0, ofQ q) := by unfold detR; rw [if_neg (by simp [h0]), if_neg (by simp [← hsq])] <;> rfl
      have hlen := unq_length m
      have hcl := copied_call m h4 (fun r hr => by
        obtain ⟨i, hi, rfl⟩ := mem_row hr
        have := h3 i (by rw [hlen]; exact hi)
        rw [unq_row, List.length_map] at this
        omega)
      have hw0 : (mrow (unq m) 0).length = m.length := by rw [unq_row, List.length_map, hsq]
      rw [hw0] at h3 h5
      rw [hR]
      clear hR hw0
      rw [← hsq] at hwid
      clear hsq
      generalize unq m = X0 at *
      generalize hn : m.length = n at *
      have hone := whole7_call 1 (by omega) (by omega)
      have hzero := whole7_call 0 (by omega) (by omega)
      rw [intQ_one] at hone
      rw [intQ_zero] at hzero
      have hX0 : matGood n n X0 := ⟨h2, h3, hlen⟩
      rw [h1] at hcl hwid hck ⊢
      clear hm h0 h1 h2 h3 hlen
      have hE : (emb X0).length = n := by rw [emb_length]; exact hX0.2.2
      refine acall_S Tryz.func24 rfl rfl 97 rfl (Nat.le_of_ble_eq_true rfl) ?_
      (repeat refine AW.seq_k fun K hK => ?_); refine AW.rg ?_; simp [argsL]; try (refine hK _ rfl ?_; clear hK; clear K)
      refine Fresh.intro fun b2 hb2 => ?_
      refine hK _ rfl ?_; clear hK; clear K; (repeat refine AW.seq_k fun K hK => ?_); refine AW.rg ?_; simp; try (refine hK _ rfl ?_; clear hK; clear K)
      refine CallK.val hck ?_; simp; refine hK _ rfl ?_; clear hK; clear K; (repeat refine AW.seq_k fun K hK => ?_); refine AW.rg ?_; simp; try (refine hK _ rfl ?_; clear hK; clear K)
      refine AW.no ?_ rfl; refine AW.skip ?_; try simp
      refine hK _ rfl ?_; clear hK; clear K; (repeat refine AW.seq_k fun K hK => ?_); refine AW.rg ?_; simp; try (refine hK _ rfl ?_; clear hK; clear K)
      refine CallK.val hwid ?_; simp [hE]; refine hK _ rfl ?_; clear hK; clear K; refine AW.no ?_ rfl; refine AW.skip ?_; try simp
      refine hK _ rfl ?_; clear hK; clear K; (repeat refine AW.seq_k fun K hK => ?_); refine AW.rg ?_; simp; try (refine hK _ rfl ?_; clear hK; clear K)
      refine CallK.news hcl ?_
      rintro v g ⟨bs0, hcop⟩ hf
      simp; refine hK _ rfl ?_; clear hK; clear K; (repeat refine AW.seq_k fun K hK => ?_); refine AW.rg ?_; simp; try (refine hK _ rfl ?_; clear hK; clear K)
      refine CallK.val hone ?_; simp
      refine Fresh.intro fun b6 hb6 => ?_
      refine hK _ rfl ?_; clear hK; clear K
      have hgb2 : g b2 = none := by
        cases h : g b2 with
        | none => rfl
        | some y => have := (hf b2 (by rw [h]; simp)).1; simp at this
      rw [back_set (by simp) hgb2, emp_back] at hb6 ⊢
      have h62 : b6 ≠ b2 := by rintro rfl; simp at hb6
      have hg6 : g b6 = none := by simpa [h62] using hb6
      rw [show (g.set b2 ⟨36, 4, [.agg [.bool false, .nil, .bool false, .nil]]⟩).set b6 ⟨36, 4, [(ofQ 1).av]⟩ = D2 g b6 b2 1 from set_comm' _ _ _ (Ne.symm h62)]
      clear hf hb6
      rcases hcop with ⟨c1, c2, rfl, rfl⟩ | ⟨B, rfl, c2, c3⟩
      · have hn0 : n = 0 := by rw [← hE, c1]; rfl
        subst hn0
        refine AW.seq_ex (ι := Unit) (fun _ => [(2, .ptr b2 4 0 0), (6, .ptr b6 4 0 0)]) (fun _ => D2 Mem.emp b6 b2 1) (fun _ => True) ?_ ?_
        · (repeat refine AW.seq_k fun K hK => ?_); refine AW.rg ?_; simp; try (refine hK _ rfl ?_; clear hK; clear K)
          refine AW.block (AW.loopS (ι := Nat) (fun i => [(2, .ptr b2 4 0 0), (5, .nil), (6, .ptr b6 4 0 0), (7, .int .i64 0)]) (fun _ => D2 Mem.emp b6 b2 1) (fun _ => True) (fun _ => 0) 0 trivial rfl (by simp) ?_)
          rintro i -
          (repeat refine AW.seq_k fun K hK => ?_); refine AW.rg ?_; simp; try (refine hK _ rfl ?_; clear hK; clear K)
          refine AW.no ?_ rfl
          refine AW.exit ?_
          try simp
        rintro _ -
        (repeat refine AW.seq_k fun K hK => ?_); refine AW.rg ?_; simp [(D2_at (M := Mem.emp) (d := 1) h62).1, (D2_at (M := Mem.emp) (d := 1) h62).2]; try (refine hK _ rfl ?_; clear hK; clear K)
        exact AW.ret (ret_rr (b := b2) (ofQ 1) rfl rfl (by simp; rfl) rfl ⟨rfl, rfl⟩)
      · rw [hE]
        have hR0 : RefM g B bs0 X0 := ⟨c2, c3⟩
        have n6 := hR0.fresh hg6
        have n2 := hR0.fresh hgb2
        refine AW.seq_ex (ι := DS7) (fun s => [(2, .ptr b2 4 0 0), (5, .osl B 1 0 n), (6, .ptr b6 4 0 0)]) (fun s => D2 s.M b6 b2 s.d) (fun s => InvD7 n X0 B b6 b2 n s) ?_ ?_
        · (repeat refine AW.seq_k fun K hK => ?_); refine AW.rg ?_; simp; try (refine hK _ rfl ?_; clear hK; clear K)
          refine AW.block (AW.loopS (ι := Nat × DS7) (fun z => [(2, .ptr b2 4 0 0), (5, .osl B 1 0 n), (6, .ptr b6 4 0 0), (7, .int .i64 (z.1 : Nat))]) (fun z => D2 z.2.M b6 b2 z.2.d) (fun z => z.1 ≤ n ∧ InvD7 n X0 B b6 b2 z.1 z.2) (fun z => n - z.1) (0, ⟨X0, 1, g, bs0⟩) ⟨by simp, rfl, hX0, good_one, hR0, n6, n2⟩ rfl (by simp) ?_)
          rintro ⟨j, X, d, M, bs⟩ ⟨i0, i1, i2, i3, i4, i5, i6⟩
          simp only at i0 i1 i2 i3 i4 i5 i6; simp only
          clear hR0 n6 n2 hgb2 hg6 c2 c3
          (repeat refine AW.seq_k fun K hK => ?_); refine AW.rg ?_; simp; try (refine hK _ rfl ?_; clear hK; clear K)
          (repeat refine AW.seq ?_)
          refine AW.cs (fun hj => ?_) (fun hj => ?_) rfl <;> (try simp at hj)
          · refine AW.skip ?_; try simp
            refine hK _ rfl ?_; clear hK; clear K
            have w1 : IntKind.i64.wrap ((j + 1 : Nat) : Int) = ((j + 1 : Nat) : Int) := wi (by omega)
            refine AW.seq_ex (ι := DS7) (fun s => [(2, .ptr b2 4 0 0), (5, .osl B 1 0 n), (6, .ptr b6 4 0 0), (7, .int .i64 (j : Nat))]) (fun s => D2 s.M b6 b2 s.d) (fun s => InvD7 n X0 B b6 b2 (j + 1) s) ?_ ?_
            · (repeat refine AW.seq ?_); refine AW.block ?_
              have hXn : X.length = n := i2.2.2
              have hp := pivot7_call (emb X) (lb_emb X) n j j (dim_emb i2.2.1) hj (by rw [emb_length]; omega) (by omega) (by omega)
              rw [pivR_emb i2.1 i2.2.1 hj] at hp
              have hvw := (i4.mat2 (d := d) i5 i6).view
              rw [emb_length, hXn] at hvw
              have hnx := detIter_succ i1
              (repeat refine AW.seq_k fun K hK => ?_); refine AW.rg ?_; simp; try (refine hK _ rfl ?_; clear hK; clear K)
              refine CallK.borrow [matAV (emb X), .int .i64 j, .int .i64 j] ⟨hvw, .same _, .same _, trivial⟩ hp ?_
              rintro _ rfl
              refine ⟨rfl, ?_⟩
              simp; refine hK _ rfl ?_; clear hK; clear K
              cases hpq : pivQ X j j with
              | none =>
                have hnx : detIter n X0 (j + 1) = some none := by rw [hnx]; unfold detCol; simp only [hpq]
                rw [detQ_zero hnx (by omega)]
                unfold pivI
                (repeat refine AW.seq_k fun K hK => ?_); refine AW.rg ?_; simp; try (refine hK _ rfl ?_; clear hK; clear K)
                refine AW.yes ?_ rfl; (repeat refine AW.seq_k fun K hK => ?_); refine AW.rg ?_; simp; try (refine hK _ rfl ?_; clear hK; clear K)
                refine CallK.val hzero ?_; simp [(D2_at (M := M) (d := d) h62).2]; refine hK _ rfl ?_; clear hK; clear K
                exact AW.ret (ret_rr (b := b2) (ofQ 0) rfl rfl (by simp) rfl ⟨rfl, rfl⟩)
              | some i =>
                obtain ⟨p1, p2, p3⟩ := pivQ_some hpq
                rw [hXn] at p1
                have hnx : detIter n X0 (j + 1) = (detD (decide (i ≠ j)) d (qel (swapL X i j) j j)).bind fun d => (belowQ n j (swapL X i j)).map fun M => some (M, d) := by rw [hnx]; unfold detCol; simp only [hpq]
                have hG1 := i2.swap p1 hj
                have hdq : qel (swapL X i j) j j ≠ 0 := by
                  unfold qel; rw [mrow_swap (by omega) (by omega), if_pos rfl]; exact p3
                unfold pivI
                (repeat refine AW.seq_k fun K hK => ?_); refine AW.rg ?_; simp; try (refine hK _ rfl ?_; clear hK; clear K)
                refine AW.no ?_ (by simp)
                refine AW.skip ?_; try simp
                refine hK _ rfl ?_; clear hK; clear K
                refine AW.seq_ex (ι := Mem × List Nat × Rat) (fun _ => [(2, .ptr b2 4 0 0), (5, .osl B 1 0 n), (6, .ptr b6 4 0 0), (7, .int .i64 (j : Nat))]) (fun z => D2 z.1 b6 b2 z.2.2) (fun z => RefM z.1 B z.2.1 (swapL X i j) ∧ Good z.2.2 ∧ (∀ x, detD (decide (i ≠ j)) d x = mulQ z.2.2 x) ∧ OffL b6 (B :: z.2.1) ∧ OffL b2 (B :: z.2.1)) ?_ ?_
                · by_cases hij : i = j
                  · subst hij; (repeat refine AW.seq_k fun K hK => ?_); refine AW.rg ?_; simp; try (refine hK _ rfl ?_; clear hK; clear K)
                    refine AW.no ?_ (by simp)
                    refine AW.skip ?_; try simp
                    refine ⟨M, bs, d, ⟨by rw [swapL_self (by omega)]; exact i4, i3, fun x => by unfold detD; simp, i5, i6⟩, by simp⟩
                  · have hB6 : B ≠ b6 := fun e => i5 (show b6 ∈ B :: bs by simp [e])
                    have hB2 : B ≠ b2 := fun e => i6 (show b2 ∈ B :: bs by simp [e])
                    have hiE : i < (emb X).length := by rw [emb_length]; omega
                    have hjE : j < (emb X).length := by rw [emb_length]; omega
                    have hhl := hdrs_length i4.1.len
                    rw [emb_length, hXn] at hhl
                    have hlr : ∀ k, k < n → (mrow (emb X) k).length = n := fun k hk => by rw [emb_row, List.length_map]; exact (i2.row hk).2
                    have gi := i4.1.get hiE
                    have gj := i4.1.get hjE
                    have hsw := i4.swap (i := i) (r := j) (by omega) (by omega)
                    rw [hlr i p1] at gi hsw
                    rw [hlr j hj] at gj hsw
                    have hDB : ∀ M' : Mem, ∀ d, D2 M' b6 b2 d B = M' B := fun M' d => D2_other hB6 hB2
                    (repeat refine AW.seq_k fun K hK => ?_); refine AW.rg ?_; simp [hij]; try (refine hK _ rfl ?_; clear hK; clear K)
                    refine AW.yes ?_ rfl; (repeat refine AW.seq_k fun K hK => ?_); refine AW.rg ?_; simp [p1, hDB, i4.1.top, ↓gi]; try (refine hK _ rfl ?_; clear hK; clear K)
                    (repeat refine AW.seq_k fun K hK => ?_); refine AW.rg ?_; simp [p1, hj, hDB, i4.1.top, ↓gj, hhl]; try (refine hK _ rfl ?_; clear hK; clear K)
                    (repeat refine AW.seq_k fun K hK => ?_); refine AW.rg ?_; simp [hj, hDB, hhl, p1]; try (refine hK _ rfl ?_; clear hK; clear K)
                    rw [D2_set hB6 hB2]
                    generalize M.set B ⟨42, 1, ((hdrs bs (emb X)).set i (.osl (nb bs j) 4 0 n)).set j (.osl (nb bs i) 4 0 n)⟩ = M1 at *
                    obtain ⟨n1, n2⟩ := good_neg i3
                    have hsub := sub2_call 0 d good_zero i3
                    rw [n1] at hsub
                    simp only [resQ] at hsub
                    have hmem : ∀ b, b ∈ B :: swapB bs i j ↔ b ∈ B :: bs := fun b => by
                      simp only [List.mem_cons, swapB_mem (show i < bs.length by rw [i4.1.len]; exact hiE) (show j < bs.length by rw [i4.1.len]; exact hjE)]
                    have hdd : ∀ x, detD (decide (i ≠ j)) d x = mulQ (-d) x := fun x => by
                      unfold detD; rw [if_pos (by simp [hij]), n1]; rfl
                    generalize -d = nd at *
                    obtain ⟨t1, t2⟩ := D2_at (M := M1) (d := d) h62
                    (repeat refine AW.seq_k fun K hK => ?_)
                    refine AW.rdT [] [] [] [b6] [1,0,2,3,4,5,6,7,8] mix (by simp [t1]) (by simp [t1]) (by simp [t1]) (by simp [t1]) (by simp [t1]) ?_
                    simp [t1]; try (refine hK _ rfl ?_; clear hK; clear K)
                    refine CallK.val hzero ?_; simp; refine CallK.val hsub ?_; simp [qAV]
                    refine Fresh.intro fun b10 hb10 => ?_
                    refine hK _ rfl ?_; clear hK; clear K
                    refine AW.turn [(2, .ptr b2 4 0 0), (5, .osl B 1 0 n), (6, .ptr b6 4 0 0), (7, .int .i64 (j : Nat)), (10, .rptr [.bool (ofQ nd).n1, lim (ofQ nd).l1, .bool (ofQ nd).n2, lim (ofQ nd).l2]), (11, .int .i64 0)] (D2 M1 b6 b2 d) (Recast.drop hb10 (D2_ones hsw.ones)) ?_ ?_
                    · simp
                      exact view_temp hb10
                    (repeat refine AW.seq_k fun K hK => ?_); refine AW.rg ?_; simp; try (refine hK _ rfl ?_; clear hK; clear K)
                    refine AW.no ?_ rfl; refine AW.skip ?_; try simp
                    refine hK _ rfl ?_; clear hK; clear K; (repeat refine AW.seq_k fun K hK => ?_); refine AW.rg ?_; simp [t1]; try (refine hK _ rfl ?_; clear hK; clear K)
                    refine ⟨M1, swapB bs i j, nd, ⟨hsw, n2, by simpa using hdd, fun h => i5 ((hmem _).1 h), fun h => i6 ((hmem _).1 h)⟩, ?_⟩
                    exact D2_d h62 nd
                rintro ⟨M1, bs1, d1⟩ ⟨k1, k2, k3, k4, k5⟩
                simp only at k1 k2 k3 k4 k5; simp only
                rw [k3] at hnx
                generalize swapL X i j = X1 at *
                have hX1 : X1.length = n := hG1.2.2
                have hB6 : B ≠ b6 := fun e => k4 (show b6 ∈ B :: bs1 by simp [e])
                have hB2 : B ≠ b2 := fun e => k5 (show b2 ∈ B :: bs1 by simp [e])
                have hjE : j < (emb X1).length := by rw [emb_length]; omega
                have hlj : (mrow (emb X1) j).length = n := by rw [emb_row, List.length_map]; exact (hG1.row hj).2
                have hjl : j < (mrow X1 j).length := by rw [(hG1.row hj).2]; exact hj
                have ej : rr (mrow (emb X1) j) j = ofQ (qel X1 j j) := by rw [emb_row, rr_map hjl]; rfl
                have gj := k1.1.get hjE
                rw [hlj] at gj
                have hrj := k1.1.row j hjE
                have nj6 : nb bs1 j ≠ b6 := fun e => k4 (show b6 ∈ B :: bs1 from e ▸ List.mem_cons_of_mem _ (nb_mem (by rw [k1.1.len]; exact hjE)))
                have nj2 : nb bs1 j ≠ b2 := fun e => k5 (show b2 ∈ B :: bs1 from e ▸ List.mem_cons_of_mem _ (nb_mem (by rw [k1.1.len]; exact hjE)))
                have hDB : D2 M1 b6 b2 d1 B = M1 B := D2_other hB6 hB2
                have hDj : D2 M1 b6 b2 d1 (nb bs1 j) = M1 (nb bs1 j) := D2_other nj6 nj2
                have hgj : Good (qel X1 j j) := hG1.1.at hjl
                have hmul := mul2_call d1 (qel X1 j j) k2 hgj
                obtain ⟨t1, t2⟩ := D2_at (M := M1) (d := d1) h62
                cases hq : mulQ d1 (qel X1 j j) with
                | none =>
                  rw [hq] at hmul hnx
                  rw [detQ_none (show detIter n X0 (j + 1) = none from hnx) (by omega)]
                  simp only [resQ] at hmul
                  (repeat refine AW.seq_k fun K hK => ?_)
                  refine AW.rdT [] [] [] [b6, B, nb bs1 j] [0, 1, 2, 3, 4, 5, 6, 7, 8, 9, 10, 11, 12, 13, 14] mix (by simp [hj, t1, hDB, hDj, k1.1.top, ↓gj, hrj, hlj, ej]) (by simp [hj, t1, hDB, hDj, k1.1.top, ↓gj, hrj, hlj, ej]) (by simp [hj, t1, hDB, hDj, k1.1.top, ↓gj, hrj, hlj, ej]) (by simp [hj, t1, hDB, hDj, k1.1.top, ↓gj, hrj, hlj, ej]) (by simp [hj, t1, hDB, hDj, k1.1.top, ↓gj, hrj, hlj, ej]) ?_
                  simp [hj, t1, hDB, hDj, k1.1.top, ↓gj, hrj, hlj, ej]; try (refine hK _ rfl ?_; clear hK; clear K)
                  refine CallK.val hmul ?_; simp [zeroRat]
                  refine Fresh.intro fun b12 hb12 => ?_
                  refine hK _ rfl ?_; clear hK; clear K
                  refine AW.turn [(2, .ptr b2 4 0 0), (13, .int .i64 2)] (D2 M1 b6 b2 d1) (Recast.drop hb12 (D2_ones k1.ones)) (by simp) ?_
                  (repeat refine AW.seq_k fun K hK => ?_); refine AW.rg ?_; simp; try (refine hK _ rfl ?_; clear hK; clear K)
                  refine AW.yes ?_ rfl; (repeat refine AW.seq_k fun K hK => ?_); refine AW.rg ?_; simp [t2]; try (refine hK _ rfl ?_; clear hK; clear K)
                  exact AW.ret (ret_rat (b := b2) (.bool false) (lim []) (.bool false) (lim []) rfl rfl (by simp) rfl ⟨.same _, .nilsl 1, .same _, .nilsl 1, trivial⟩ ⟨rfl, rfl⟩)
                | some d2 =>
                  rw [hq] at hmul hnx
                  replace hnx : detIter n X0 (j + 1) = (belowQ n j X1).map fun M => some (M, d2) := hnx
                  simp only [resQ] at hmul
                  (repeat refine AW.seq_k fun K hK => ?_)
                  refine AW.rdT [] [] [] [b6, B, nb bs1 j] [0, 1, 2, 3, 4, 5, 6, 7, 8, 9, 10, 11, 12, 13, 14] mix (by simp [hj, t1, hDB, hDj, k1.1.top, ↓gj, hrj, hlj, ej]) (by simp [hj, t1, hDB, hDj, k1.1.top, ↓gj, hrj, hlj, ej]) (by simp [hj, t1, hDB, hDj, k1.1.top, ↓gj, hrj, hlj, ej]) (by simp [hj, t1, hDB, hDj, k1.1.top, ↓gj, hrj, hlj, ej]) (by simp [hj, t1, hDB, hDj, k1.1.top, ↓gj, hrj, hlj, ej]) ?_
                  simp [hj, t1, hDB, hDj, k1.1.top, ↓gj, hrj, hlj, ej]; try (refine hK _ rfl ?_; clear hK; clear K)
                  refine CallK.val hmul ?_; simp [qAV]
                  refine Fresh.intro fun b12 hb12 => ?_
                  refine hK _ rfl ?_; clear hK; clear K
                  refine AW.turn [(2, .ptr b2 4 0 0), (5, .osl B 1 0 n), (6, .ptr b6 4 0 0), (7, .int .i64 (j : Nat)), (12, .rptr [.bool (ofQ d2).n1, lim (ofQ d2).l1, .bool (ofQ d2).n2, lim (ofQ d2).l2]), (13, .int .i64 0)] (D2 M1 b6 b2 d1) (Recast.drop hb12 (D2_ones k1.ones)) ?_ ?_
                  · simp
                    exact view_temp hb12
                  (repeat refine AW.seq_k fun K hK => ?_); refine AW.rg ?_; simp; try (refine hK _ rfl ?_; clear hK; clear K)
                  refine AW.no ?_ rfl; refine AW.skip ?_; try simp
                  refine hK _ rfl ?_; clear hK; clear K; (repeat refine AW.seq_k fun K hK => ?_); refine AW.rg ?_; simp [t1]; try (refine hK _ rfl ?_; clear hK; clear K)
                  rw [show (D2 M1 b6 b2 d1).set b6 ⟨36, 4, [.agg [.bool (ofQ d2).n1, lim (ofQ d2).l1, .bool (ofQ d2).n2, lim (ofQ d2).l2]]⟩ = D2 M1 b6 b2 d2 from D2_d h62 d2]
                  have hbl := below_call _ B bs1 X1 n j ⟨k1.1.only (l := B :: bs1) fun b hb => by simpa using hb, onlyM_only M1 (B :: bs1)⟩ hG1 hj hdq h4
                  rw [← D2_only (d := d2) k4 k5] at hbl
                  (repeat refine AW.seq_k fun K hK => ?_); refine AW.rg ?_; simp; try (refine hK _ rfl ?_; clear hK; clear K)
                  refine CallK.hand (B :: bs1) (by simp) hbl ?_
                  intro v g hv hf
                  obtain ⟨u1, u2⟩ := D2_at (M := M1) (d := d2) h62
                  have hg6 : g b6 = none := by
                    cases h : g b6 with
                    | none => rfl
                    | some y =>
                      rcases hf b6 (by rw [h]; simp) with h' | ⟨h', _⟩
                      · exact absurd h' k4
                      · rw [u1] at h'; cases h'
                  have hg2 : g b2 = none := by
                    cases h : g b2 with
                    | none => rfl
                    | some y =>
                      rcases hf b2 (by rw [h]; simp) with h' | ⟨h', _⟩
                      · exact absurd h' k5
                      · rw [u2] at h'; cases h'
                  rw [D2_back k4 k5 hg6 hg2]
                  cases hb : belowQ n j X1 with
                  | none =>
                    rw [hb] at hv hnx
                    obtain ⟨rfl, _⟩ := hv
                    have hno := detQ_none (show detIter n X0 (j + 1) = none from hnx) (by omega)
                    simp; refine hK _ rfl ?_; clear hK; clear K; (repeat refine AW.seq_k fun K hK => ?_); refine AW.rg ?_; simp; try (refine hK _ rfl ?_; clear hK; clear K)
                    refine AW.yes ?_ rfl; rw [hno]; (repeat refine AW.seq_k fun K hK => ?_); refine AW.rg ?_; simp [(D2_at (M := M1.back (B :: bs1) g) (d := d2) h62).2]; try (refine hK _ rfl ?_; clear hK; clear K)
                    exact AW.ret (ret_rat (b := b2) (.bool false) (lim []) (.bool false) (lim []) rfl rfl (by simp) rfl ⟨.same _, .nilsl 1, .same _, .nilsl 1, trivial⟩ ⟨rfl, rfl⟩)
                  | some Y =>
                    rw [hb] at hv hnx
                    obtain ⟨rfl, hv⟩ := hv
                    simp; refine hK _ rfl ?_; clear hK; clear K; (repeat refine AW.seq_k fun K hK => ?_); refine AW.rg ?_; simp; try (refine hK _ rfl ?_; clear hK; clear K)
                    refine AW.no ?_ rfl; refine AW.skip ?_; try simp
                    have hYk : matGood n n Y := iter_keepB hj hG1 hb
                    exact ⟨⟨Y, d2, g, bs1⟩, ⟨hnx, hYk, good_mul hq, hv, k4, k5⟩, by rw [back_self k1.2]⟩
            rintro ⟨X, d, M, bs⟩ hs
            (repeat refine AW.seq_k fun K hK => ?_); refine AW.rg ?_; simp [-Int.natCast_add, w1]; try (refine hK _ rfl ?_; clear hK; clear K)
            exact ⟨j + 1, ⟨X, d, M, bs⟩, ⟨hj, hs⟩, by omega, by simp⟩
          · refine AW.exit ?_
            try simp
            have : j = n := by omega
            subst this
            exact ⟨⟨X, d, M, bs⟩, ⟨i1, i2, i3, i4, i5, i6⟩, by simp⟩
        rintro ⟨X, d, M, bs⟩ ⟨i1, i2, i3, i4, i5, i6⟩
        simp only at i1 i2 i3 i4 i5 i6; simp only; rw [detQ_some i1]; (repeat refine AW.seq_k fun K hK => ?_); refine AW.rg ?_; simp [(D2_at (M := M) (d := d) h62).1, (D2_at (M := M) (d := d) h62).2]; try (refine hK _ rfl ?_; clear hK; clear K)
        exact AW.ret (ret_rr (b := b2) (ofQ d) rfl rfl (by simp; rfl) rfl ⟨rfl, rfl⟩)
    · have hR : detR m = (1, badR) := by unfold detR; rw [if_neg (by simp [h0]), if_pos hsq]
      rw [hR]
      refine acall_S Tryz.func24 rfl rfl 97 rfl (Nat.le_of_ble_eq_true rfl) ?_
      (repeat refine AW.seq_k fun K hK => ?_); refine AW.rg ?_; simp [argsL]; try (refine hK _ rfl ?_; clear hK; clear K)
      refine Fresh.intro fun b2 hb2 => ?_
      refine hK _ rfl ?_; clear hK; clear K; (repeat refine AW.seq_k fun K hK => ?_); refine AW.rg ?_; simp; try (refine hK _ rfl ?_; clear hK; clear K)
      refine CallK.val hck ?_; simp; refine hK _ rfl ?_; clear hK; clear K; (repeat refine AW.seq_k fun K hK => ?_); refine AW.rg ?_; simp; try (refine hK _ rfl ?_; clear hK; clear K)
      refine AW.no ?_ rfl; refine AW.skip ?_; try simp
      refine hK _ rfl ?_; clear hK; clear K; (repeat refine AW.seq_k fun K hK => ?_); refine AW.rg ?_; simp; try (refine hK _ rfl ?_; clear hK; clear K)
      refine CallK.val hwid ?_; simp; refine hK _ rfl ?_; clear hK; clear K
      refine AW.yes ?_ (by simp [hsq])
      (repeat refine AW.seq_k fun K hK => ?_); refine AW.rg ?_; simp; try (refine hK _ rfl ?_; clear hK; clear K)
      exact AW.ret (ret_rat (b := b2) (.bool false) (lim []) (.bool false) (lim []) rfl rfl (by simp) rfl ⟨.same _, .nilsl 1, .same _, .nilsl 1, trivial⟩ ⟨rfl, rfl⟩)
  · have hR : detR m = (chk m, badR) := by unfold detR; rw [if_pos h0]
    rw [hR]
    generalize chk m = e at *
    refine acall_S Tryz.func24 rfl rfl 97 rfl (Nat.le_of_ble_eq_true rfl) ?_
    (repeat refine AW.seq_k fun K hK => ?_); refine AW.rg ?_; simp [argsL]; try (refine hK _ rfl ?_; clear hK; clear K)
    refine Fresh.intro fun b2 hb2 => ?_
    refine hK _ rfl ?_; clear hK; clear K; (repeat refine AW.seq_k fun K hK => ?_); refine AW.rg ?_; simp; try (refine hK _ rfl ?_; clear hK; clear K)
    refine CallK.val hck ?_; simp; refine hK _ rfl ?_; clear hK; clear K; (repeat refine AW.seq_k fun K hK => ?_); refine AW.rg ?_; simp [h0]; try (refine hK _ rfl ?_; clear hK; clear K)
    refine AW.yes ?_ rfl; (repeat refine AW.seq_k fun K hK => ?_); refine AW.rg ?_; simp; try (refine hK _ rfl ?_; clear hK; clear K)
    exact AW.ret (ret_rat (b := b2) (.bool false) (lim []) (.bool false) (lim []) rfl rfl (by simp) rfl ⟨.same _, .nilsl 1, .same _, .nilsl 1, trivial⟩ ⟨rfl, rfl⟩)
end Go.Av
end
section
namespace Go.Av
open Go.Proofs
structure SolS where
  M : Mem
  bs : List Nat
def InvSo (B : Nat) (X : List (List Rat)) (b : List RR) (i : Nat) (s : SolS) : Prop :=
  RefM s.M B s.bs (wideP X (b.map RR.q) i) ∧ ∀ k, k < i → (rr b k).ok = true
def solOut (Z : Int × Bool × List Rat) : AV := .tup [rowAV (Z.2.2.map ofQ), .bool Z.2.1, .int .i64 Z.1]
set_option maxHeartbeats 1000000
end Go.Av
end
section
namespace Go.Av
open Go.Proofs
theorem qat_rep (w l : Nat) : qat (List.replicate w (0 : Rat)) l = 0 := by
  unfold qat
  by_cases e : l < w
  · rw [List.getD_eq_getElem?_getD, List.getElem?_replicate, if_pos e]; rfl
  · rw [List.getD_eq_getElem?_getD, List.getElem?_replicate, if_neg e]; rfl
end Go.Av
end
section
namespace Go.Av
open Go.Proofs
/-- What cross leaves: a vector, or the error. -/
def crossOut (M : Mem) (n : Nat) (Z : Option (List Rat)) (v : AV) (M' : Mem) : Prop :=
  match Z with
  | some q => ∃ bv, v = .tup [.osl bv 4 0 n, .int .i64 0] ∧ M bv = none ∧ M' = M.set bv ⟨36, 4, rrs (q.map ofQ)⟩
  | none => (∃ x, v = .tup [x, .int .i64 2])
set_option maxHeartbeats 1000000
end Go.Av
end
section
namespace Go.Av
open Go.Proofs
/-- Forms by columns, and as a list with their numbers. -/
def FA (n : Nat) (fs : List (Option (List Rat))) (fm : List (List Rat)) (at_ : List Nat) : Prop :=
  fs.length = n ∧ at_.length = n ∧ fm.length ≤ n ∧ ∀ i, i < n → match fs.getD i none with
    | none => at_.getD i 0 = 0
    | some f => 0 < at_.getD i 0 ∧ at_.getD i 0 - 1 < fm.length ∧ mrow fm (at_.getD i 0 - 1) = f
def E2 (bv b11 : Nat) (v : List Rat) (s : Rat) : Mem := (Mem.emp.set bv ⟨36, 4, rrs (v.map ofQ)⟩).set b11 ⟨36, 4, [(ofQ s).av]⟩
section
variable {bv b11 : Nat} {v : List Rat} {s : Rat}
end
theorem dot_good {form v : List Rat} {i : Nat} : ∀ {u : Nat} {q : Rat}, iterO (dotStep form v i) u 0 = some q → Good q
  | 0, q, h => by cases h; exact good_zero
  | u + 1, q, h => by
    rw [iterO_succ] at h
    cases hs : iterO (dotStep form v i) u 0 with
    | none => rw [hs] at h; cases h
    | some s =>
      rw [hs] at h
      replace h : (mulQ (qat form (i + 1 + u)) (qat v (i + 1 + u))).bind (addQ s) = some q := h
      cases hm : mulQ (qat form (i + 1 + u)) (qat v (i + 1 + u)) with
      | none => rw [hm] at h; cases h
      | some m => rw [hm] at h; exact good_add h
def ext2Out (bv n : Nat) (Z : Option (List Rat)) (r : AV) (M : Mem) : Prop :=
  match Z with
  | some q => r = .tup [.osl bv 4 0 n, .int .i64 0] ∧ M = Mem.emp.set bv ⟨36, 4, rrs (q.map ofQ)⟩ ∧ q.length = n ∧ rowGood q
  | none => r = .tup [.nil, .int .i64 2]
set_option maxHeartbeats 1000000
end Go.Av
end
section
namespace Go.Av
open Go.Proofs
def split2Out (B : Nat) (bs : List Nat) (n j : Nat) (l : List (List Rat)) (v : AV) (M' : Mem) : Prop :=
  match splitQ n j l with
  | some z => ∃ bv M1, v = .tup [.osl bv 4 0 n, .int .i64 0] ∧ M' = M1.set bv ⟨36, 4, rrs (z.1.map ofQ)⟩ ∧ RefM M1 B bs z.2 ∧ M1 bv = none ∧ z.1.length = n ∧ rowGood z.1 ∧ matGood n n z.2
  | none => v = .tup [.nil, .int .i64 2]
structure SpS where
  M : Mem
  X : List (List Rat)
set_option maxHeartbeats 1000000
end Go.Av
end
section
namespace Go.Av
open Go.Proofs
theorem lstV_get {M : Mem} {ty : TypeId} {z : Nat} {ov : AV} {ob : List Nat} {l : List AV} (h : LstV M ty z ov ob l) {b : Nat} (hb : b ∈ ob) : M b = some ⟨ty, z, l⟩ := by
  rcases h with ⟨_, h1, _⟩ | ⟨b', h1, _, h3⟩
  · rw [h1] at hb; cases hb
  · rw [h1] at hb; simp at hb; subst hb; exact h3
theorem MatM.congr {M M' : Mem} {B : Nat} {bs : List Nat} {rows : List (List RR)} (h : MatM M B bs rows) (he : ∀ b ∈ B :: bs, M' b = M b) : MatM M' B bs rows :=
  ⟨by rw [he B (by simp)]; exact h.top, h.len, fun i hi => by rw [he _ (List.mem_cons_of_mem _ (nb_mem (by rw [h.len]; exact hi)))]; exact h.row i hi, h.nd, h.nB⟩
structure S7 (M : Mem) (B : Nat) (bs : List Nat) (X : List (List Rat)) (b8 : Nat) (at_ : List Nat) (wv : AV) (wb : List Nat) (wl : List AV) (fv : AV) (fb : List Nat) (fl : List AV) : Prop where
  mat : MatM M B bs (emb X)
  tab : M b8 = some ⟨3, 1, ints at_⟩
  wts : LstV M 36 4 wv wb wl
  fms : LstV M 42 1 fv fb fl
  only : ∀ b, M b ≠ none → b = b8 ∨ b ∈ B :: bs ∨ b ∈ wb ∨ b ∈ fb
  d8 : b8 ∉ B :: bs
  dw : ∀ b ∈ wb, b ≠ b8 ∧ b ∉ B :: bs
  df : ∀ b ∈ fb, b ≠ b8 ∧ b ∉ B :: bs ∧ b ∉ wb
section
variable {M : Mem} {B b8 : Nat} {bs wb fb : List Nat} {X : List (List Rat)} {at_ : List Nat} {wv fv : AV} {wl fl : List AV}
theorem S7.fresh (h : S7 M B bs X b8 at_ wv wb wl fv fb fl) {b : Nat} (hb : M b = none) : b ≠ b8 ∧ b ∉ B :: bs ∧ b ∉ wb ∧ b ∉ fb := by
  refine ⟨(by rintro rfl; rw [h.tab] at hb; cases hb), fun hm => ?_, fun hm => ?_, fun hm => ?_⟩
  · rcases List.mem_cons.1 hm with rfl | hm
    · rw [h.mat.top] at hb; cases hb
    · obtain ⟨k, hk, e⟩ := List.mem_iff_getElem.1 hm
      rw [← nb_eq hk] at e
      have := h.mat.row k (by rw [← h.mat.len]; exact hk)
      rw [e, hb] at this; cases this
  · rw [lstV_get h.wts hm] at hb; cases hb
  · rw [lstV_get h.fms hm] at hb; cases hb
theorem S7.ones (h : S7 M B bs X b8 at_ wv wb wl fv fb fl) (h1 : ∀ v ∈ wl, v.cells.all AV.one = true) (h2 : ∀ v ∈ fl, v.cells.all AV.one = true) : OnesM M := by
  intro b y hy
  rcases h.only b (by rw [hy]; simp) with rfl | hb | hb | hb
  · rw [h.tab] at hy; cases hy; exact ints_one _
  · rcases List.mem_cons.1 hb with rfl | hb
    · rw [h.mat.top] at hy; cases hy; exact hdrs_ones _ _
    · obtain ⟨k, hk, e⟩ := List.mem_iff_getElem.1 hb
      rw [← nb_eq hk] at e
      have := h.mat.row k (by rw [← h.mat.len]; exact hk)
      rw [e, hy] at this; cases this; exact rrs_ok _
  · rw [lstV_get h.wts hb] at hy; cases hy; exact h1
  · rw [lstV_get h.fms hb] at hy; cases hy; exact h2
theorem S7.back (h : S7 M B bs X b8 at_ wv wb wl fv fb fl) {g : Mem} {X' : List (List Rat)} (hg : RefM g B bs X') : S7 (M.back (B :: bs) g) B bs X' b8 at_ wv wb wl fv fb fl := by
  have hout : ∀ b, b ∉ B :: bs → (M.back (B :: bs) g) b = M b := fun b hb => back_out (hg.2.none hb) hb
  refine ⟨hg.1.back _, by rw [hout _ h.d8]; exact h.tab, h.wts.keep fun b hb => hout b (h.dw b hb).2, h.fms.keep fun b hb => hout b (h.df b hb).2.1, fun b hb => ?_, h.d8, h.dw, h.df⟩
  by_cases hm : b ∈ B :: bs
  · exact .inr (.inl hm)
  · rw [hout b hm] at hb; exact h.only b hb
end
theorem mem_none {fs : List (Option (List Rat))} : ∀ {j : Nat}, (∀ i, j ≤ i → fs.getD i none = none) → (fs.drop j).filterMap id = [] := by
  intro j h
  rw [List.filterMap_eq_nil_iff]
  intro o ho
  obtain ⟨k, hk, e⟩ := List.mem_iff_getElem.1 ho
  rw [List.getElem_drop] at e
  have := h (j + k) (by omega)
  rw [List.getD_eq_getElem?_getD, List.getElem?_eq_getElem (by simp at hk; omega)] at this
  rw [← e]; exact this
theorem fs_set {fs : List (Option (List Rat))} {j : Nat} (hj : j < fs.length) (h : ∀ i, j ≤ i → fs.getD i none = none) (f : List Rat) : (fs.set j (some f)).filterMap id = fs.filterMap id ++ [f] := by
  have h1 := mem_none h
  have h2 := mem_none (j := j + 1) (fun i hi => h i (by omega))
  have e1 : fs.filterMap id = (fs.take j).filterMap id := by
    conv => lhs; rw [← List.take_append_drop j fs]
    rw [List.filterMap_append, h1, List.append_nil]
  rw [e1, List.set_eq_take_append_cons_drop, if_pos hj, List.filterMap_append, List.filterMap_cons]; simp [h2]
theorem FA.step {n : Nat} {fs : List (Option (List Rat))} {at_ : List Nat} {j : Nat} (h : FA n fs (fs.filterMap id) at_) (hj : j < n) (hn : ∀ i, j ≤ i → fs.getD i none = none) (f : List Rat) : FA n (fs.set j (some f)) ((fs.set j (some f)).filterMap id) (at_.set j ((fs.filterMap id).length + 1)) := by
  obtain ⟨h1, h2, h3, h4⟩ := h
  refine ⟨by rw [List.length_set]; exact h1, by rw [List.length_set]; exact h2, ?_, fun i hi => ?_⟩
  · exact Nat.le_trans (List.length_filterMap_le _ _) (by rw [List.length_set]; omega)
  · rw [fs_set (by omega) hn]
    have hi4 := h4 i hi
    rw [List.getD_eq_getElem?_getD, List.getD_eq_getElem?_getD, List.getElem?_set, List.getElem?_set]
    by_cases e : j = i
    · subst e
      simp only [if_true, if_pos (show j < fs.length by omega), if_pos (show j < at_.length by omega), Option.getD_some]
      refine ⟨by omega, by simp, ?_⟩
      rw [Nat.add_sub_cancel, mrow_snoc _ _ _ (by omega), if_neg (by omega)]
    · simp only [if_neg e]
      rw [← List.getD_eq_getElem?_getD, ← List.getD_eq_getElem?_getD]
      cases hg : fs.getD i none with
      | none => rw [hg] at hi4; exact hi4
      | some g =>
        rw [hg] at hi4
        obtain ⟨a1, a2, a3⟩ : 0 < at_.getD i 0 ∧ at_.getD i 0 - 1 < (fs.filterMap id).length ∧ mrow (fs.filterMap id) (at_.getD i 0 - 1) = g := hi4
        refine ⟨a1, by rw [List.length_append, List.length_singleton]; omega, ?_⟩
        rw [mrow_snoc _ _ _ (by omega), if_pos a2]; exact a3
theorem FA.start (n : Nat) : FA n (List.replicate n none) ((List.replicate n none).filterMap id) (List.replicate n 0) := by
  have hg : ∀ i, (List.replicate n (none : Option (List Rat))).getD i none = none := fun i => by
    rw [List.getD_eq_getElem?_getD, List.getElem?_replicate]; split <;> rfl
  refine ⟨by simp, by simp, Nat.le_trans (List.length_filterMap_le _ _) (by simp), fun i hi => ?_⟩
  rw [hg i]
  show (List.replicate n 0).getD i 0 = 0
  rw [List.getD_eq_getElem?_getD, List.getElem?_replicate, if_pos hi]; rfl
end Go.Av
end
section
namespace Go.Av
open Go.Proofs
structure Q7 where
  X : List (List Rat)
  ws : List Rat
  fs : List (Option (List Rat))
  at_ : List Nat
  M : Mem
  wv : AV
  wb : List Nat
  fv : AV
  fb : List Nat
def InvQ7 (n : Nat) (l0 : List (List Rat)) (B : Nat) (bs : List Nat) (b8 j : Nat) (s : Q7) : Prop :=
  sqIter n l0 j = .go s.X s.ws s.fs ∧ matGood n n s.X ∧ formsOk n s.fs ∧ FA n s.fs (s.fs.filterMap id) s.at_ ∧ (∀ i, j ≤ i → s.fs.getD i none = none) ∧ s.ws.length ≤ j ∧ S7 s.M B bs s.X b8 s.at_ s.wv s.wb (rrs (s.ws.map ofQ)) s.fv s.fb ((emb (s.fs.filterMap id)).map rowAV)
theorem crossQ_good {n j k : Nat} {l : List (List Rat)} {v : List Rat} (hG : matGood n n l) (hj : j < n) (hk : k < n) (hne : qel l j k ≠ 0) (h : crossQ n j k l = some v) : rowGood v ∧ v.length = n := by
  unfold crossQ at h
  cases h1 : (addQ (qel l k k) 1).bind fun s => subQ 0 s with
  | none => rw [h1] at h; cases h
  | some s =>
    rw [h1] at h
    replace h : ((addQ (qel l j k) (qel l j k)).bind fun d => (divQ s d).map fun t => ((eQ n j).set k 1).set j t) = some v := h
    cases h2 : addQ (qel l j k) (qel l j k) with
    | none => rw [h2] at h; cases h
    | some d =>
      rw [h2] at h
      replace h : (divQ s d).map (fun t => ((eQ n j).set k 1).set j t) = some v := h
      have hd0 : d ≠ 0 := by
        unfold addQ at h2
        split at h2
        · have h2 := Option.some.inj h2
          rw [← h2]
          exact two_ne hne
        · cases h2
      cases h3 : divQ s d with
      | none => rw [h3] at h; cases h
      | some t =>
        rw [h3] at h
        cases h
        exact ⟨good_set (good_set (rowGood_e n j) k good_one) j (good_div hd0 h3), by simp [eQ_length]⟩
set_option maxHeartbeats 2000000
end Go.Av
end
section
namespace Go.Av
open Go.Proofs
def sqM (X : List (List Rat)) (n : Nat) : List (List Rat) := (X.take n).map fun r => r.take n
open Classical in
/-- The square part, if there is one. -/
noncomputable def squareR (m : List (List RR)) : List (List Rat) × Bool := if chk m ≠ 0 ∨ isLarge m = true then ([], false) else (sqM (unq m) (min m.length (mrow m 0).length), true)
theorem sqM_good {X : List (List Rat)} {n w k : Nat} (h : matGood n w X) (h1 : k ≤ n) (h2 : k ≤ w) : matGood k k (sqM X k) := by
  have hl : (sqM X k).length = k := by simp [sqM, h.2.2]; omega
  refine ⟨fun r hr q hq => ?_, fun i hi => ?_, hl⟩
  · obtain ⟨r0, h0, rfl⟩ := List.mem_map.1 hr
    exact h.1 r0 (List.mem_of_mem_take h0) q (List.mem_of_mem_take hq)
  · rw [hl] at hi
    unfold sqM mrow
    rw [List.getD_eq_getElem?_getD, List.getElem?_map, List.getElem?_take, if_pos hi, List.getElem?_eq_getElem (by rw [h.2.2]; omega)]
    have := h.2.1 i (by rw [h.2.2]; omega)
    rw [mrow_eq (by rw [h.2.2]; omega)] at this
    simp [this]; omega
theorem squareR_good {m : List (List RR)} (hm : LbM m) : ∃ n, n ≤ 10 ∧ matGood n n (squareR m).1 := by
  unfold squareR
  by_cases h : chk m ≠ 0 ∨ isLarge m = true
  · rw [if_pos h]
    exact ⟨0, by omega, fun r hr => (by cases hr), fun i hi => (by cases hi), rfl⟩
  · rw [if_neg h]
    simp only [not_or, Decidable.not_not] at h
    obtain ⟨h0, h1⟩ := h
    obtain ⟨a1, a2, a3, a4, a5⟩ := chk_emb hm h0
    have e0 : (mrow (unq m) 0).length = (mrow m 0).length := by rw [unq_row, List.length_map]
    rw [e0] at a3
    refine ⟨min m.length (mrow m 0).length, ?_, sqM_good ⟨a2, a3, unq_length m⟩ (by omega) (by omega)⟩
    simp only [isLarge, h0, true_and, decide_eq_true_eq] at h1
    omega
theorem sqM_succ {X : List (List Rat)} {n i : Nat} (hi : i < n) (hn : n ≤ X.length) : (sqM X n).take (i + 1) = (sqM X n).take i ++ [(mrow X i).take n] := by
  rw [List.take_add_one]
  congr 1
  unfold sqM
  rw [List.getElem?_map, List.getElem?_take, if_pos hi, List.getElem?_eq_getElem (by omega), mrow_eq (by omega)]
  rfl
theorem slice_row {r : List RR} {k : Nat} (h : k ≤ r.length) (size bytes : Nat) (zero : AV) (fs : List (Nat × Nat × Option Bool)) : sliceAV Tryz.prog ⟨size, bytes, .slice 36, zero, fs⟩ (rowAV r) none (some (.int .i64 (k : Nat))) = some (rowAV (r.take k)) := by
  unfold rowAV
  rw [sliceAV_sl]; simp [cutAV, intOf?, h, rrs, List.map_take]
structure SqL where
  M : Mem
  rv : AV
  rb : List Nat
set_option maxHeartbeats 1000000
theorem square_call (m : List (List RR)) (hm : LbM m) : ACall Tryz.prog 25 [matAV m] Mem.emp fun v mm => v = .tup [matAV (emb (squareR m).1), .bool (squareR m).2] ∧ mm = Mem.emp := by
  have hck := check2_call m hm
  have hla := large_call m hm
  by_cases h0 : chk m = 0
  · cases hL : isLarge m with
    | true =>
      have hR : squareR m = ([], false) := by unfold squareR; rw [if_pos (.inr hL)]
      rw [hR]
      rw [hL] at hla
      rw [h0] at hck
      refine acall_S Tryz.func25 rfl rfl 39 rfl (Nat.le_of_ble_eq_true rfl) ?_
      (repeat refine AW.seq_k fun K hK => ?_); refine AW.rg ?_; simp [argsL]; try (refine hK _ rfl ?_; clear hK; clear K)
      (repeat refine AW.seq_k fun K hK => ?_); refine AW.rg ?_; simp; try (refine hK _ rfl ?_; clear hK; clear K)
      refine CallK.val hck ?_; simp; refine CallK.val hla ?_; simp; refine hK _ rfl ?_; clear hK; clear K; refine AW.yes ?_ rfl; (repeat refine AW.seq_k fun K hK => ?_); refine AW.rg ?_; simp; try (refine hK _ rfl ?_; clear hK; clear K)
      exact AW.ret (ret_views [matAV [], .bool false] rfl ⟨.nilsl 1, .same _, trivial⟩ ⟨rfl, rfl⟩)
    | false =>
      have hR : squareR m = (sqM (unq m) (min m.length (mrow m 0).length), true) := by unfold squareR; rw [if_neg (by simp [h0, hL])]
      rw [hR]
      rw [hL] at hla
      rw [h0] at hck
      obtain ⟨a1, a2, a3, a4, a5⟩ := chk_emb hm h0
      have e0 : (mrow (unq m) 0).length = (mrow m 0).length := by rw [unq_row, List.length_map]
      rw [e0] at a3 a5
      have hXl := unq_length m
      rcases Nat.eq_zero_or_pos m.length with hz | hz
      · have : m = [] := List.eq_nil_of_length_eq_zero hz
        subst this
        refine acall_S Tryz.func25 rfl rfl 39 rfl (Nat.le_of_ble_eq_true rfl) ?_
        (repeat refine AW.seq_k fun K hK => ?_); refine AW.rg ?_; simp [argsL]; try (refine hK _ rfl ?_; clear hK; clear K)
        (repeat refine AW.seq_k fun K hK => ?_); refine AW.rg ?_; simp; try (refine hK _ rfl ?_; clear hK; clear K)
        refine CallK.val hck ?_; simp; refine CallK.val hla ?_; simp; refine hK _ rfl ?_; clear hK; clear K; refine AW.no ?_ rfl; refine AW.skip ?_; try simp
        refine hK _ rfl ?_; clear hK; clear K; (repeat refine AW.seq_k fun K hK => ?_); refine AW.rg ?_; simp; try (refine hK _ rfl ?_; clear hK; clear K)
        refine AW.yes ?_ rfl; (repeat refine AW.seq_k fun K hK => ?_); refine AW.rg ?_; simp; try (refine hK _ rfl ?_; clear hK; clear K)
        exact AW.ret (ret_views [matAV [], .bool true] rfl ⟨.nilsl 1, .same _, trivial⟩ ⟨rfl, rfl⟩)
      · generalize hX : unq m = X at *
        generalize hw : (mrow m 0).length = w at *
        generalize hn : m.length = n at *
        subst a1
        have hEl : (emb X).length = n := by rw [emb_length]; exact hXl
        refine acall_S Tryz.func25 rfl rfl 39 rfl (Nat.le_of_ble_eq_true rfl) ?_
        (repeat refine AW.seq_k fun K hK => ?_); refine AW.rg ?_; simp [argsL]; try (refine hK _ rfl ?_; clear hK; clear K)
        (repeat refine AW.seq_k fun K hK => ?_); refine AW.rg ?_; simp; try (refine hK _ rfl ?_; clear hK; clear K)
        refine CallK.val hck ?_; simp; refine CallK.val hla ?_; simp; refine hK _ rfl ?_; clear hK; clear K; refine AW.no ?_ rfl; refine AW.skip ?_; try simp
        refine hK _ rfl ?_; clear hK; clear K
        have hz' : ¬ (n = 0) := by omega
        (repeat refine AW.seq_k fun K hK => ?_); refine AW.rg ?_; simp [hEl, hz']; try (refine hK _ rfl ?_; clear hK; clear K)
        refine AW.no ?_ rfl; refine AW.skip ?_; try simp
        refine hK _ rfl ?_; clear hK; clear K; (repeat refine AW.seq_k fun K hK => ?_); refine AW.rg ?_; simp [hEl, hz, hw]; try (refine hK _ rfl ?_; clear hK; clear K)
        have hmn : (if w < n then (w : Int) else (n : Int)) = ((min n w : Nat) : Int) := by
          split <;> omega
        rw [hmn]
        have hkn : min n w ≤ n := by omega
        have hkw : min n w ≤ w := by omega
        generalize min n w = k at *
        have hXm : matGood n w X := ⟨a2, a3, hXl⟩
        (repeat refine AW.seq_k fun K hK => ?_); refine AW.rg ?_; simp; try (refine hK _ rfl ?_; clear hK; clear K)
        refine AW.seq_ex (ι := SqL) (fun s => [(5, s.rv)]) (fun s => s.M) (fun s => LstO s.M 42 1 s.rv s.rb ((emb (sqM X k)).map rowAV)) ?_ ?_
        · (repeat refine AW.seq_k fun K hK => ?_); refine AW.rg ?_; simp; try (refine hK _ rfl ?_; clear hK; clear K)
          refine AW.block (AW.loopS (ι := Nat × SqL) (fun z => [(0, matAV (emb X)), (4, .int .i64 (k : Nat)), (5, z.2.rv), (6, .int .i64 (z.1 : Nat))]) (fun z => z.2.M) (fun z => z.1 ≤ k ∧ LstO z.2.M 42 1 z.2.rv z.2.rb ((emb ((sqM X k).take z.1)).map rowAV)) (fun z => k - z.1) (0, ⟨Mem.emp, .nil, []⟩) ⟨by simp, LstO.start _ _⟩ rfl (by simp) ?_)
          rintro ⟨i, M, ov, ob⟩ ⟨g1, g2⟩
          simp only at g1 g2; simp only; (repeat refine AW.seq_k fun K hK => ?_); refine AW.rg ?_; simp; try (refine hK _ rfl ?_; clear hK; clear K)
          (repeat refine AW.seq ?_)
          refine AW.cs (fun hi => ?_) (fun hi => ?_) rfl <;> (try simp at hi)
          · refine AW.skip ?_; try simp
            refine hK _ rfl ?_; clear hK; clear K
            have w1 : IntKind.i64.wrap ((i + 1 : Nat) : Int) = ((i + 1 : Nat) : Int) := wi (by omega)
            have hin : i < n := by omega
            have hli : (mrow (emb X) i).length = w := by rw [emb_row, List.length_map]; exact (hXm.row hin).2
            have hll : ((emb ((sqM X k).take i)).map rowAV).length = i := by rw [List.length_map, emb_length]; simp [sqM, hXl]; omega
            have hcut : ∀ (size bytes : Nat) (zero : AV) (fs : List (Nat × Nat × Option Bool)), sliceAV Tryz.prog ⟨size, bytes, .slice 36, zero, fs⟩ (rowAV (mrow (emb X) i)) none (some (.int .i64 (k : Nat))) = some (rowAV (((mrow X i).map ofQ).take k)) := fun _ _ _ _ => by
              rw [slice_row (by omega), emb_row]
            have hfin : ∀ s : SqL, LstO s.M 42 1 s.rv s.rb ((emb ((sqM X k).take i)).map rowAV ++ [rowAV (((mrow X i).map ofQ).take k)]) → LstO s.M 42 1 s.rv s.rb ((emb ((sqM X k).take (i + 1))).map rowAV) := by
              intro s h2
              rw [sqM_succ hi (by omega), show (emb ((sqM X k).take i ++ [(mrow X i).take k])).map rowAV = (emb ((sqM X k).take i)).map rowAV ++ [rowAV (((mrow X i).take k).map ofQ)] by simp [emb], List.map_take]
              exact h2
            refine AW.seq_ex (ι := SqL) (fun s => [(0, matAV (emb X)), (4, .int .i64 (k : Nat)), (5, s.rv), (6, .int .i64 (i : Nat))]) (fun s => s.M) (fun s => LstO s.M 42 1 s.rv s.rb ((emb ((sqM X k).take (i + 1))).map rowAV)) ?_ ?_
            · (repeat refine AW.seq ?_); refine AW.block ?_
              generalize (emb ((sqM X k).take i)).map rowAV = l at *
              rcases g2.lst with ⟨z1, z2, z3⟩ | ⟨b0, z2, z3, z4⟩
              · subst z1 z2 z3; (repeat refine AW.seq_k fun K hK => ?_)
                refine AW.rgR [36] ?_
                simp [hEl, hin, hli, hcut]; try (refine hK _ rfl ?_; clear hK; clear K)
                exact ⟨by unfold maxLen; omega, Fresh.intro fun b hb => ⟨⟨_, _, [b]⟩, hfin _ (g2.push0 b _), rfl, rfl⟩⟩
              · subst z2 z3; (repeat refine AW.seq_k fun K hK => ?_)
                refine AW.rgR [36] ?_
                simp [hEl, hin, hli, hcut, z4]; try (refine hK _ rfl ?_; clear hK; clear K)
                exact ⟨by omega, by unfold maxLen; omega, Fresh.intro fun b hb => ⟨⟨_, _, [b]⟩, hfin _ (g2.push1 b _), rfl, rfl⟩⟩
            rintro ⟨M, ov, ob⟩ hs
            (repeat refine AW.seq_k fun K hK => ?_); refine AW.rg ?_; simp [-Int.natCast_add, w1]; try (refine hK _ rfl ?_; clear hK; clear K)
            exact ⟨i + 1, ⟨M, ov, ob⟩, ⟨hi, hs⟩, by omega, by simp⟩
          · refine AW.exit ?_
            try simp
            have : i = k := by omega
            subst this
            rw [List.take_of_length_le (by simp [sqM]; omega)] at g2
            exact ⟨⟨M, ov, ob⟩, g2, by simp⟩
        rintro ⟨M, ov, ob⟩ g2
        simp only at g2; simp only; (repeat refine AW.seq_k fun K hK => ?_); refine AW.rg ?_; simp; try (refine hK _ rfl ?_; clear hK; clear K)
        have hv := g2.lst.view (M' := Mem.emp) (fun _ _ => rfl)
        exact AW.ret (ret_views [matAV (emb (sqM X k)), .bool true] rfl ⟨hv, .same _, trivial⟩ ⟨rfl, rfl⟩)
  · have hR : squareR m = ([], false) := by unfold squareR; rw [if_pos (.inl h0)]
    rw [hR]
    refine acall_S Tryz.func25 rfl rfl 39 rfl (Nat.le_of_ble_eq_true rfl) ?_
    (repeat refine AW.seq_k fun K hK => ?_); refine AW.rg ?_; simp [argsL]; try (refine hK _ rfl ?_; clear hK; clear K)
    (repeat refine AW.seq_k fun K hK => ?_); refine AW.rg ?_; simp; try (refine hK _ rfl ?_; clear hK; clear K)
    refine CallK.val hck ?_; simp [h0]; refine hK _ rfl ?_; clear hK; clear K; refine AW.yes ?_ rfl; (repeat refine AW.seq_k fun K hK => ?_); refine AW.rg ?_; simp; try (refine hK _ rfl ?_; clear hK; clear K)
    exact AW.ret (ret_views [matAV [], .bool false] rfl ⟨.nilsl 1, .same _, trivial⟩ ⟨rfl, rfl⟩)
theorem detIter_good {n : Nat} {X : List (List Rat)} : ∀ {j : Nat} {z : List (List Rat) × Rat}, detIter n X j = some (some z) → Good z.2
  | 0, z, h => by cases h; exact good_one
  | j + 1, z, h => by
    cases hs : detIter n X j with
    | none => rw [detIter_none hs 1] at h; cases h
    | some o =>
      cases o with
      | none => rw [detIter_zero hs 1] at h; cases h
      | some y =>
        rw [detIter_succ hs] at h
        unfold detCol at h
        split at h
        · cases h
        · rename_i i hp
          cases hd : detD (decide (i ≠ j)) y.2 (qel (swapL y.1 i j) j j) with
          | none => rw [hd] at h; cases h
          | some d =>
            rw [hd] at h
            replace h : (belowQ n j (swapL y.1 i j)).map (fun M => some (M, d)) = some (some z) := h
            cases hb : belowQ n j (swapL y.1 i j) with
            | none => rw [hb] at h; cases h
            | some M =>
              rw [hb] at h
              cases h
              unfold detD at hd
              cases hq : (if decide (i ≠ j) = true then subQ 0 y.2 else some y.2) with
              | none => rw [hq] at hd; cases hd
              | some d' => rw [hq] at hd; exact good_mul hd
theorem detQ_good {n : Nat} {X : List (List Rat)} {q : Rat} (h : detQ n X = some q) : Good q := by
  unfold detQ at h
  split at h
  · cases h
  · cases h; exact good_zero
  · rename_i z hz; cases h; exact detIter_good hz
end Go.Av
end
section
namespace Go.Av
open Go.Proofs
theorem ext_keep {fs : List (Option (List Rat))} {n j : Nat} : ∀ {t : Nat} {v v' : List Rat}, rowGood v ∧ v.length = n → iterO (extStep fs n j) t v = some v' → rowGood v' ∧ v'.length = n
  | 0, v, v', h, he => by cases he; exact h
  | t + 1, v, v', h, he => by
    rw [iterO_succ] at he
    cases hs : iterO (extStep fs n j) t v with
    | none => rw [hs] at he; cases he
    | some u =>
      rw [hs] at he
      have hu := ext_keep h hs
      replace he : extStep fs n j t u = some v' := he
      unfold extStep at he
      split at he
      · cases he; exact hu
      · rename_i form _
        cases hd : dotQ form u (j - 1 - t) n with
        | none => rw [hd] at he; cases he
        | some s =>
          rw [hd] at he
          replace he : (subQ 0 s).map (u.set (j - 1 - t)) = some v' := he
          rw [(good_neg (dot_good (show iterO (dotStep form u (j - 1 - t)) (n - (j - 1 - t + 1)) 0 = some s from hd))).1] at he
          cases he
          exact ⟨good_set hu.1 _ (good_neg (dot_good (show iterO (dotStep form u (j - 1 - t)) (n - (j - 1 - t + 1)) 0 = some s from hd))).2, by rw [List.length_set]; exact hu.2⟩
theorem split_keep {n j : Nat} {l : List (List Rat)} {z : List Rat × List (List Rat)} (hj : j < n) (hG : matGood n n l) (hd : qel l j j ≠ 0) (h : splitQ n j l = some z) : rowGood z.1 ∧ z.1.length = n ∧ matGood n n z.2 := by
  unfold splitQ at h
  cases hf : formQ n j l with
  | none => rw [hf] at h; cases h
  | some form =>
    rw [hf] at h
    replace h : (iterO (splitStep n j form) (n - (j + 1)) l).map (fun l' => (form, l')) = some z := h
    cases hi : iterO (splitStep n j form) (n - (j + 1)) l with
    | none => rw [hi] at h; cases h
    | some l' =>
      rw [hi] at h
      cases h
      have hk := form_keep hd ⟨rowGood_e n j, eQ_length n j⟩ (show iterO (formStep (mrow l j) (qel l j j) j) (n - (j + 1)) (eQ n j) = some form from hf)
      exact ⟨hk.1, hk.2, (splits_keep (by omega) hG hi).1⟩
/-- What Squares keeps. -/
def sqGood (n j : Nat) : SqO → Prop
  | .err => True
  | .vec v => rowGood v ∧ v.length = n
  | .go X ws fs => matGood n n X ∧ rowGood ws ∧ ws.length ≤ j ∧ formsOk n fs ∧ fs.length = n
theorem sqIter_good {n : Nat} {l : List (List Rat)} (hG : matGood n n l) : ∀ {j : Nat}, j ≤ n → sqGood n j (sqIter n l j)
  | 0, _ => by
    refine ⟨hG, fun q hq => (by cases hq), Nat.le_refl _, fun i f h => ?_, by simp⟩
    rw [List.getD_eq_getElem?_getD, List.getElem?_replicate] at h
    split at h <;> cases h
  | j + 1, hj => by
    have ih := sqIter_good hG (j := j) (by omega)
    cases hs : sqIter n l j with
    | err => rw [sqIter_err hs 1]; trivial
    | vec v => rw [sqIter_vec hs 1]; rw [hs] at ih; exact ih
    | go X ws fs =>
      rw [sqIter_go hs]
      rw [hs] at ih
      obtain ⟨h1, h2, h3, h4, h5⟩ := ih
      have hjj : j < (mrow X j).length := by rw [(h1.row (by omega)).2]; omega
      unfold sqStep
      split
      · rename_i hp
        have hd : qel X j j ≠ 0 := fun h => by rw [h] at hp; revert hp; decide
        cases hq : splitQ n j X with
        | none => trivial
        | some z =>
          obtain ⟨k1, k2, k3⟩ := split_keep (by omega) h1 hd hq
          refine ⟨k3, fun q hq => ?_, by simp; omega, fun i f hf => ?_, by rw [List.length_set]; exact h5⟩
          · rcases List.mem_append.1 hq with hq | hq
            · exact h2 q hq
            · simp at hq; subst hq; exact h1.1.at hjj
          · rw [List.getD_eq_getElem?_getD, List.getElem?_set] at hf
            by_cases e : j = i
            · rw [if_pos e] at hf
              split at hf
              · cases hf; exact ⟨k1, k2⟩
              · cases hf
            · rw [if_neg e, ← List.getD_eq_getElem?_getD] at hf; exact h4 i f hf
      · have hlow : ∀ v, lowQ n j X = some (some v) → rowGood v ∧ v.length = n := by
          intro v hv
          unfold lowQ at hv
          split at hv
          · cases hv; exact ⟨rowGood_e n j, eQ_length n j⟩
          · split at hv
            · cases hv
            · rename_i k hk
              obtain ⟨k1, k2, k3⟩ := besideQ_prop hk
              rw [(h1.row (by omega)).2] at k2
              cases hc : crossQ n j k X with
              | none => rw [hc] at hv; cases hv
              | some w => rw [hc] at hv; cases hv; exact crossQ_good h1 (by omega) k2 k3 hc
        cases hl : lowQ n j X with
        | none => trivial
        | some o =>
          cases o with
          | none => exact ⟨h1, h2, Nat.le_succ_of_le h3, h4, h5⟩
          | some v =>
            simp only
            cases he : extQ fs n j v with
            | none => trivial
            | some v' => exact ext_keep (hlow v hl) he
def syRow (S : List (List Rat)) (i k : Nat) : List Rat := (List.range k).map fun k => qel S (max i k) (min i k)
def syM (S : List (List Rat)) (n i : Nat) : List (List Rat) := (List.range i).map fun i => syRow S i n
structure SyS where
  M : Mem
  rv : AV
  rb : List Nat
set_option maxHeartbeats 1000000
end Go.Av
end
