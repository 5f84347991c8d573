/- A part of the proof. -/
import Derived.Test.YtkcdcfcojmlnnaaGreatP5
set_option linter.all false
set_option exponentiation.threshold 5000
set_option maxRecDepth 10000
section
/- Solve: the reference. -/
namespace Go.Av
open Go.Proofs
theorem redR_emb {W : List (List Rat)} (h : chk (emb W) = 0) : redR (emb W) = match reduceQ W with
    | none => (2, [], [])
    | some z => (0, z.1, z.2) := by
  unfold redR; rw [if_neg (by simp [h]), unq_emb] <;> rfl
set_option maxHeartbeats 1000000
open Classical in
theorem solve7_call (m : List (List RR)) (b : List RR) (hm : LbM m) (hb : ∀ x ∈ b, x.Lb) : ACall Tryz.prog 43 [matAV m, rowAV b] Mem.emp fun v mm => v = solOut (solR m b) ∧ mm = Mem.emp := by
  have hck := check2_call m hm
  have hwid := columns_call m
  by_cases h0 : chk m = 0
  · rw [h0] at hck
    by_cases h1 : b.length = m.length
    · obtain ⟨a1, a2, a3, a4, a5⟩ := chk_emb hm h0
      have hla := unq_length m
      have ea : (mrow (unq m) 0).length = (mrow m 0).length := by rw [unq_row, List.length_map]
      have hcl := copied_call m a4 (fun r hr => by
        obtain ⟨i, hi, rfl⟩ := mem_row hr
        have := a3 i (by rw [hla]; exact hi)
        rw [unq_row, List.length_map] at this
        omega)
      have hR : solR m b = if ¬ okV b then ((1 : Int), false, ([] : List Rat)) else if (mrow m 0).length = 64 then (2, false, []) else
          match reduceQ (wideQ (unq m) (b.map RR.q)) with
          | none => (2, false, [])
          | some z => if (mrow m 0).length ∈ z.2 then (0, false, []) else (0, true, solV z.1 z.2 (mrow m 0).length) := by
        unfold solR; rw [if_neg (by simp [h0]), if_neg (by simp [h1])] <;> rfl
      rw [ea] at a3 a5
      generalize (mrow m 0).length = w at *
      generalize hX : unq m = X at *
      subst a1
      rw [emb_length] at *
      generalize hn : X.length = n at *
      have hG : matGood n w X := ⟨a2, a3, hn⟩
      refine acall_S Tryz.func43 rfl rfl 92 rfl (Nat.le_of_ble_eq_true rfl) ?_
      (repeat refine AW.seq_k fun K hK => ?_)
      refine AW.rg ?_
      simp [argsL]
      try (refine hK _ rfl ?_; clear hK; clear K)
      (repeat refine AW.seq_k fun K hK => ?_)
      refine AW.rg ?_
      simp
      try (refine hK _ rfl ?_; clear hK; clear K)
      refine CallK.val hck ?_
      simp
      refine hK _ rfl ?_
      clear hK
      clear K
      (repeat refine AW.seq_k fun K hK => ?_)
      refine AW.rg ?_
      simp
      try (refine hK _ rfl ?_; clear hK; clear K)
      refine AW.no ?_ rfl
      refine AW.skip ?_
      try simp
      refine hK _ rfl ?_
      clear hK
      clear K
      (repeat refine AW.seq_k fun K hK => ?_)
      refine AW.rg ?_
      simp [emb_length, hn, h1]
      try (refine hK _ rfl ?_; clear hK; clear K)
      refine AW.no ?_ rfl
      refine AW.skip ?_
      try simp
      refine hK _ rfl ?_
      clear hK
      clear K
      (repeat refine AW.seq_k fun K hK => ?_)
      refine AW.rg ?_
      simp
      try (refine hK _ rfl ?_; clear hK; clear K)
      refine CallK.news hcl ?_
      rintro v0 g ⟨bs0, hcop⟩ _
      rw [emp_back]
      simp
      refine hK _ rfl ?_
      clear hK
      clear K
      refine AW.seq_ex (ι := AV × Mem) (fun z => [(0, matAV (emb X)), (8, z.1)]) (fun z => z.2) (fun z => View z.2 Mem.emp z.1 (matAV (emb (wideQ X (b.map RR.q)))) ∧ okV b) ?_ ?_
      · rcases hcop with ⟨c1, c2, rfl, rfl⟩ | ⟨B, rfl, c2, c3⟩
        · have hn0 : n = 0 := by rw [← hn, ← emb_length, c1]; rfl
          have hXe : X = [] := List.eq_nil_of_length_eq_zero (hn.trans hn0)
          have hbe : b = [] := List.eq_nil_of_length_eq_zero (h1.trans hn0)
          subst hXe hbe
          (repeat refine AW.seq_k fun K hK => ?_)
          refine AW.rg ?_
          simp
          try (refine hK _ rfl ?_; clear hK; clear K)
          refine AW.block (AW.loopS (ι := Nat) (fun i => [(0, matAV (emb [])), (1, rowAV []), (8, .nil), (9, .int .i64 0)]) (fun _ => Mem.emp) (fun _ => True) (fun _ => 0) 0 trivial rfl (by simp) ?_)
          rintro i -
          (repeat refine AW.seq_k fun K hK => ?_)
          refine AW.rg ?_
          simp
          try (refine hK _ rfl ?_; clear hK; clear K)
          refine AW.no ?_ rfl
          refine AW.exit ?_
          try simp
          exact ⟨.nil, Mem.emp, ⟨.nilsl 1, fun i hi => (by cases hi)⟩, rfl, rfl⟩
        · rw [emb_length, hn]
          (repeat refine AW.seq_k fun K hK => ?_)
          refine AW.rg ?_
          simp
          try (refine hK _ rfl ?_; clear hK; clear K)
          refine AW.block (AW.loopS (ι := Nat × SolS) (fun z => [(0, matAV (emb X)), (1, rowAV b), (8, .osl B 1 0 n), (9, .int .i64 (z.1 : Nat))]) (fun z => z.2.M) (fun z => z.1 ≤ n ∧ InvSo B X b z.1 z.2) (fun z => n - z.1) (0, ⟨g, bs0⟩) ⟨by simp, ⟨c2, c3⟩, by simp⟩ rfl (by simp) ?_)
          rintro ⟨i, M, bs⟩ ⟨k1, k2, k3⟩
          simp only at k1 k2 k3
          simp only
          (repeat refine AW.seq_k fun K hK => ?_)
          refine AW.rg ?_
          simp [h1]
          try (refine hK _ rfl ?_; clear hK; clear K)
          (repeat refine AW.seq ?_)
          refine AW.cs (fun hi => ?_) (fun hi => ?_) rfl <;> (try simp at hi)
          · refine AW.skip ?_
            try simp
            refine hK _ rfl ?_
            clear hK
            clear K
            have w1 : IntKind.i64.wrap ((i + 1 : Nat) : Int) = ((i + 1 : Nat) : Int) := wi (by omega)
            have hib : i < b.length := by omega
            have hmb : rr b i ∈ b := by rw [rr_eq hib]; exact List.getElem_mem hib
            have hvl := valid2_call (rr b i).n1 (rr b i).l1 (rr b i).n2 (rr b i).l2 (hb _ hmb).1 (hb _ hmb).2
            refine AW.seq_ex (ι := Mem × SolS) (fun _ => [(0, matAV (emb X)), (1, rowAV b), (8, .osl B 1 0 n), (9, .int .i64 (i : Nat))]) (fun z => z.1) (fun z => InvSo B X b (i + 1) z.2 ∧ Recast z.1 z.2.M) ?_ ?_
            · (repeat refine AW.seq ?_)
              refine AW.block ?_
              (repeat refine AW.seq_k fun K hK => ?_)
              refine AW.rg ?_
              simp [hib]
              try (refine hK _ rfl ?_; clear hK; clear K)
              refine CallK.val hvl ?_
              simp
              refine hK _ rfl ?_
              clear hK
              clear K
              cases hv : (rr b i).ok with
              | false =>
                have hv' : okRat (rr b i).n1 (rr b i).l1 (rr b i).n2 (rr b i).l2 = false := hv
                refine AW.yes ?_ (by simp [hv'])
                (repeat refine AW.seq_k fun K hK => ?_)
                refine AW.rg ?_
                simp
                try (refine hK _ rfl ?_; clear hK; clear K)
                have hno : ¬ okV b := fun h => by have := h i hib; rw [hv] at this; cases this
                rw [hR, if_pos hno]
                exact AW.ret (ret_views [rowAV [], .bool false, .int .i64 1] rfl ⟨.nilsl 4, .same _, .same _, trivial⟩ ⟨rfl, rfl⟩)
              | true =>
                have hv' : okRat (rr b i).n1 (rr b i).l1 (rr b i).n2 (rr b i).l2 = true := hv
                refine AW.no ?_ (by simp [hv'])
                refine AW.skip ?_
                try simp
                refine hK _ rfl ?_
                clear hK
                clear K
                have hWl := wideP_length X (b.map RR.q) i
                have hiE : i < (emb (wideP X (b.map RR.q) i)).length := by rw [emb_length, hWl]; omega
                have hrow : mrow (wideP X (b.map RR.q) i) i = mrow X i := by rw [wideP_row X _ i (by omega) i (by omega), if_neg (by omega)]
                have hgi := k2.1.get hiE
                have hri := k2.1.row i hiE
                have hxl : (mrow X i).length = w := (hG.row hi).2
                have hlE : (mrow (emb (wideP X (b.map RR.q) i)) i).length = w := by rw [emb_row, hrow, List.length_map, hxl]
                rw [hlE] at hgi
                rw [emb_row, hrow] at hri
                have hni := k2.1.ne hiE
                have hbi : i < bs.length := by rw [k2.1.len]; exact hiE
                have hxR : ((mrow X i).map ofQ).length = w := by rw [List.length_map, hxl]
                have hq : rr b i = ofQ (qat (b.map RR.q) i) := by rw [rr_q hib]; exact (ok_good (hb _ hmb) hv).2
                have hhl : (hdrs bs (emb (wideP X (b.map RR.q) i))).length = n := by rw [hdrs_length k2.1.len, emb_length, hWl, hn]
                have hgrow : ∀ b', (M.del (nb bs i)) b' = none → RefM (((M.del (nb bs i)).set b' ⟨36, 4, rrs ((mrow X i ++ [qat (b.map RR.q) i]).map ofQ)⟩).set B ⟨42, 1, (hdrs bs (emb (wideP X (b.map RR.q) i))).set i (.osl b' 4 0 (w + 1))⟩) B (bs.set i b') (wideP X (b.map RR.q) (i + 1)) := fun b' h => by
                  have := k2.grow (i := i) (by rw [hWl]; omega) h (mrow X i ++ [qat (b.map RR.q) i])
                  rw [List.length_append, hxl] at this
                  exact this
                have htop := k2.1.top
                generalize hdrs bs (emb (wideP X (b.map RR.q) i)) = H at *
                (repeat refine AW.seq_k fun K hK => ?_)
                refine AW.rdT [] [] [] [B] [0, 1, 2, 3, 4, 5, 6, 7, 8, 9, 10, 11, 12, 13] mix (by simp [hi, htop, ↓hgi, hri, hlE, hib, hni, hhl]) (by simp [hi, htop, ↓hgi, hri, hlE, hib, hni, hhl]) (by simp [hi, htop, ↓hgi, hri, hlE, hib, hni, hhl]) (by simp [hi, htop, ↓hgi, hri, hlE, hib, hni, hhl]) (by simp [hi, htop, ↓hgi, hri, hlE, hib, hni, hhl]) ?_
                simp [hi, htop, ↓hgi, hri, hlE, hib, hni, hhl]
                try (refine hK _ rfl ?_; clear hK; clear K)
                refine Fresh.introD fun b1 hb1 hb1B => ?_
                have nb1 : nb bs i ≠ b1 := by rintro rfl; rw [hri] at hb1; cases hb1
                rw [if_neg nb1]
                refine ⟨_, rfl, by simp [hxR], by simp [hxR]; omega, by simp [hxR]; unfold maxLen; omega, Fresh.introD fun b' hb' hb'B => ?_⟩
                have nB : B ≠ b' := Ne.symm hb'B
                rw [if_neg nB, if_neg (Ne.symm hni), if_neg (Ne.symm hb1B)]
                have hb2 : (M.del (nb bs i)) b' = none := by
                  have hb' : (if b' = nb bs i then none else (M.set b1 ⟨36, 4, [(rr b i).av]⟩) b') = none := hb'
                  show (if b' = nb bs i then none else M b') = none
                  by_cases e : b' = nb bs i
                  · rw [if_pos e]
                  · rw [if_neg e] at hb' ⊢
                    simp only [set_at] at hb'
                    by_cases e2 : b' = b1
                    · rw [if_pos e2] at hb'; cases hb'
                    · rwa [if_neg e2] at hb'
                have hgr := hgrow b' hb2
                rw [List.map_append, List.map_singleton, rrs_app, ← hq] at hgr
                refine ⟨_, rfl, rfl, ?_⟩
                rw [rrs_length, hxR]
                simp only [hgi, optK_some]
                refine ⟨⟨_, bs.set i b'⟩, ⟨hgr, fun k hk => ?_⟩, recast_tmp hb1 hgr.ones⟩
                rcases Nat.lt_succ_iff_lt_or_eq.1 hk with h | rfl
                · exact k3 k h
                · exact hv
            rintro ⟨M', M, bs⟩ ⟨hs, hrc⟩
            refine AW.turn [(0, matAV (emb X)), (1, rowAV b), (8, .osl B 1 0 n), (9, .int .i64 (i : Nat))] M hrc (by simp) ?_
            (repeat refine AW.seq_k fun K hK => ?_)
            refine AW.rg ?_
            simp [-Int.natCast_add, w1]
            try (refine hK _ rfl ?_; clear hK; clear K)
            exact ⟨i + 1, ⟨M, bs⟩, ⟨hi, hs⟩, by omega, by simp⟩
          · refine AW.exit ?_
            try simp
            have : i = n := by omega
            subst this
            have hv := k2.1.view
            rw [emb_length, wideP_length, hn] at hv
            refine ⟨.osl B 1 0 i, M, ⟨?_, fun k hk => k3 k (by omega)⟩, rfl, rfl⟩
            unfold wideQ
            rw [hn]
            exact hv
      rintro ⟨v1, M⟩ ⟨hvw, hok⟩
      simp only at hvw
      simp only
      obtain ⟨hbe, hbg⟩ := okV_emb hb hok
      rw [if_neg (by simp [hok])] at hR
      have hbl : (b.map RR.q).length = n := by rw [List.length_map, h1]
      generalize b.map RR.q = bq at *
      have hW := wideQ_good hG hbg hbl
      generalize wideQ X bq = Wq at *
      refine AW.toEmp [(0, matAV (emb X)), (8, matAV (emb Wq))] (by simp; exact hvw) ?_
      (repeat refine AW.seq_k fun K hK => ?_)
      refine AW.rg ?_
      simp
      try (refine hK _ rfl ?_; clear hK; clear K)
      refine CallK.val hwid ?_
      simp
      refine hK _ rfl ?_
      clear hK
      clear K
      by_cases hw : w = 64
      · rw [if_pos hw] at hR
        rw [hR]
        refine AW.yes ?_ (by simp [hw])
        (repeat refine AW.seq_k fun K hK => ?_)
        refine AW.rg ?_
        simp
        try (refine hK _ rfl ?_; clear hK; clear K)
        exact AW.ret (ret_views [rowAV [], .bool false, .int .i64 2] rfl ⟨.nilsl 4, .same _, .same _, trivial⟩ ⟨rfl, rfl⟩)
      · rw [if_neg hw] at hR
        have hw64 : ¬ 64 ≤ w := by omega
        refine AW.no ?_ (by simp [hw64])
        refine AW.skip ?_
        try simp
        refine hK _ rfl ?_
        clear hK
        clear K
        have hWl : Wq.length = n := hW.2.2
        have hw' : 0 < n → (mrow Wq 0).length = w + 1 := fun h => (hW.row h).2
        have hdm : dimM Wq (mrow Wq 0).length := fun k hk => by
          rw [hWl] at hk
          rw [(hW.row hk).2, hw' (by omega)]
        have hw65 : (mrow Wq 0).length ≤ 64 := by
          rcases Nat.eq_zero_or_pos n with h | h
          · rw [List.eq_nil_of_length_eq_zero (hWl.trans h)]; simp [mrow]
          · rw [hw' h]; omega
        have hGW : matGood n (mrow Wq 0).length Wq := ⟨hW.1, hdm, hWl⟩
        have hchk := chk_good hGW rfl a4 hw65
        have hrd := reduce7_call (emb Wq) (lb_emb Wq)
        rw [redR_emb hchk] at hrd
        (repeat refine AW.seq_k fun K hK => ?_)
        refine AW.rg ?_
        simp
        try (refine hK _ rfl ?_; clear hK; clear K)
        refine CallK.val hrd ?_
        simp
        refine hK _ rfl ?_
        clear hK
        clear K
        cases hq : reduceQ Wq with
        | none =>
          rw [hq] at hR
          rw [hR]
          (repeat refine AW.seq_k fun K hK => ?_)
          refine AW.rg ?_
          simp
          try (refine hK _ rfl ?_; clear hK; clear K)
          refine AW.yes ?_ rfl
          (repeat refine AW.seq_k fun K hK => ?_)
          refine AW.rg ?_
          simp
          try (refine hK _ rfl ?_; clear hK; clear K)
          exact AW.ret (ret_views [rowAV [], .bool false, .int .i64 2] rfl ⟨.nilsl 4, .same _, .same _, trivial⟩ ⟨rfl, rfl⟩)
        | some z =>
          obtain ⟨Y, ps⟩ := z
          rw [hq] at hR
          simp only at hR
          have hcol := reduce_keep (n := n) (w := (mrow Wq 0).length) hGW hq
          obtain ⟨⟨y1, y2, y3⟩, y4, y5, y6⟩ := hcol
          simp only at y1 y2 y3 y4 y5 y6
          have hle : ∀ p ∈ ps, p ≤ w := fun p hp => by
            have := y6 p hp
            rcases Nat.eq_zero_or_pos n with h | h
            · have : ps.length = 0 := by omega
              rw [List.eq_nil_of_length_eq_zero this] at hp; cases hp
            · rw [hw' h] at this; omega
          have ham := among_call ps w (by omega)
          (repeat refine AW.seq_k fun K hK => ?_)
          refine AW.rg ?_
          simp
          try (refine hK _ rfl ?_; clear hK; clear K)
          refine AW.no ?_ rfl
          refine AW.skip ?_
          try simp
          refine hK _ rfl ?_
          clear hK
          clear K
          (repeat refine AW.seq_k fun K hK => ?_)
          refine AW.rg ?_
          simp
          try (refine hK _ rfl ?_; clear hK; clear K)
          refine CallK.val hwid ?_
          simp
          refine CallK.val ham ?_
          simp
          refine hK _ rfl ?_
          clear hK
          clear K
          by_cases hwp : w ∈ ps
          · rw [if_pos hwp] at hR
            rw [hR]
            refine AW.yes ?_ (by simp [hwp])
            (repeat refine AW.seq_k fun K hK => ?_)
            refine AW.rg ?_
            simp
            try (refine hK _ rfl ?_; clear hK; clear K)
            exact AW.ret (ret_views [rowAV [], .bool false, .int .i64 0] rfl ⟨.nilsl 4, .same _, .same _, trivial⟩ ⟨rfl, rfl⟩)
          · rw [if_neg hwp] at hR
            have hlt : ∀ p ∈ ps, p < w := fun p hp => by
              have := hle p hp
              rcases Nat.lt_or_eq_of_le this with h | h
              · exact h
              · subst h; exact absurd hp hwp
            refine AW.no ?_ (by simp [hwp])
            refine AW.skip ?_
            try simp
            refine hK _ rfl ?_
            clear hK
            clear K
            have hz := zeros_call w (by omega)
            (repeat refine AW.seq_k fun K hK => ?_)
            refine AW.rg ?_
            simp
            try (refine hK _ rfl ?_; clear hK; clear K)
            refine CallK.val hwid ?_
            simp
            refine CallK.news hz ?_
            rintro v g hzv _
            rw [emp_back]
            simp
            refine hK _ rfl ?_
            clear hK
            clear K
            refine AW.seq_ex (ι := Mem) (fun _ => [(13, v)]) (fun M => M) (fun M => View M Mem.emp v (rowAV ((solV Y ps w).map ofQ))) ?_ ?_
            · rcases hzv with ⟨rfl, rfl, rfl⟩ | ⟨bv, rfl, rfl⟩
              · have hps : ps = [] := by
                  cases ps with
                  | nil => rfl
                  | cons a l => have := hlt a (by simp); omega
                subst hps
                (repeat refine AW.seq_k fun K hK => ?_)
                refine AW.rg ?_
                simp
                try (refine hK _ rfl ?_; clear hK; clear K)
                refine AW.block (AW.loopS (ι := Nat) (fun k => [(0, matAV (emb X)), (10, matAV (emb Y)), (11, .sl 1 (ints [])), (13, .nil), (14, .int .i64 0)]) (fun k => Mem.emp) (fun k => True) (fun k => 0) 0 trivial rfl (by simp) ?_)
                rintro k -
                (repeat refine AW.seq_k fun K hK => ?_)
                refine AW.rg ?_
                simp
                try (refine hK _ rfl ?_; clear hK; clear K)
                refine AW.no ?_ rfl
                refine AW.exit ?_
                try simp
                exact .nilsl 4
              · (repeat refine AW.seq_k fun K hK => ?_)
                refine AW.rg ?_
                simp
                try (refine hK _ rfl ?_; clear hK; clear K)
                refine AW.block (AW.loopS (ι := Nat) (fun k => [(0, matAV (emb X)), (10, matAV (emb Y)), (11, .sl 1 (ints ps)), (13, .osl bv 4 0 w), (14, .int .i64 (k : Nat))]) (fun k => Mem.emp.set bv ⟨36, 4, rrs ((solF Y ps w k (List.replicate w 0)).map ofQ)⟩) (fun k => k ≤ ps.length) (fun k => ps.length - k) 0 (by simp) ?_ (by simp) ?_)
                · show Mem.emp.set bv _ = Mem.emp.set bv ⟨36, 4, rrs ((List.replicate w (0 : Rat)).map ofQ)⟩
                  rw [List.map_replicate]
                rintro k g1
                (repeat refine AW.seq_k fun K hK => ?_)
                refine AW.rg ?_
                simp
                try (refine hK _ rfl ?_; clear hK; clear K)
                (repeat refine AW.seq ?_)
                refine AW.cs (fun hk => ?_) (fun hk => ?_) rfl <;> (try simp at hk)
                · refine AW.skip ?_
                  try simp
                  refine hK _ rfl ?_
                  clear hK
                  clear K
                  have w3 : IntKind.i64.wrap ((k + 1 : Nat) : Int) = ((k + 1 : Nat) : Int) := wi (by omega)
                  have hkY : k < Y.length := by omega
                  have hkE : k < (emb Y).length := by rw [emb_length]; exact hkY
                  have hn0 : 0 < n := by omega
                  have hlk : (mrow (emb Y) k).length = w + 1 := by rw [emb_row, List.length_map, y2 k hkY, hw' hn0]
                  have hjl : w < (mrow Y k).length := by rw [y2 k hkY, hw' hn0]; omega
                  have hel : rr (mrow (emb Y) k) w = ofQ (qel Y k w) := by rw [emb_row, rr_map hjl]; rfl
                  have hpk : ps.getD k 0 = ps[k] := by rw [List.getD_eq_getElem?_getD, List.getElem?_eq_getElem hk]; rfl
                  have hpw : ps[k] < w := hlt _ (List.getElem_mem hk)
                  have hlf : (solF Y ps w k (List.replicate w 0)).length = w := by rw [solF_length]; simp
                  have hkn : solF Y ps w (k + 1) (List.replicate w 0) = (solF Y ps w k (List.replicate w 0)).set ps[k] (qel Y k w) := by rw [← hpk]; rfl
                  refine AW.seq_ex (ι := Unit) (fun _ => [(0, matAV (emb X)), (10, matAV (emb Y)), (11, .sl 1 (ints ps)), (13, .osl bv 4 0 w), (14, .int .i64 (k : Nat))]) (fun _ => Mem.emp.set bv ⟨36, 4, rrs ((solF Y ps w (k + 1) (List.replicate w 0)).map ofQ)⟩) (fun _ => True) ?_ ?_
                  · (repeat refine AW.seq ?_)
                    refine AW.block ?_
                    (repeat refine AW.seq_k fun K hK => ?_)
                    refine AW.rd [0, 1, 2, 3, 4, 5, 6, 7, 8, 9, 10, 11, 12, 13, 14] mix ?_
                    simp [hk, hkE, hlk, hel, hpw, hlf]
                    try (refine hK _ rfl ?_; clear hK; clear K)
                    refine CallK.val hwid ?_
                    simp [-Int.natCast_add, hk, hkE, hlk, hel, hpw, hlf]
                    rw [hkn, List.map_set, ← rrs_set]
                    rfl
                  rintro _ -
                  (repeat refine AW.seq_k fun K hK => ?_)
                  refine AW.rg ?_
                  simp [-Int.natCast_add, w3]
                  try (refine hK _ rfl ?_; clear hK; clear K)
                  exact ⟨k + 1, by omega, by omega, rfl, rfl⟩
                · refine AW.exit ?_
                  try simp
                  have : k = ps.length := by omega
                  subst this
                  exact view_row (Mem.set_same _ _ _) rfl (by rw [List.length_map]; exact solV_length Y ps w)
            rintro M hv
            (repeat refine AW.seq_k fun K hK => ?_)
            refine AW.rg ?_
            simp
            try (refine hK _ rfl ?_; clear hK; clear K)
            exact AW.ret (ret_views [rowAV ((solV Y ps w).map ofQ), .bool true, .int .i64 0] rfl ⟨hv, .same _, .same _, trivial⟩ ⟨by rw [hR]; rfl, rfl⟩)
    · have hR : solR m b = (1, false, []) := by unfold solR; rw [if_neg (by simp [h0]), if_pos h1]
      rw [hR]
      refine acall_S Tryz.func43 rfl rfl 92 rfl (Nat.le_of_ble_eq_true rfl) ?_
      (repeat refine AW.seq_k fun K hK => ?_)
      refine AW.rg ?_
      simp [argsL]
      try (refine hK _ rfl ?_; clear hK; clear K)
      (repeat refine AW.seq_k fun K hK => ?_)
      refine AW.rg ?_
      simp
      try (refine hK _ rfl ?_; clear hK; clear K)
      refine CallK.val hck ?_
      simp
      refine hK _ rfl ?_
      clear hK
      clear K
      (repeat refine AW.seq_k fun K hK => ?_)
      refine AW.rg ?_
      simp
      try (refine hK _ rfl ?_; clear hK; clear K)
      refine AW.no ?_ rfl
      refine AW.skip ?_
      try simp
      refine hK _ rfl ?_
      clear hK
      clear K
      (repeat refine AW.seq_k fun K hK => ?_)
      refine AW.rg ?_
      simp
      try (refine hK _ rfl ?_; clear hK; clear K)
      refine AW.yes ?_ (by simp [h1])
      (repeat refine AW.seq_k fun K hK => ?_)
      refine AW.rg ?_
      simp
      try (refine hK _ rfl ?_; clear hK; clear K)
      exact AW.ret (ret_views [rowAV [], .bool false, .int .i64 1] rfl ⟨.nilsl 4, .same _, .same _, trivial⟩ ⟨rfl, rfl⟩)
  · have hR : solR m b = (chk m, false, []) := by unfold solR; rw [if_pos h0]
    rw [hR]
    generalize chk m = e at *
    refine acall_S Tryz.func43 rfl rfl 92 rfl (Nat.le_of_ble_eq_true rfl) ?_
    (repeat refine AW.seq_k fun K hK => ?_)
    refine AW.rg ?_
    simp [argsL]
    try (refine hK _ rfl ?_; clear hK; clear K)
    (repeat refine AW.seq_k fun K hK => ?_)
    refine AW.rg ?_
    simp
    try (refine hK _ rfl ?_; clear hK; clear K)
    refine CallK.val hck ?_
    simp
    refine hK _ rfl ?_
    clear hK
    clear K
    (repeat refine AW.seq_k fun K hK => ?_)
    refine AW.rg ?_
    simp [h0]
    try (refine hK _ rfl ?_; clear hK; clear K)
    refine AW.yes ?_ rfl
    (repeat refine AW.seq_k fun K hK => ?_)
    refine AW.rg ?_
    simp
    try (refine hK _ rfl ?_; clear hK; clear K)
    exact AW.ret (ret_views [rowAV [], .bool false, .int .i64 e] rfl ⟨.nilsl 4, .same _, .same _, trivial⟩ ⟨rfl, rfl⟩)
end Go.Av
end
section
/- The law of the solutions. -/
namespace Go.Av
open Go.Proofs
open Classical in
theorem solR_good {m : List (List RR)} {b : List RR} (hm : LbM m) (hb : ∀ x ∈ b, x.Lb) : rowGood (solR m b).2.2 ∧ (solR m b).2.2.length ≤ 64 := by
  have z : rowGood ([] : List Rat) ∧ ([] : List Rat).length ≤ 64 := ⟨fun q hq => (by cases hq), by simp⟩
  unfold solR
  by_cases h0 : chk m = 0
  · rw [if_neg (by simp [h0])]
    by_cases h1 : b.length = m.length
    · rw [if_neg (by simp [h1])]
      by_cases h2 : okV b
      · rw [if_neg (by simp [h2])]
        by_cases h3 : (mrow m 0).length = 64
        · rw [if_pos h3]; exact z
        · rw [if_neg h3]
          obtain ⟨a1, a2, a3, a4, a5⟩ := chk_emb hm h0
          obtain ⟨hbe, hbg⟩ := okV_emb hb h2
          have ea : (mrow (unq m) 0).length = (mrow m 0).length := by rw [unq_row, List.length_map]
          have hla := unq_length m
          rw [ea] at a3 a5
          have hW := wideQ_good ⟨a2, a3, hla⟩ hbg (by rw [List.length_map, h1])
          generalize wideQ (unq m) (b.map RR.q) = Wq at *
          cases hq : reduceQ Wq with
          | none => exact z
          | some y =>
            simp only
            by_cases h4 : (mrow m 0).length ∈ y.2
            · rw [if_pos h4]; exact z
            · rw [if_neg h4]
              have hWl : Wq.length = m.length := hW.2.2
              have hw' : 0 < m.length → (mrow Wq 0).length = (mrow m 0).length + 1 := fun h => (hW.row h).2
              have hdm : dimM Wq (mrow Wq 0).length := fun k hk => by
                rw [hWl] at hk
                rw [(hW.row hk).2, hw' (by omega)]
              have hcol := reduce_keep (n := m.length) (w := (mrow Wq 0).length) ⟨hW.1, hdm, hWl⟩ hq
              obtain ⟨⟨y1, y2, y3⟩, y4, y5, y6⟩ := hcol
              refine ⟨solF_good (fun q hq => ?_) (fun k hk => ?_) _ (Nat.le_refl _), by rw [solV_length]; exact a5⟩
              · rw [List.eq_of_mem_replicate hq]; exact good_zero
              · exact y1.at (by rw [y2 k (by omega), hw' (by omega)]; omega)
      · rw [if_pos h2]; exact z
    · rw [if_pos h1]; exact z
  · rw [if_pos h0]; exact z
theorem row_same {v : List Rat} (h : rowGood v) (hl : v.length ≤ 64) : ACall Tryz.prog 44 [rowAV (v.map ofQ), rowAV (v.map ofQ)] Mem.emp fun r m => r = .bool true ∧ m = Mem.emp := by
  refine (row_call _ _ (fun x hx => ?_) (by rw [List.length_map]; omega)).mono ?_
  · obtain ⟨q, hq, rfl⟩ := List.mem_map.1 hx
    exact short_good (h q hq)
  · rintro r m ⟨⟨t, rfl, ht⟩, h2⟩
    exact ⟨by rw [ht.2 rfl], h2⟩
theorem lawSolves (m : List (List RR)) (b : List RR) (hm : LbM m) (hb : ∀ x ∈ b, x.Lb) : ACall Tryz.prog 12 [matAV m, rowAV b] Mem.emp fun v mm => v = .bool true ∧ mm = Mem.emp := by
  have hla := large_call m hm
  have hwk := works_call
  have hp := solveL_call m b hm hb
  have hr := solve7_call m b hm hb
  obtain ⟨k1, k2⟩ := solR_good hm hb
  have hs := row_same k1 k2
  generalize solR m b = z at *
  obtain ⟨e, is, v⟩ := z
  unfold solOut at hp hr
  simp only at hp hr hs
  refine acall_S Tryz.func12 rfl rfl 44 rfl (Nat.le_of_ble_eq_true rfl) ?_
  (repeat refine AW.seq_k fun K hK => ?_)
  refine AW.rg ?_
  simp [argsL]
  try (refine hK _ rfl ?_; clear hK; clear K)
  (repeat refine AW.seq_k fun K hK => ?_)
  refine AW.rg ?_
  simp
  try (refine hK _ rfl ?_; clear hK; clear K)
  refine CallK.val hla ?_
  simp
  refine hK _ rfl ?_
  clear hK
  clear K
  cases isLarge m
  · refine AW.no ?_ rfl
    refine AW.skip ?_
    try simp
    refine hK _ rfl ?_
    clear hK
    clear K
    (repeat refine AW.seq_k fun K hK => ?_)
    refine AW.rg ?_
    simp
    try (refine hK _ rfl ?_; clear hK; clear K)
    refine CallK.val hp ?_
    simp
    refine hK _ rfl ?_
    clear hK
    clear K
    (repeat refine AW.seq_k fun K hK => ?_)
    refine AW.rg ?_
    simp
    try (refine hK _ rfl ?_; clear hK; clear K)
    refine CallK.val hr ?_
    simp
    refine hK _ rfl ?_
    clear hK
    clear K
    cases is
    · (repeat refine AW.seq_k fun K hK => ?_)
      refine AW.rg ?_
      simp
      try (refine hK _ rfl ?_; clear hK; clear K)
      refine CallK.val hwk ?_
      simp
      refine CallK.val hs ?_
      simp
      refine hK _ rfl ?_
      clear hK
      clear K
      exact AW.ret (ret_views (vs := [.bool true]) [.bool true] (by simp) (by simp) ⟨rfl, rfl⟩)
    · (repeat refine AW.seq_k fun K hK => ?_)
      refine AW.rg ?_
      simp
      try (refine hK _ rfl ?_; clear hK; clear K)
      refine CallK.val hwk ?_
      simp
      refine CallK.val hs ?_
      simp
      refine hK _ rfl ?_
      clear hK
      clear K
      exact AW.ret (ret_views (vs := [.bool true]) [.bool true] (by simp) (by simp) ⟨rfl, rfl⟩)
  · refine AW.yes ?_ rfl
    (repeat refine AW.seq_k fun K hK => ?_)
    refine AW.rg ?_
    simp
    try (refine hK _ rfl ?_; clear hK; clear K)
    refine CallK.val hwk ?_
    simp
    refine hK _ rfl ?_
    clear hK
    clear K
    exact AW.ret (ret_views (vs := [.bool true]) [.bool true] (by simp) (by simp) ⟨rfl, rfl⟩)
end Go.Av
end
