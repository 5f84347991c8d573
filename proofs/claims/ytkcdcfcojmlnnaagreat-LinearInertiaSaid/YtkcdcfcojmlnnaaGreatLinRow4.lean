/- The statement, proved over a library of abstract values, for every input: no condition. -/
import Derived.Test.YtkcdcfcojmlnnaaGreatP6
import Derived.Test.YtkcdcfcojmlnnaaGreatRows
import Derived.ProofKit
set_option linter.all false
set_option exponentiation.threshold 5000
set_option maxRecDepth 10000
section
namespace Go.Proofs.YtkcdcfcojmlnnaaGreat
open Go.ChangeShapes Go.WideShapes Go.ChangeAt Go.RowKit
open Go.Av (read_mat read_row call_two lawInertia)
theorem Tryz.own : ownKnob Tryz.prog.godebug = none := by kernel_rfl
theorem Tryz.laidOut : laidOutB Tryz.prog = true := by kernel_rfl
theorem Tryz.pars6 : Tryz.f6.params = #[22, 22] := by kernel_rfl
set_option maxRecDepth 100000 in
theorem linearInertia_lifted (os : Os) (started : os.Started) (H : Type) (enc : TypeId × Value → H) :
    ReturnsInHanded {} Tryz.checked os 6 .any (Rows.linearInertiaSpec.pre6 enc Tryz.prog Tryz.f6 Rows.linearInertiaRow.domain false) (Rows.linearInertiaSpec.post enc Tryz.prog Tryz.f6 false true false false) := by
  refine returnsInHanded_of_change (C := Tryz.checked) Tryz.own started (by kernel_rfl) Tryz.func6
    (ChangeSpec.witness6 (enc := enc) (C := Tryz.checked) false ⟨#[], #[.slice none 0 0, .slice none 0 0], []⟩ 8 (by kernel_rfl) (by kernel_rfl) (by kernel_rfl) (by kernel_rfl)) ?_
  intro W base args ds gs before hval0 hW hcnd _
  have hval : ∀ (j : Nat) t v, Tryz.f6.params[j]? = some t → args[j]? = some v → Value.okWide Tryz.prog W .any base t v := hval0
  have hW' := hW
  obtain ⟨p, q, hA0, hV, rfl, hfz, hnd⟩ := hW
  have hA : DataW.TrodAll enc Tryz.prog W 0 (fun _ => true) true Tryz.f6.params.toList args.toList ds p := hA0
  rw [Tryz.pars6] at hA hval
  obtain ⟨v0, v1, d0, d1, p0, p1, rfl, rfl, rfl, h0, h1⟩ := trodAll_two hA
  obtain ⟨rfl, rfl⟩ := trodVars_none hV
  clear hA0 hval0
  simp only [List.append_nil] at hW'
  obtain ⟨a0, len0, cap0, rfl⟩ := okWide_slice Go.Av.ty22 (hval 0 22 v0 rfl rfl)
  obtain ⟨a1, len1, cap1, rfl⟩ := okWide_slice Go.Av.ty22 (hval 1 22 v1 rfl rfl)
  have h0' := h0
  have h1' := h1
  obtain ⟨fuel0, hf0⟩ := h0
  obtain ⟨fuel1, hf1⟩ := h1
  replace hf0 : DataW.trod enc Tryz.prog W 0 (fun _ => true) true fuel0 22 [.slice a0 len0 cap0] = some (d0, p0) := hf0
  replace hf1 : DataW.trod enc Tryz.prog W 0 (fun _ => true) true fuel1 22 [.slice a1 len1 cap1] = some (d1, p1) := hf1
  obtain ⟨m, hm, hv⟩ := read_mat hf0
  obtain ⟨m', hm', hv'⟩ := read_mat hf1
  refine (call_two (W := W) (lawInertia m m' hm hm') hv hv').mono fun e W' ⟨he, hB⟩ => ?_
  subst he
  have hlt : ∀ x ∈ p0 ++ p1, x.block < W.heap.size := fun x hx => hW'.lt x (by simpa using hx)
  refine ⟨_, rfl, _, _, _, [], p0 ++ p1, [], hW', ?_, ?_, rfl, hB.frame _, fun h => by cases h⟩
  · exact trodAll_mk1 (shut_bool Go.Av.ty4 true)
  · exact trodAll_mk2 (Below.trod Tryz.laidOut (by kernel_rfl) (of_decide_eq_true (by kernel_rfl)) h0' hB fun x hx => hlt x (List.mem_append_left _ hx)) (Below.trod Tryz.laidOut (by kernel_rfl) (of_decide_eq_true (by kernel_rfl)) h1' hB fun x hx => hlt x (List.mem_append_right _ hx))
theorem linearInertia_holds : Rows.LinearInertiaSaid :=
  OpenClaim.holds_of_wide 6 Tryz.f6 rfl rfl rfl rfl rfl rfl rfl ⟨rfl, rfl, rfl, rfl, rfl⟩ rfl rfl rfl rfl rfl (by kernel_rfl) Tryz.func6 (by kernel_rfl)
    (of_decide_eq_true (by kernel_rfl)) (by unfold Func.isWrapper; rw [if_neg (of_decide_eq_false (by kernel_rfl))]; exact ⟨rfl, rfl⟩)
    (fun os started H enc _ => linearInertia_lifted os started H enc)
end Go.Proofs.YtkcdcfcojmlnnaaGreat
end
