/- The statement, proved over a library of abstract values, for every input: no condition. -/
import Derived.Test.YthflocfaafoohaaGreatP5
import Derived.Test.YthflocfaafoohaaGreatRows
import Derived.ProofKit
import Derived.Carry
set_option linter.all false
set_option exponentiation.threshold 5000
set_option maxRecDepth 10000
section
namespace Go.Proofs.YthflocfaafoohaaGreat
open Go.ChangeShapes Go.WideShapes Go.ChangeAt Go.RowKit
open Go.Av (Wm Vp Si Yu Xu vrl Qht)
theorem Tryz.own : ownKnob Tryz.prog.godebug = none := by kernel_rfl
theorem Tryz.laidOut : laidOutB Tryz.prog = true := by kernel_rfl
theorem Tryz.pars11 : Tryz.f11.params = #[3, 22, 25] := by kernel_rfl
set_option maxRecDepth 100000 in
theorem rigidityWork_lifted (os : Os) (started : os.Started) (H : Type) (enc : TypeId × Value → H) :
    ReturnsInHanded {} Tryz.checked os 11 .any (Rows.rigidityWorkSpec.pre6 enc Tryz.prog Tryz.f11 Rows.rigidityWorkRow.domain false) (Rows.rigidityWorkSpec.post enc Tryz.prog Tryz.f11 false true false false) := by
  refine returnsInHanded_of_change (C := Tryz.checked) Tryz.own started (by kernel_rfl) Tryz.func11
    (ChangeSpec.witness6 (enc := enc) (C := Tryz.checked) false ⟨#[], #[.int .i64 0, .slice none 0 0, .slice none 0 0], []⟩ 8 (by kernel_rfl) (by kernel_rfl) (by kernel_rfl) (by kernel_rfl)) ?_
  intro W base args ds gs before hval0 hW hcnd _
  have hval : ∀ (j : Nat) t v, Tryz.f11.params[j]? = some t → args[j]? = some v → Value.okWide Tryz.prog W .any base t v := hval0
  have hW' := hW
  obtain ⟨p, q, hA0, hV, rfl, hfz, hnd⟩ := hW
  have hA : DataW.TrodAll enc Tryz.prog W 0 (fun _ => true) true Tryz.f11.params.toList args.toList ds p := hA0
  rw [Tryz.pars11] at hA hval
  obtain ⟨v0, v1, v2, d0, d1, d2, p0, p1, p2, rfl, rfl, rfl, h0, h1, h2⟩ := trodAll_three hA
  obtain ⟨rfl, rfl⟩ := trodVars_none hV
  clear hA0 hval0
  simp only [List.append_nil] at hW'
  obtain ⟨n0, rfl⟩ := okWide_int Go.Av.ty3 (hval 0 3 v0 rfl rfl)
  obtain ⟨a1, len1, cap1, rfl⟩ := okWide_slice Go.Av.ty22 (hval 1 22 v1 rfl rfl)
  obtain ⟨a2, len2, cap2, rfl⟩ := okWide_slice Go.Av.ty25 (hval 2 25 v2 rfl rfl)
  have h0' := h0
  obtain ⟨fuel0, hf0⟩ := h0
  replace hf0 : DataW.trod enc Tryz.prog W 0 (fun _ => true) true fuel0 3 [.int .i64 n0] = some (d0, p0) := hf0
  obtain ⟨m0, e0, b0⟩ := Wm hf0
  cases e0
  have h1' := h1
  obtain ⟨fuel1, hf1⟩ := h1
  replace hf1 : DataW.trod enc Tryz.prog W 0 (fun _ => true) true fuel1 22 [.slice a1 len1 cap1] = some (d1, p1) := hf1
  obtain ⟨m1, hm1, hv1⟩ := Si hf1
  have h2' := h2
  obtain ⟨fuel2, hf2⟩ := h2
  replace hf2 : DataW.trod enc Tryz.prog W 0 (fun _ => true) true fuel2 25 [.slice a2 len2 cap2] = some (d2, p2) := hf2
  obtain ⟨m2, hm2, hv2⟩ := Yu hf2
  refine (Xu (W := W) (cs := [.int .i64 n0, .slice a1 len1 cap1, .slice a2 len2 cap2]) (Qht n0 m1 m2 hm1) ⟨.int _ _, hv1, hv2, trivial⟩).mono fun e W' ⟨he, hB⟩ => ?_
  subst he
  have hlt : ∀ x ∈ p0 ++ (p1 ++ (p2)), x.block < W.heap.size := fun x hx => hW'.lt x (by simpa using hx)
  refine ⟨_, rfl, _, _, _, [], p0 ++ (p1 ++ (p2)), [], hW', ?_, ?_, rfl, hB.frame _, fun h => by cases h⟩
  · exact trodAll_mk1 (shut_bool Go.Av.ty4 true)
  · exact trodAll_mk3 (Below.trod Tryz.laidOut (by kernel_rfl) (of_decide_eq_true (by kernel_rfl)) h0' hB fun x hx => hlt x (by simp [hx])) (Below.trod Tryz.laidOut (by kernel_rfl) (of_decide_eq_true (by kernel_rfl)) h1' hB fun x hx => hlt x (by simp [hx])) (Below.trod Tryz.laidOut (by kernel_rfl) (of_decide_eq_true (by kernel_rfl)) h2' hB fun x hx => hlt x (by simp [hx]))
theorem rigidityWork_holds : Rows.RigidityWorkSaid :=
  OpenClaim.holds_of_wide 11 Tryz.f11 rfl rfl rfl rfl rfl rfl rfl ⟨rfl, rfl, rfl, rfl, rfl⟩ rfl rfl rfl rfl rfl (by kernel_rfl) Tryz.func11 (by kernel_rfl)
    (of_decide_eq_true (by kernel_rfl)) (by unfold Func.isWrapper; rw [if_neg (of_decide_eq_false (by kernel_rfl))]; exact ⟨rfl, rfl⟩)
    (fun os started H enc _ => rigidityWork_lifted os started H enc)
end Go.Proofs.YthflocfaafoohaaGreat
end
