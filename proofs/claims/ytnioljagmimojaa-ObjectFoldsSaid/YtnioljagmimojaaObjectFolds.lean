/- ObjectFolds returns true, whatever log and whatever number it is handed; both arguments read behind the call as before. -/
import Derived.Test.YtnioljagmimojaaLawZ
import Derived.Test.YtnioljagmimojaaRowK
set_option linter.unusedVariables false
namespace Go.Proofs.Ytnioljagmimojaa
open Go.ChangeShapes Go.WideShapes Go.ChangeAt Go.RowKit Cb
open Go.ChangeMaps (open_string shut_string)

set_option maxRecDepth 100000 in
set_option maxHeartbeats 4000000 in
theorem objectFolds_lifted (os : Os) (started : os.Started) (H : Type) (enc : TypeId × Value → H) :
    ReturnsInHanded {} Try.checked os 7 .any (Rows.objectFoldsSpec.pre6 enc Try.prog Try.f7 Rows.objectFoldsRow.domain false) (Rows.objectFoldsSpec.post enc Try.prog Try.f7 Rows.objectFoldsRow.apart Rows.objectFoldsRow.fresh Rows.objectFoldsRow.handsOn Rows.objectFoldsRow.again) := by
  refine returnsInHanded_of_change_sized (C := Try.checked) own_knob started (by kernel_rfl) Try.func7
    (ChangeSpec.witness6 (enc := enc) (C := Try.checked) false ⟨#[], #[.slice none 0 0, .int .i64 0], []⟩ 8 (by kernel_rfl) (by kernel_rfl) (by kernel_rfl) (by kernel_rfl)) ?_
  intro W base args ds gs before hval0 hW _ hsz0 _
  have hsz : (DataW.weightsEach Try.prog (Try.f7.params.toList ++ Rows.objectFoldsSpec.plain.varTypes Try.prog) (ds ++ gs)).all (· ≤ reachBytes) = true := hsz0
  clear hsz0
  have hval : ∀ (j : Nat) t v, Try.f7.params[j]? = some t → args[j]? = some v → Value.okWide Try.prog W .any base t v := hval0
  have hW' := hW
  obtain ⟨p, q, hA0, hV, rfl, hfz, _⟩ := hW
  have hA : DataW.TrodAll enc Try.prog W 0 (fun _ => true) true Try.f7.params.toList args.toList ds p := hA0
  rw [Try.params7] at hA hval hsz
  obtain ⟨v0, v1, d0, d1, p0, p1, rfl, rfl, rfl, h0, h1⟩ := trodAll_two hA
  obtain ⟨rfl, rfl⟩ := trodVars_none hV
  obtain ⟨ss, s0, hss⟩ := open_log (hval 0 _ _ rfl rfl) h0
  obtain ⟨hn, hm⟩ := sized_texts hsz (j := 0) rfl rfl Try.underlying45 hss
  rw [bytes_string] at hn
  have h0k := h0
  have h1k := h1
  obtain ⟨f, rfl, rfl, rfl, wf⟩ := open_int Try.underlying3 (hval 1 _ _ rfl rfl) h1
  have hlt : ∀ x ∈ p0, x.block < W.heap.size := fun x hx => by simpa using hW'.lt x (List.mem_append_left _ (List.mem_append_left _ hx))
  have hwalk : Calls Try.prog 7 #[v0, .int .i64 f] W fun e w' => e = .returned (.bool true) ∧ Chg No W w' := by
    simp only [reachBytes] at hn hm
    by_cases hbig : fewB ss = false
    · exact folds_few No v0 ss f W s0 (by omega) (fun x hx => by have := hm x hx; omega) hbig
    · exact folds_main No v0 ss f W s0 (by simpa using hbig)
  refine hwalk.mono fun e W' ⟨he, hc⟩ => ?_
  subst he
  have hB : Below W.heap.size W W' := hc.below
  refine ⟨_, rfl, _, _, _, [], p0 ++ [], [], hW', ?_, ?_, ?_, hB.frame _, fun h => by cases h⟩
  · exact trodAll_mk1 (shut_bool Try.underlying4 true)
  · exact trodAll_mk2 (Below.trod laidOut (by kernel_rfl) (of_decide_eq_true (by kernel_rfl)) h0k hB hlt) (Below.trod laidOut (by kernel_rfl) (of_decide_eq_true (by kernel_rfl)) h1k hB (fun x hx => by cases hx))
  · show DataW.TrodVars enc Try.prog W' _ [] [] []
    first | exact ⟨rfl, rfl⟩ | simp [DataW.TrodVars]
theorem objectFolds_holds : Rows.ObjectFoldsSaid :=
  OpenClaim.holds_of_wide 7 Try.f7 rfl rfl rfl rfl rfl rfl rfl ⟨rfl, rfl, rfl, rfl, rfl⟩ rfl rfl rfl rfl rfl (by kernel_rfl) Try.func7 (by kernel_rfl)
    (of_decide_eq_true (by kernel_rfl)) (by unfold Func.isWrapper; first | (rw [if_pos (by decide +kernel)]; kernel_rfl) | (rw [if_neg (by decide +kernel)]; exact ⟨rfl, rfl⟩))
    (fun os started H enc _ => objectFolds_lifted os started H enc)

#print axioms objectFolds_holds
end Go.Proofs.Ytnioljagmimojaa
