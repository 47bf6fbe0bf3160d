/- OrderGrows returns true, whatever number of shards and whatever entries it is handed; both arguments read behind the call as before. -/
import Derived.Test.YtbjpoamnglfjeaaOrdG
import Derived.Test.YtbjpoamnglfjeaaRowE
set_option linter.unusedVariables false
namespace Go.Proofs.Ytbjpoamnglfjeaa
open Go.ChangeShapes Go.WideShapes Go.ChangeAt Go.RowKit Cb
open Go.ChangeMaps (open_string shut_string)

set_option maxRecDepth 100000 in
set_option maxHeartbeats 4000000 in
theorem orderGrows_lifted (os : Os) (started : os.Started) (H : Type) (enc : TypeId × Value → H) :
    ReturnsInHanded {} Try.checked os 5 .any (Rows.orderGrowsSpec.pre6 enc Try.prog Try.f5 Rows.orderGrowsRow.domain false) (Rows.orderGrowsSpec.post enc Try.prog Try.f5 Rows.orderGrowsRow.apart Rows.orderGrowsRow.fresh Rows.orderGrowsRow.handsOn Rows.orderGrowsRow.again) := by
  refine returnsInHanded_of_change_sized (C := Try.checked) own_knob started (by kernel_rfl) Try.func5
    (ChangeSpec.witness6 (enc := enc) (C := Try.checked) false ⟨#[], #[.int .i64 0, .slice none 0 0], []⟩ 8 (by kernel_rfl) (by kernel_rfl) (by kernel_rfl) (by kernel_rfl)) ?_
  intro W base args ds gs before hval0 hW _ hsz0 _
  have hsz : (DataW.weightsEach Try.prog (Try.f5.params.toList ++ Rows.orderGrowsSpec.plain.varTypes Try.prog) (ds ++ gs)).all (· ≤ reachBytes) = true := hsz0
  clear hsz0
  have hval : ∀ (j : Nat) t v, Try.f5.params[j]? = some t → args[j]? = some v → Value.okWide Try.prog W .any base t v := hval0
  have hW' := hW
  obtain ⟨p, q, hA0, hV, rfl, hfz, _⟩ := hW
  have hA : DataW.TrodAll enc Try.prog W 0 (fun _ => true) true Try.f5.params.toList args.toList ds p := hA0
  rw [Try.params5] at hA hval hsz
  obtain ⟨v0, v1, d0, d1, p0, p1, rfl, rfl, rfl, h0, h1⟩ := trodAll_two hA
  obtain ⟨rfl, rfl⟩ := trodVars_none hV
  have h0k := h0
  have h1k := h1
  obtain ⟨l, s1, hl, hcb⟩ := open_entries (hval 1 _ _ rfl rfl) h1 (sized_of hsz (j := 1) rfl rfl)
  obtain ⟨n, rfl, rfl, rfl, wf⟩ := open_int Try.underlying3 (hval 0 _ _ rfl rfl) h0
  have hlt : ∀ x ∈ p1, x.block < W.heap.size := fun x hx => by simpa using hW'.lt x (List.mem_append_left _ (List.mem_append_right _ hx))
  refine (ordgrows_any n v1 l W s1 hl hcb).mono fun e W' ⟨he, hc⟩ => ?_
  subst he
  have hB : Below W.heap.size W W' := hc.below
  refine ⟨_, rfl, _, _, _, [], [] ++ p1, [], hW', ?_, ?_, ?_, hB.frame _, fun h => by cases h⟩
  · exact trodAll_mk1 (shut_bool Try.underlying4 true)
  · exact trodAll_mk2 (Below.trod laidOut (by kernel_rfl) (of_decide_eq_true (by kernel_rfl)) h0k hB (fun x hx => by cases hx)) (Below.trod laidOut (by kernel_rfl) (of_decide_eq_true (by kernel_rfl)) h1k hB hlt)
  · show DataW.TrodVars enc Try.prog W' _ [] [] []
    first | exact ⟨rfl, rfl⟩ | simp [DataW.TrodVars]
theorem orderGrows_holds : Rows.OrderGrowsSaid :=
  OpenClaim.holds_of_wide 5 Try.f5 rfl rfl rfl rfl rfl rfl rfl ⟨rfl, rfl, rfl, rfl, rfl⟩ rfl rfl rfl rfl rfl (by kernel_rfl) Try.func5 (by kernel_rfl)
    (of_decide_eq_true (by kernel_rfl)) (by unfold Func.isWrapper; first | (rw [if_pos (by decide +kernel)]; kernel_rfl) | (rw [if_neg (by decide +kernel)]; exact ⟨rfl, rfl⟩))
    (fun os started H enc _ => orderGrows_lifted os started H enc)

#print axioms orderGrows_holds
end Go.Proofs.Ytbjpoamnglfjeaa
