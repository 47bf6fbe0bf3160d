/- QuorumSeals returns true, whatever configuration and whatever parts of sealed replicas it is handed; both read behind the call as before. -/
import Derived.Test.YticimjplegbagaaMg15
set_option linter.unusedVariables false
namespace Go.Proofs.Yticimjplegbagaa
open Go.ChangeShapes Go.WideShapes Go.ChangeAt Go.RowKit Cb
open Go.ChangeMaps (open_string shut_string)

set_option maxRecDepth 100000 in
set_option maxHeartbeats 4000000 in
theorem quorumSeals_lifted (os : Os) (started : os.Started) (H : Type) (enc : TypeId × Value → H) :
    ReturnsInHanded {} Try.checked os 3 .any (Rows.quorumSealsSpec.pre6 enc Try.prog Try.f3 Rows.quorumSealsRow.domain false) (Rows.quorumSealsSpec.post enc Try.prog Try.f3 Rows.quorumSealsRow.apart Rows.quorumSealsRow.fresh Rows.quorumSealsRow.handsOn Rows.quorumSealsRow.again) := by
  refine returnsInHanded_of_change_sized (C := Try.checked) own_knob started (by kernel_rfl) Try.func3
    (ChangeSpec.witness6 (enc := enc) (C := Try.checked) false ⟨#[], #[.agg #[.int .i64 0, .slice none 0 0, .slice none 0 0], .slice none 0 0], []⟩ 8 (by kernel_rfl) (by kernel_rfl) (by kernel_rfl) (by kernel_rfl)) ?_
  intro W base args ds gs before hval0 hW _ hsz0 _
  have hsz : (DataW.weightsEach Try.prog (Try.f3.params.toList ++ Rows.quorumSealsSpec.plain.varTypes Try.prog) (ds ++ gs)).all (· ≤ reachBytes) = true := hsz0
  clear hsz0
  have hval : ∀ (j : Nat) t v, Try.f3.params[j]? = some t → args[j]? = some v → Value.okWide Try.prog W .any base t v := hval0
  have hW' := hW
  obtain ⟨p, q, hA0, hV, rfl, hfz, _⟩ := hW
  have hA : DataW.TrodAll enc Try.prog W 0 (fun _ => true) true Try.f3.params.toList args.toList ds p := hA0
  rw [Try.params3] at hA hval hsz
  obtain ⟨v0, v1, d0, d1, p0, p1, rfl, rfl, rfl, h0, h1⟩ := trodAll_two hA
  obtain ⟨rfl, rfl⟩ := trodVars_none hV
  have h0k := h0
  have h1k := h1
  have hlt0 : ∀ x ∈ p0, x.block < W.heap.size := fun x hx => by simpa using hW'.lt x (by simp [hx])
  have hlt1 : ∀ x ∈ p1, x.block < W.heap.size := fun x hx => by simpa using hW'.lt x (by simp [hx])
  obtain ⟨t0, q0, s0, vq0, vs0, rfl, ht0, sq0, ss0, hz0⟩ := qopen_config (hval 0 _ _ rfl rfl) h0 (sized_of hsz (j := 0) rfl rfl)
  obtain ⟨l1, sl1, hl1, hcb1⟩ := qopen_parts (hval 1 _ _ rfl rfl) h1 (sized_of hsz (j := 1) rfl rfl)
  refine (qseals_any t0 vq0 vs0 v1 q0 s0 l1 W sq0 ss0 sl1 hz0 hl1 hcb1).mono fun e W' ⟨he, hc⟩ => ?_
  subst he
  have hB : Below W.heap.size W W' := hc.below
  refine ⟨_, rfl, _, _, _, [], p0 ++ p1, [], hW', ?_, ?_, ?_, hB.frame _, fun h => by cases h⟩
  · exact trodAll_mk1 (shut_bool Try.underlying4 true)
  · exact trodAll_mk2 (Below.trod laidOut (by kernel_rfl) (of_decide_eq_true (by kernel_rfl)) h0k hB hlt0) (Below.trod laidOut (by kernel_rfl) (of_decide_eq_true (by kernel_rfl)) h1k hB hlt1)
  · show DataW.TrodVars enc Try.prog W' _ [] [] []
    first | exact ⟨rfl, rfl⟩ | simp [DataW.TrodVars]
theorem quorumSeals_holds : Rows.QuorumSealsSaid :=
  OpenClaim.holds_of_wide 3 Try.f3 rfl rfl rfl rfl rfl rfl rfl ⟨rfl, rfl, rfl, rfl, rfl⟩ rfl rfl rfl rfl rfl (by kernel_rfl) Try.func3 (by kernel_rfl)
    (of_decide_eq_true (by kernel_rfl)) (by unfold Func.isWrapper; first | (rw [if_pos (by decide +kernel)]; kernel_rfl) | (rw [if_neg (by decide +kernel)]; exact ⟨rfl, rfl⟩))
    (fun os started H enc _ => quorumSeals_lifted os started H enc)

#print axioms quorumSeals_holds
end Go.Proofs.Yticimjplegbagaa
