/- OrderFinds returns true, whatever number of shards, whatever entries and whatever place it is handed; all arguments read behind the call as before. -/
import Derived.Test.YtbjpoamnglfjeaaOrdK
import Derived.Test.YtbjpoamnglfjeaaRowE
set_option linter.unusedVariables false
namespace Go.Proofs.Ytbjpoamnglfjeaa
open Go.ChangeShapes Go.WideShapes Go.ChangeAt Go.RowKit Cb
open Go.ChangeMaps (open_string shut_string)

set_option maxRecDepth 100000 in
set_option maxHeartbeats 4000000 in
theorem orderFinds_lifted (os : Os) (started : os.Started) (H : Type) (enc : TypeId × Value → H) :
    ReturnsInHanded {} Try.checked os 3 .any (Rows.orderFindsSpec.pre6 enc Try.prog Try.f3 Rows.orderFindsRow.domain false) (Rows.orderFindsSpec.post enc Try.prog Try.f3 Rows.orderFindsRow.apart Rows.orderFindsRow.fresh Rows.orderFindsRow.handsOn Rows.orderFindsRow.again) := by
  refine returnsInHanded_of_change_sized (C := Try.checked) own_knob started (by kernel_rfl) Try.func3
    (ChangeSpec.witness6 (enc := enc) (C := Try.checked) false ⟨#[], #[.int .i64 0, .slice none 0 0, .agg #[.int .i64 0, .int .i64 0]], []⟩ 8 (by kernel_rfl) (by kernel_rfl) (by kernel_rfl) (by kernel_rfl)) ?_
  intro W base args ds gs before hval0 hW _ hsz0 _
  have hsz : (DataW.weightsEach Try.prog (Try.f3.params.toList ++ Rows.orderFindsSpec.plain.varTypes Try.prog) (ds ++ gs)).all (· ≤ reachBytes) = true := hsz0
  clear hsz0
  have hval : ∀ (j : Nat) t v, Try.f3.params[j]? = some t → args[j]? = some v → Value.okWide Try.prog W .any base t v := hval0
  have hW' := hW
  obtain ⟨p, q, hA0, hV, rfl, hfz, _⟩ := hW
  have hA : DataW.TrodAll enc Try.prog W 0 (fun _ => true) true Try.f3.params.toList args.toList ds p := hA0
  rw [Try.params3] at hA hval hsz
  obtain ⟨v0, v1, v2, d0, d1, d2, p0, p1, p2, rfl, rfl, rfl, h0, h1, h2⟩ := trodAll_three hA
  obtain ⟨rfl, rfl⟩ := trodVars_none hV
  have h0k := h0
  have h1k := h1
  have h2k := h2
  have hlt0 : ∀ x ∈ p0, x.block < W.heap.size := fun x hx => by simpa using hW'.lt x (by simp [hx])
  have hlt1 : ∀ x ∈ p1, x.block < W.heap.size := fun x hx => by simpa using hW'.lt x (by simp [hx])
  have hlt2 : ∀ x ∈ p2, x.block < W.heap.size := fun x hx => by simpa using hW'.lt x (by simp [hx])
  obtain ⟨n0, rfl, _, _, wf0⟩ := open_int Try.underlying3 (hval 0 _ _ rfl rfl) h0
  have hn0 := i64_of wf0
  obtain ⟨l1, s1, hl1, hcb1⟩ := open_entries (hval 1 _ _ rfl rfl) h1 (sized_of hsz (j := 1) rfl rfl)
  obtain ⟨x2, y2, rfl, hx2, hy2⟩ := open_place (hval 2 _ _ rfl rfl) h2 (sized_of hsz (j := 2) rfl rfl)
  refine (ordfinds_any n0 v1 l1 x2 y2 W s1 hl1 hcb1 hy2).mono fun e W' ⟨he, hc⟩ => ?_
  subst he
  have hB : Below W.heap.size W W' := hc.below
  refine ⟨_, rfl, _, _, _, [], p0 ++ (p1 ++ p2), [], hW', ?_, ?_, ?_, hB.frame _, fun h => by cases h⟩
  · exact trodAll_mk1 (shut_bool Try.underlying4 true)
  · exact trodAll_mk3 (Below.trod laidOut (by kernel_rfl) (of_decide_eq_true (by kernel_rfl)) h0k hB hlt0) (Below.trod laidOut (by kernel_rfl) (of_decide_eq_true (by kernel_rfl)) h1k hB hlt1) (Below.trod laidOut (by kernel_rfl) (of_decide_eq_true (by kernel_rfl)) h2k hB hlt2)
  · show DataW.TrodVars enc Try.prog W' _ [] [] []
    first | exact ⟨rfl, rfl⟩ | simp [DataW.TrodVars]
theorem orderFinds_holds : Rows.OrderFindsSaid :=
  OpenClaim.holds_of_wide 3 Try.f3 rfl rfl rfl rfl rfl rfl rfl ⟨rfl, rfl, rfl, rfl, rfl⟩ rfl rfl rfl rfl rfl (by kernel_rfl) Try.func3 (by kernel_rfl)
    (of_decide_eq_true (by kernel_rfl)) (by unfold Func.isWrapper; first | (rw [if_pos (by decide +kernel)]; kernel_rfl) | (rw [if_neg (by decide +kernel)]; exact ⟨rfl, rfl⟩))
    (fun os started H enc _ => orderFinds_lifted os started H enc)

#print axioms orderFinds_holds
end Go.Proofs.Ytbjpoamnglfjeaa
