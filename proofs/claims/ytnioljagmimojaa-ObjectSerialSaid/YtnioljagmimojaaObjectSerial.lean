/- ObjectSerial returns true, whatever log it is handed; the log reads behind the call as before. -/
import Derived.Test.YtnioljagmimojaaLawV
import Derived.Test.YtnioljagmimojaaRowK
set_option linter.unusedVariables false
namespace Go.Proofs.Ytnioljagmimojaa
open Go.ChangeShapes Go.WideShapes Go.ChangeAt Go.RowKit Cb
open Go.ChangeMaps (open_string shut_string)

set_option maxRecDepth 100000 in
set_option maxHeartbeats 4000000 in
theorem objectSerial_lifted (os : Os) (started : os.Started) (H : Type) (enc : TypeId × Value → H) :
    ReturnsInHanded {} Try.checked os 8 .any (Rows.objectSerialSpec.pre6 enc Try.prog Try.f8 Rows.objectSerialRow.domain false) (Rows.objectSerialSpec.post enc Try.prog Try.f8 Rows.objectSerialRow.apart Rows.objectSerialRow.fresh Rows.objectSerialRow.handsOn Rows.objectSerialRow.again) := by
  refine returnsInHanded_of_change_sized (C := Try.checked) own_knob started (by kernel_rfl) Try.func8
    (ChangeSpec.witness6 (enc := enc) (C := Try.checked) false ⟨#[], #[.slice none 0 0], []⟩ 8 (by kernel_rfl) (by kernel_rfl) (by kernel_rfl) (by kernel_rfl)) ?_
  intro W base args ds gs before hval0 hW _ hsz0 _
  have hsz : (DataW.weightsEach Try.prog (Try.f8.params.toList ++ Rows.objectSerialSpec.plain.varTypes Try.prog) (ds ++ gs)).all (· ≤ reachBytes) = true := hsz0
  clear hsz0
  have hval : ∀ (j : Nat) t v, Try.f8.params[j]? = some t → args[j]? = some v → Value.okWide Try.prog W .any base t v := hval0
  have hW' := hW
  obtain ⟨p, q, hA0, hV, rfl, hfz, _⟩ := hW
  have hA : DataW.TrodAll enc Try.prog W 0 (fun _ => true) true Try.f8.params.toList args.toList ds p := hA0
  rw [Try.params8] at hA hval hsz
  obtain ⟨v0, d0, rfl, rfl, h0⟩ := trodAll_one hA
  obtain ⟨rfl, rfl⟩ := trodVars_none hV
  obtain ⟨ss, s0, hss⟩ := open_log (hval 0 _ _ rfl rfl) h0
  obtain ⟨hn, hm⟩ := sized_texts hsz (j := 0) rfl rfl Try.underlying45 hss
  rw [bytes_string] at hn
  have h0k := h0
  have hlt : ∀ x ∈ p, x.block < W.heap.size := fun x hx => by simpa using hW'.lt x (List.mem_append_left _ hx)
  have hwalk : Calls Try.prog 8 #[v0] W fun e w' => e = .returned (.bool true) ∧ Chg No W w' := by
    simp only [reachBytes] at hn hm
    by_cases hbig : fewB ss = false
    · exact serial_few No v0 ss W s0 (by omega) (fun x hx => by have := hm x hx; omega) hbig
    · exact serial_main No v0 ss W s0 (by simpa using hbig)
  refine hwalk.mono fun e W' ⟨he, hc⟩ => ?_
  subst he
  have hB : Below W.heap.size W W' := hc.below
  refine ⟨_, rfl, _, _, _, [], p, [], hW', ?_, ?_, ?_, hB.frame _, fun h => by cases h⟩
  · exact trodAll_mk1 (shut_bool Try.underlying4 true)
  · exact trodAll_mk1 (Below.trod laidOut (by kernel_rfl) (of_decide_eq_true (by kernel_rfl)) h0k hB hlt)
  · show DataW.TrodVars enc Try.prog W' _ [] [] []
    first | exact ⟨rfl, rfl⟩ | simp [DataW.TrodVars]
theorem objectSerial_holds : Rows.ObjectSerialSaid :=
  OpenClaim.holds_of_wide 8 Try.f8 rfl rfl rfl rfl rfl rfl rfl ⟨rfl, rfl, rfl, rfl, rfl⟩ rfl rfl rfl rfl rfl (by kernel_rfl) Try.func8 (by kernel_rfl)
    (of_decide_eq_true (by kernel_rfl)) (by unfold Func.isWrapper; first | (rw [if_pos (by decide +kernel)]; kernel_rfl) | (rw [if_neg (by decide +kernel)]; exact ⟨rfl, rfl⟩))
    (fun os started H enc _ => objectSerial_lifted os started H enc)

#print axioms objectSerial_holds
end Go.Proofs.Ytnioljagmimojaa
