/- ObjectAsks returns true, whatever log and whatever transaction it is handed; both arguments read behind the call as before. -/
import Derived.Test.YtnioljagmimojaaLawM
import Derived.Test.YtnioljagmimojaaRowT
set_option linter.unusedVariables false
namespace Go.Proofs.Ytnioljagmimojaa
open Go.ChangeShapes Go.WideShapes Go.ChangeAt Go.RowKit Cb
open Go.ChangeMaps (open_string shut_string)

set_option maxRecDepth 100000 in
set_option maxHeartbeats 4000000 in
theorem objectAsks_lifted (os : Os) (started : os.Started) (H : Type) (enc : TypeId × Value → H) :
    ReturnsInHanded {} Try.checked os 4 .any (Rows.objectAsksSpec.pre6 enc Try.prog Try.f4 Rows.objectAsksRow.domain false) (Rows.objectAsksSpec.post enc Try.prog Try.f4 Rows.objectAsksRow.apart Rows.objectAsksRow.fresh Rows.objectAsksRow.handsOn Rows.objectAsksRow.again) := by
  refine returnsInHanded_of_change_sized (C := Try.checked) own_knob started (by kernel_rfl) Try.func4
    (ChangeSpec.witness6 (enc := enc) (C := Try.checked) false ⟨#[], #[.slice none 0 0, .agg #[.int .i64 0, .slice none 0 0, .slice none 0 0]], []⟩ 8 (by kernel_rfl) (by kernel_rfl) (by kernel_rfl) (by kernel_rfl)) ?_
  intro W base args ds gs before hval0 hW _ hsz0 _
  have hsz : (DataW.weightsEach Try.prog (Try.f4.params.toList ++ Rows.objectAsksSpec.plain.varTypes Try.prog) (ds ++ gs)).all (· ≤ reachBytes) = true := hsz0
  clear hsz0
  have hval : ∀ (j : Nat) t v, Try.f4.params[j]? = some t → args[j]? = some v → Value.okWide Try.prog W .any base t v := hval0
  have hW' := hW
  obtain ⟨p, q, hA0, hV, rfl, hfz, _⟩ := hW
  have hA : DataW.TrodAll enc Try.prog W 0 (fun _ => true) true Try.f4.params.toList args.toList ds p := hA0
  rw [Try.params4] at hA hval hsz
  obtain ⟨v0, v1, d0, d1, p0, p1, rfl, rfl, rfl, h0, h1⟩ := trodAll_two hA
  obtain ⟨rfl, rfl⟩ := trodVars_none hV
  obtain ⟨ss, s0, hss⟩ := open_log (hval 0 _ _ rfl rfl) h0
  obtain ⟨hn, hm⟩ := sized_texts hsz (j := 0) rfl rfl Try.underlying45 hss
  rw [bytes_string] at hn
  have h0k := h0
  have h1k := h1
  obtain ⟨id, vr, vw, rs, ws, rfl, sr, sw, e0, d1, d2, rfl, lr0, lw0⟩ := open_tx (hval 1 _ _ rfl rfl) h1
  have hsz' := sized_struct hsz (j := 1) (t := 25) rfl rfl Try.underlying25
  have lr := sized_rows hsz' (j := 1) (t := 22) (e := 52) rfl rfl Try.underlying22 lr0
  have lw := sized_rows hsz' (j := 2) (t := 23) (e := 59) rfl rfl Try.underlying23 lw0
  rw [show Try.prog.bytesOf 52 = 16 by kernel_rfl] at lr
  rw [show Try.prog.bytesOf 59 = 24 by kernel_rfl] at lw
  have hlt : ∀ x ∈ p0, x.block < W.heap.size := fun x hx => by simpa using hW'.lt x (List.mem_append_left _ (List.mem_append_left _ hx))
  have hlt1 : ∀ x ∈ p1, x.block < W.heap.size := fun x hx => by simpa using hW'.lt x (List.mem_append_left _ (List.mem_append_right _ hx))
  have hwalk : Calls Try.prog 4 #[v0, .agg #[.int .i64 id, vr, vw]] W fun e w' => e = .returned (.bool true) ∧ Chg No W w' := by
    simp only [reachBytes] at hn hm lr lw
    by_cases hbig : fewB ss = false ∨ 100 < rs.length + ws.length
    · obtain ⟨AR, cR, rfl⟩ := sr.slice
      obtain ⟨AW, cW, rfl⟩ := sw.slice
      exact asks_few No v0 ss id AR AW _ cR _ cW W s0 (by omega) (fun x hx => by have := hm x hx; omega) (by omega) (by omega) hbig
    · simp only [not_or] at hbig
      exact asks_main No No v0 ss id vr vw rs ws W s0 sr sw (by simpa using hbig.1) (by omega)
  refine hwalk.mono fun e W' ⟨he, hc⟩ => ?_
  subst he
  have hB : Below W.heap.size W W' := hc.below
  refine ⟨_, rfl, _, _, _, [], p0 ++ p1, [], hW', ?_, ?_, ?_, hB.frame _, fun h => by cases h⟩
  · exact trodAll_mk1 (shut_bool Try.underlying4 true)
  · exact trodAll_mk2 (Below.trod laidOut (by kernel_rfl) (of_decide_eq_true (by kernel_rfl)) h0k hB hlt) (Below.trod laidOut (by kernel_rfl) (of_decide_eq_true (by kernel_rfl)) h1k hB hlt1)
  · show DataW.TrodVars enc Try.prog W' _ [] [] []
    first | exact ⟨rfl, rfl⟩ | simp [DataW.TrodVars]
theorem objectAsks_holds : Rows.ObjectAsksSaid :=
  OpenClaim.holds_of_wide 4 Try.f4 rfl rfl rfl rfl rfl rfl rfl ⟨rfl, rfl, rfl, rfl, rfl⟩ rfl rfl rfl rfl rfl (by kernel_rfl) Try.func4 (by kernel_rfl)
    (of_decide_eq_true (by kernel_rfl)) (by unfold Func.isWrapper; first | (rw [if_pos (by decide +kernel)]; kernel_rfl) | (rw [if_neg (by decide +kernel)]; exact ⟨rfl, rfl⟩))
    (fun os started H enc _ => objectAsks_lifted os started H enc)

#print axioms objectAsks_holds
end Go.Proofs.Ytnioljagmimojaa
