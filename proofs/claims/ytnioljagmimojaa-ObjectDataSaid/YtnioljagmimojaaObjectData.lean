/- ObjectData returns true, whatever transaction and whatever text it is handed; both arguments read behind the call as before. -/
import Derived.Test.YtnioljagmimojaaLawE
import Derived.Test.YtnioljagmimojaaRow
import Derived.Test.YtnioljagmimojaaRows
import Derived.ProofKit
set_option linter.unusedVariables false
namespace Go.Proofs.Ytnioljagmimojaa
open Go.ChangeShapes Go.WideShapes Go.ChangeAt Go.RowKit Cb
open Go.ChangeMaps (open_string shut_string)

theorem own_knob : ownKnob Try.prog.godebug = none := by kernel_rfl
theorem laidOut : laidOutB Try.prog = true := by kernel_rfl
theorem int_only {H : Type} {enc : TypeId × Value → H} {w : World} {base : Nat} {spare : Nat → Bool} {held : Bool} : ∀ n u y, DataW.trod enc Try.prog w base spare held n 3 [u] = some y → ∃ a : Int, u = .int .i64 a := fun n u y h => by
  obtain ⟨a, e, _⟩ := DataW.trod_int Try.underlying3 h
  simp only [List.cons.injEq, and_true] at e; exact ⟨a, e⟩
theorem text_only {H : Type} {enc : TypeId × Value → H} {w : World} {base : Nat} {spare : Nat → Bool} {held : Bool} : ∀ n u y, DataW.trod enc Try.prog w base spare held n 9 [u] = some y → ∃ a : ByteArray, u = .string a := fun n u y h => by
  obtain ⟨a, e, _⟩ := DataW.trod_string Try.underlying9 h
  simp only [List.cons.injEq, and_true] at e; exact ⟨a, e⟩
set_option maxRecDepth 100000 in
/-- A transaction of the document's, opened. -/
theorem open_tx {H : Type} {enc : TypeId × Value → H} {w : World} {base b0 : Nat} {spare : Nat → Bool} {held : Bool} {v : Value} {d : DataW H} {ps : List MemPlace} (hval : Value.okWide Try.prog w .any b0 25 v)
    (h : DataW.Trod enc Try.prog w base spare held 25 v d ps) :
    ∃ id vr vw rs ws, v = .agg #[.int .i64 id, vr, vw] ∧ Sl No w vr (rs : List (Int × Int)) ∧ Sl No w vw (ws : List (Int × ByteArray)) ∧ ∃ e0 d1 d2, d = .agg [e0, d1, d2] ∧ (rs = [] ∨ ∃ es sp, d1 = .slice es sp ∧ rs.length ≤ es.length) ∧ (ws = [] ∨ ∃ es sp, d2 = .slice es sp ∧ ws.length ≤ es.length) := by
  obtain ⟨cs, rfl, hcs⟩ := okWide_struct Try.underlying25 hval
  obtain ⟨fuel, h⟩ := h
  obtain ⟨xs, n, _, hdd, hlen, hxl, hf⟩ := DataW.trod_struct Try.underlying25 h
  have c3 : Try.prog.cellsOf 25 = 3 := by kernel_rfl
  have k1 : Try.prog.cellsOf 3 = 1 := by kernel_rfl
  have k2 : Try.prog.cellsOf 22 = 1 := by kernel_rfl
  have k3 : Try.prog.cellsOf 23 = 1 := by kernel_rfl
  have g0 := hf 0 _ rfl
  have g1 := hf 1 _ rfl
  have g2 := hf 2 _ rfl
  clear hf hval h
  simp only [Value.cells] at g0 g1 g2 hlen
  rw [c3] at hlen
  obtain ⟨l, rfl⟩ : ∃ l : List Value, cs = l.toArray := ⟨cs.toList, by simp⟩
  simp only [List.toList_toArray] at g0 g1 g2 hlen
  have hxl3 : xs.length = 3 := hxl
  match l, hlen, xs, hxl3 with
  | [a, b, c], _, [x0, x1, x2], _ =>
    simp only [k1, k2, k3, List.drop_zero, List.drop_succ_cons, List.take_succ_cons, List.take_zero, List.getElem?_cons_zero, List.getElem?_cons_succ] at g0 g1 g2
    obtain ⟨id, rfl⟩ := int_only _ _ _ g0
    obtain ⟨rs, s1, _, l1⟩ := open_rows (α := Int) (β := Int) (Value.int .i64) (Value.int .i64) rfl (fun w x => ⟨[.int .i64 x.1], [.int .i64 x.2], rfl, rfl, rfl⟩) Try.underlying22 Try.underlying52 (by kernel_rfl) rfl rfl k1 k1 int_only int_only g1
    obtain ⟨ws, s2, _, l2⟩ := open_rows (α := Int) (β := ByteArray) (Value.int .i64) Value.string rfl (fun w x => ⟨[.int .i64 x.1], [.string x.2], rfl, rfl, rfl⟩) Try.underlying23 Try.underlying59 (by kernel_rfl) rfl rfl k1 (by kernel_rfl) int_only text_only g2
    exact ⟨id, b, c, rs, ws, rfl, s1, s2, _, _, _, congrArg Prod.fst hdd, l1, l2⟩
set_option maxRecDepth 100000 in
set_option maxHeartbeats 4000000 in
theorem objectData_lifted (os : Os) (started : os.Started) (H : Type) (enc : TypeId × Value → H) :
    ReturnsInHanded {} Try.checked os 3 .any (Rows.objectDataSpec.pre6 enc Try.prog Try.f3 Rows.objectDataRow.domain false) (Rows.objectDataSpec.post enc Try.prog Try.f3 Rows.objectDataRow.apart Rows.objectDataRow.fresh Rows.objectDataRow.handsOn Rows.objectDataRow.again) := by
  refine returnsInHanded_of_change_sized (C := Try.checked) own_knob started (by kernel_rfl) Try.func3
    (ChangeSpec.witness6 (enc := enc) (C := Try.checked) false ⟨#[], #[.agg #[.int .i64 0, .slice none 0 0, .slice none 0 0], .string ⟨#[]⟩], []⟩ 8 (by kernel_rfl) (by kernel_rfl) (by kernel_rfl) (by kernel_rfl)) ?_
  intro W base args ds gs before hval0 hW _ hsz0 _
  have hsz : (DataW.weightsEach Try.prog (Try.f3.params.toList ++ Rows.objectDataSpec.plain.varTypes Try.prog) (ds ++ gs)).all (· ≤ reachBytes) = true := hsz0
  clear hsz0
  have hval : ∀ (j : Nat) t v, Try.f3.params[j]? = some t → args[j]? = some v → Value.okWide Try.prog W .any base t v := hval0
  have hW' := hW
  obtain ⟨p, q, hA0, hV, rfl, hfz, _⟩ := hW
  have hA : DataW.TrodAll enc Try.prog W 0 (fun _ => true) true Try.f3.params.toList args.toList ds p := hA0
  rw [Try.params3] at hA hval hsz
  obtain ⟨v0, v1, d0, d1, p0, p1, rfl, rfl, rfl, h0, h1⟩ := trodAll_two hA
  obtain ⟨rfl, rfl⟩ := trodVars_none hV
  obtain ⟨id, vr, vw, rs, ws, rfl, sr, sw, e0, d1, d2, rfl, lr0, lw0⟩ := open_tx (hval 0 _ _ rfl rfl) h0
  have hsz' := sized_struct hsz (j := 0) (t := 25) rfl rfl Try.underlying25
  have lr := sized_rows hsz' (j := 1) (t := 22) (e := 52) rfl rfl Try.underlying22 lr0
  have lw := sized_rows hsz' (j := 2) (t := 23) (e := 59) rfl rfl Try.underlying23 lw0
  rw [show Try.prog.bytesOf 52 = 16 by kernel_rfl] at lr
  rw [show Try.prog.bytesOf 59 = 24 by kernel_rfl] at lw
  have h0k := h0
  have h1k := h1
  obtain ⟨s, rfl, rfl, rfl, wsz⟩ := open_string Try.underlying9 (hval 1 _ _ rfl rfl) h1
  have hlt : ∀ x ∈ p0, x.block < W.heap.size := fun x hx => by simpa using hW'.lt x (List.mem_append_left _ (List.mem_append_left _ hx))
  have hwalk : Calls Try.prog 3 #[.agg #[.int .i64 id, vr, vw], .string s] W fun e w' => e = .returned (.bool true) ∧ Chg No W w' := by
    by_cases hbig : 100 < rs.length + ws.length ∨ 5000 < s.size
    · obtain ⟨AR, cR, rfl⟩ := sr.slice
      obtain ⟨AW, cW, rfl⟩ := sw.slice
      exact objectdata_big id AR AW _ cR _ cW s W (by simp only [reachBytes] at lr; omega) (by simp only [reachBytes] at lw; omega) hbig
    · exact objectdata_small No id vr vw rs ws s W sr sw (by omega) (by omega)
  refine hwalk.mono fun e W' ⟨he, hc⟩ => ?_
  subst he
  have hB : Below W.heap.size W W' := hc.below
  refine ⟨_, rfl, _, _, _, [], p0 ++ [], [], hW', ?_, ?_, ?_, hB.frame _, fun h => by cases h⟩
  · exact trodAll_mk1 (shut_bool Try.underlying4 true)
  · exact trodAll_mk2 (Below.trod laidOut (by kernel_rfl) (of_decide_eq_true (by kernel_rfl)) h0k hB hlt) (Below.trod laidOut (by kernel_rfl) (of_decide_eq_true (by kernel_rfl)) h1k hB (fun x hx => by cases hx))
  · show DataW.TrodVars enc Try.prog W' _ [] [] []
    first | exact ⟨rfl, rfl⟩ | simp [DataW.TrodVars]
theorem objectData_holds : Rows.ObjectDataSaid :=
  OpenClaim.holds_of_wide 3 Try.f3 rfl rfl rfl rfl rfl rfl rfl ⟨rfl, rfl, rfl, rfl, rfl⟩ rfl rfl rfl rfl rfl (by kernel_rfl) Try.func3 (by kernel_rfl)
    (of_decide_eq_true (by kernel_rfl)) (by unfold Func.isWrapper; first | (rw [if_pos (by decide +kernel)]; kernel_rfl) | (rw [if_neg (by decide +kernel)]; exact ⟨rfl, rfl⟩))
    (fun os started H enc _ => objectData_lifted os started H enc)

#print axioms objectData_holds
end Go.Proofs.Ytnioljagmimojaa
