/- A transaction of the document's that is handed in, opened. -/
import Derived.Test.YtnioljagmimojaaRowK
set_option linter.unusedVariables false
set_option linter.unusedSimpArgs false
namespace Go.Proofs.Ytnioljagmimojaa
open Go.ChangeShapes Go.WideShapes Go.ChangeAt Go.RowKit Cb
open Go.ChangeMaps (open_string shut_string)

theorem int_only {H : Type} {enc : TypeId × Value → H} {w : World} {base : Nat} {spare : Nat → Bool} {held : Bool} : ∀ n u y, DataW.trod enc Try.prog w base spare held n 3 [u] = some y → ∃ a : Int, u = .int .i64 a := fun n u y h => by
  obtain ⟨a, e, _⟩ := DataW.trod_int Try.underlying3 h
  simp only [List.cons.injEq, and_true] at e; exact ⟨a, e⟩
theorem text_only {H : Type} {enc : TypeId × Value → H} {w : World} {base : Nat} {spare : Nat → Bool} {held : Bool} : ∀ n u y, DataW.trod enc Try.prog w base spare held n 9 [u] = some y → ∃ a : ByteArray, u = .string a := fun n u y h => by
  obtain ⟨a, e, _⟩ := DataW.trod_string Try.underlying9 h
  simp only [List.cons.injEq, and_true] at e; exact ⟨a, e⟩
set_option maxRecDepth 100000 in
/-- A transaction of the document's, opened. -/
theorem open_tx {H : Type} {enc : TypeId × Value → H} {w : World} {base b0 : Nat} {spare : Nat → Bool} {held : Bool} {v : Value} {d : DataW H} {ps : List MemPlace} (hval : Value.okWide Try.prog w .any b0 25 v)
    (h : DataW.Trod enc Try.prog w base spare held 25 v d ps) :
    ∃ id vr vw rs ws, v = .agg #[.int .i64 id, vr, vw] ∧ Sl No w vr (rs : List (Int × Int)) ∧ Sl No w vw (ws : List (Int × ByteArray)) ∧ ∃ e0 d1 d2, d = .agg [e0, d1, d2] ∧ (rs = [] ∨ ∃ es sp, d1 = .slice es sp ∧ rs.length ≤ es.length) ∧ (ws = [] ∨ ∃ es sp, d2 = .slice es sp ∧ ws.length ≤ es.length) := by
  obtain ⟨cs, rfl, hcs⟩ := okWide_struct Try.underlying25 hval
  obtain ⟨fuel, h⟩ := h
  obtain ⟨xs, n, _, hdd, hlen, hxl, hf⟩ := DataW.trod_struct Try.underlying25 h
  have c3 : Try.prog.cellsOf 25 = 3 := by kernel_rfl
  have k1 : Try.prog.cellsOf 3 = 1 := by kernel_rfl
  have k2 : Try.prog.cellsOf 22 = 1 := by kernel_rfl
  have k3 : Try.prog.cellsOf 23 = 1 := by kernel_rfl
  have g0 := hf 0 _ rfl
  have g1 := hf 1 _ rfl
  have g2 := hf 2 _ rfl
  clear hf hval h
  simp only [Value.cells] at g0 g1 g2 hlen
  rw [c3] at hlen
  obtain ⟨l, rfl⟩ : ∃ l : List Value, cs = l.toArray := ⟨cs.toList, by simp⟩
  simp only [List.toList_toArray] at g0 g1 g2 hlen
  have hxl3 : xs.length = 3 := hxl
  match l, hlen, xs, hxl3 with
  | [a, b, c], _, [x0, x1, x2], _ =>
    simp only [k1, k2, k3, List.drop_zero, List.drop_succ_cons, List.take_succ_cons, List.take_zero, List.getElem?_cons_zero, List.getElem?_cons_succ] at g0 g1 g2
    obtain ⟨id, rfl⟩ := int_only _ _ _ g0
    obtain ⟨rs, s1, _, l1⟩ := open_rows (α := Int) (β := Int) (Value.int .i64) (Value.int .i64) rfl (fun w x => ⟨[.int .i64 x.1], [.int .i64 x.2], rfl, rfl, rfl⟩) Try.underlying22 Try.underlying52 (by kernel_rfl) rfl rfl k1 k1 int_only int_only g1
    obtain ⟨ws, s2, _, l2⟩ := open_rows (α := Int) (β := ByteArray) (Value.int .i64) Value.string rfl (fun w x => ⟨[.int .i64 x.1], [.string x.2], rfl, rfl, rfl⟩) Try.underlying23 Try.underlying59 (by kernel_rfl) rfl rfl k1 (by kernel_rfl) int_only text_only g2
    exact ⟨id, b, c, rs, ws, rfl, s1, s2, _, _, _, congrArg Prod.fst hdd, l1, l2⟩
end Go.Proofs.Ytnioljagmimojaa
