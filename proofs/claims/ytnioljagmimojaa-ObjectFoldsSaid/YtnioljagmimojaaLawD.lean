/- The statement ObjectData, walked. -/
import Derived.Test.YtnioljagmimojaaLawA
set_option linter.unusedVariables false
set_option linter.unusedSimpArgs false
namespace Go.Proofs.Ytnioljagmimojaa
open Go.RowKit Cb

def dataS (id : Int) (rs : List (Int × Int)) (ws : List (Int × ByteArray)) : ByteArray := if rightB id rs ws = true then ⟨(encTx id rs ws).toArray⟩ else ⟨#[]⟩
def dataE (id : Int) (rs : List (Int × Int)) (ws : List (Int × ByteArray)) : Int := if rightB id rs ws = true then 0 else 1
theorem data_both (F : Nat → Prop) (id : Int) (vr vw : Value) (rs : List (Int × Int)) (ws : List (Int × ByteArray)) (w : World) (hr : Sl F w vr rs) (hw : Sl F w vw ws) (hl : rs.length * 16 ≤ 140737488351232) (hl2 : ws.length * 16 ≤ 140737488351232) :
    Calls Try.prog 12 #[.agg #[.int .i64 id, vr, vw]] w fun e w' => e = .returned (.tuple #[.string (dataS id rs ws), .int .i64 (dataE id rs ws)]) ∧ Chg No w w' := by
  unfold dataS dataE
  by_cases h : rightB id rs ws = true
  · simp only [if_pos h]; exact data_yes F id vr vw rs ws w hr hw h
  · simp only [if_neg h]; exact data_no F id vr vw rs ws w hr hw hl hl2 (by simpa using h)
theorem refdata_both (F : Nat → Prop) (id : Int) (vr vw : Value) (rs : List (Int × Int)) (ws : List (Int × ByteArray)) (w : World) (hr : Sl F w vr rs) (hw : Sl F w vw ws) :
    Calls Try.prog 14 #[.agg #[.int .i64 id, vr, vw]] w fun e w' => e = .returned (.tuple #[.string (dataS id rs ws), .int .i64 (dataE id rs ws)]) ∧ Chg No w w' := by
  unfold dataS dataE
  by_cases h : rightB id rs ws = true
  · simp only [if_pos h]; exact refdata_yes F id vr vw rs ws w hr hw h
  · simp only [if_neg h]; exact refdata_no F id vr vw rs ws w hr hw (by simpa using h)
def parseO (bs : List UInt8) : Tx := (parseR bs).getD (0, [], [])
def parseE (bs : List UInt8) : Int := if (parseR bs).isSome then 0 else 1
def TxPost (bs : List UInt8) (w : World) (e : Ending) (w' : World) : Prop :=
  ∃ v1 v2, e = .returned (.tuple #[.agg #[.int .i64 (parseO bs).1, v1, v2], .int .i64 (parseE bs)]) ∧ Chg No w w' ∧ Sl No w' v1 (parseO bs).2.1 ∧ Sl No w' v2 (parseO bs).2.2
theorem parse_both (s : ByteArray) (w : World) (hs : s.size ≤ 1000000) : Calls Try.prog 15 #[.string s] w (TxPost s.data.toList w) := by
  refine (parse_any s w hs).mono ?_
  rintro e w1 (⟨id, rs, ws, vr, vw, hP, rfl, hc, h1, h2⟩ | ⟨hP, rfl, hc⟩)
  · refine ⟨vr, vw, ?_, hc, ?_, ?_⟩
    · simp [parseO, parseE, hP]
    · simp only [parseO, hP, Option.getD_some]; exact h1.no
    · simp only [parseO, hP, Option.getD_some]; exact h2.no
  · refine ⟨_, _, by simp [parseO, parseE, hP]; exact ⟨rfl, rfl⟩, hc, ?_, ?_⟩
    · simp only [parseO, hP, Option.getD_none]; exact Sl.nil _ _ _ _
    · simp only [parseO, hP, Option.getD_none]; exact Sl.nil _ _ _ _
theorem refparse_both (s : ByteArray) (w : World) : Calls Try.prog 16 #[.string s] w (TxPost s.data.toList w) := by
  refine (refparse_any s w).mono ?_
  rintro e w1 (⟨id, rs, ws, vr, vw, hP, rfl, hc, h1, h2⟩ | ⟨hP, rfl, hc⟩)
  · rw [refParse_eq] at hP
    refine ⟨vr, vw, ?_, hc, ?_, ?_⟩
    · simp [parseO, parseE, hP]
    · simp only [parseO, hP, Option.getD_some]; exact h1.no
    · simp only [parseO, hP, Option.getD_some]; exact h2.no
  · rw [refParse_eq] at hP
    refine ⟨_, _, by simp [parseO, parseE, hP]; exact ⟨rfl, rfl⟩, hc, ?_, ?_⟩
    · simp only [parseO, hP, Option.getD_none]; exact Sl.nil _ _ _ _
    · simp only [parseO, hP, Option.getD_none]; exact Sl.nil _ _ _ _
theorem parseO_len (bs : List UInt8) : (parseO bs).2.1.length ≤ 16 ∧ (parseO bs).2.2.length ≤ 16 := by
  unfold parseO
  cases h : parseR bs with
  | none => simp
  | some t => have := rightB_iff (parseR_right' h); exact ⟨this.2.2.1, this.2.2.2.2⟩
theorem dataS_size (id : Int) (rs : List (Int × Int)) (ws : List (Int × ByteArray)) : (dataS id rs ws).size ≤ 1000000 := by
  unfold dataS
  by_cases h : rightB id rs ws = true
  · rw [if_pos h]; exact encB_size (t := (id, rs, ws)) h
  · rw [if_neg h]; decide
theorem dataS_parse {id : Int} {rs : List (Int × Int)} {ws : List (Int × ByteArray)} (h : rightB id rs ws = true) : parseO (dataS id rs ws).data.toList = (id, rs, ws) ∧ parseE (dataS id rs ws).data.toList = 0 := by
  have := parse_enc (t := (id, rs, ws)) h
  unfold dataS parseO parseE
  rw [if_pos h]
  simp only at this ⊢
  rw [this]; exact ⟨rfl, rfl⟩
end Go.Proofs.Ytnioljagmimojaa
