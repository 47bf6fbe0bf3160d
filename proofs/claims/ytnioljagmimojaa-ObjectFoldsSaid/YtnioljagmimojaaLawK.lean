/- The store behind a log: plain laws, and Add of any text. -/
import Derived.Test.YtnioljagmimojaaObjH
import Derived.Test.YtnioljagmimojaaLawF
import Derived.Test.YtnioljagmimojaaLawA
import Derived.Test.YtnioljagmimojaaLawD
set_option linter.unusedVariables false
set_option linter.unusedSimpArgs false
namespace Go.Proofs.Ytnioljagmimojaa
open Go.RowKit Cb

def addAll (s : Store) (xs : List ByteArray) : Store := xs.foldl (fun s d => (addD s d).1) s
theorem addAll_snoc (s : Store) (xs : List ByteArray) (k : Nat) (h : k < xs.length) : addAll s (xs.take (k + 1)) = (addD (addAll s (xs.take k)) xs[k]).1 := by
  unfold addAll; rw [List.take_succ_eq_append_getElem h, List.foldl_append]; rfl
theorem addS_bd {B : Int} {s : Store} {t : Tx} (h : BdS B s) (ht : t.2.2.length ≤ 16) : BdS (B + 16) (addS s t).1 := by
  obtain ⟨h1, h2, h3⟩ := h
  unfold addS
  split
  · exact ⟨fun f => by have := h1 f; show 0 ≤ verS s f ∧ verS s f ≤ B + 16; omega, h2, by show s.n ≤ B + 16; omega⟩
  · split
    · exact ⟨fun f => by have := h1 f; show 0 ≤ verS s f ∧ verS s f ≤ B + 16; omega, h2, by show s.n ≤ B + 16; omega⟩
    · refine ⟨fun f => ?_, by show 0 ≤ s.n + 1; omega, by show s.n + 1 ≤ B + 16; omega⟩
      have := writeS_bd B s.cs t.2.2 h1 f
      show 0 ≤ verC (writeS s.cs t.2.2) f ∧ verC (writeS s.cs t.2.2) f ≤ B + 16
      omega
theorem parseR_len {bs : List UInt8} {t : Tx} (h : parseR bs = some t) : t.2.2.length ≤ 16 := (rightB_iff (parseR_right h)).2.2.2.2
theorem addD_bd {B : Int} {s : Store} {d : ByteArray} (h : BdS B s) : BdS (B + 16) (addD s d).1 := by
  unfold addD
  cases hp : parseR d.data.toList with
  | none => exact ⟨fun f => by have := h.1 f; show 0 ≤ verS s f ∧ verS s f ≤ B + 16; omega, h.2.1, by have := h.2.2; show s.n ≤ B + 16; omega⟩
  | some t => exact addS_bd h (parseR_len hp)
theorem addAll_bd (xs : List ByteArray) : ∀ k, k ≤ xs.length → BdS (16 * k) (addAll s0 (xs.take k))
  | 0, _ => ⟨fun f => by simp [addAll, verS, s0, mget], by simp [addAll, s0], by simp [addAll, s0]⟩
  | k + 1, h => by
    rw [addAll_snoc s0 xs k (by omega)]
    have := addD_bd (d := xs[k]) (addAll_bd xs k (by omega))
    rw [show (16 : Int) * ((k + 1 : Nat) : Int) = 16 * (k : Int) + 16 by omega]; exact this
theorem BdS.le {B C : Int} {s : Store} (h : BdS B s) (hBC : B ≤ C) : BdS C s := ⟨fun f => by have := h.1 f; omega, h.2.1, by have := h.2.2; omega⟩
def AddAny (p rc ri : Nat) (s : Store) (d : ByteArray) (w : World) (e : Ending) (w' : World) : Prop :=
  e = .returned (.bool (addD s d).2) ∧ Sto w' p rc ri (addD s d).1 ∧ Chg (Sf p rc ri) w w'
theorem add_any (p rc ri : Nat) (s : Store) (data : ByteArray) (w : World) (h : Sto w p rc ri s) (hd : data.size ≤ 1000000) (hbd : BdS 1000000000 s) :
    Calls Try.prog 23 #[.pointer (some ⟨p, 0, none⟩), .string data] w (AddAny p rc ri s data w) := by
  cases hp : parseR data.data.toList with
  | none =>
    refine (add_none p rc ri s data w h hd hp).mono ?_
    rintro e w1 ⟨rfl, hc⟩
    exact ⟨by simp [addD, hp], by simpa [addD, hp] using h.keepNo hc, hc.of_no⟩
  | some t =>
    refine (add_some p rc ri s data t w h hd hp hbd).mono ?_
    rintro e w1 ⟨rfl, h1, hc⟩
    exact ⟨by simp [addD, hp], by simpa [addD, hp] using h1, hc⟩
theorem addD_enc {s : Store} {t : Tx} (h : rightB t.1 t.2.1 t.2.2 = true) : addD s (encB t) = addS s t := by
  unfold addD; rw [encB_parse h]
theorem data_enc (F G : Nat → Prop) (t : Tx) (h : rightB t.1 t.2.1 t.2.2 = true) (vr vw : Value) (w : World) (hr : Sl F w vr t.2.1) (hw : Sl F w vw t.2.2) :
    Calls Try.prog 12 #[.agg #[.int .i64 t.1, vr, vw]] w fun e w' => e = .returned (.tuple #[.string (encB t), .int .i64 0]) ∧ Chg No w w' := data_yes F t.1 vr vw t.2.1 t.2.2 w hr hw h
/-- What is true of a transaction that was too late. -/
def soonT (f : Int) : Tx := (1099511627775, [], [(f, ⟨#[115, 111, 111, 110]⟩)])
def lateT (f v : Int) : Tx := (1099511627776, [(f, v)], [(f, ⟨#[108, 97, 116, 101]⟩)])
theorem soon_done {s : Store} {f : Int} (h : (mget s.ids 1099511627775).isSome = false) : addS s (soonT f) = (⟨mset s.cs f (⟨#[115, 111, 111, 110]⟩, verS s f + 1), mset s.ids 1099511627775 true, s.n + 1⟩, true) := by
  unfold addS
  rw [if_neg (by rw [show (soonT f).1 = 1099511627775 from rfl, h]; simp), if_neg (by simp [soonT])]
  rfl
theorem late_stale {s : Store} {f : Int} (h : (mget s.ids 1099511627776).isSome = false) :
    addS ⟨mset s.cs f (⟨#[115, 111, 111, 110]⟩, verS s f + 1), mset s.ids 1099511627775 true, s.n + 1⟩ (lateT f (verS s f)) =
      (⟨mset s.cs f (⟨#[115, 111, 111, 110]⟩, verS s f + 1), mset (mset s.ids 1099511627775 true) 1099511627776 false, s.n + 1⟩, true) := by
  unfold addS
  rw [if_neg (by rw [show (lateT f (verS s f)).1 = 1099511627776 from rfl]; simp only [mget_mset]; rw [if_neg (by decide), h]; simp), if_pos (by simp [lateT, staleB, verS, mget_mset]; omega)]
  rfl
end Go.Proofs.Ytnioljagmimojaa
