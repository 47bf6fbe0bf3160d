/- Walks of package pack: what writes. -/
import Derived.Test.YtlpnbbjmcmjkpaaProg
import Derived.Test.YtlpnbbjmcmjkpaaEng2
import Derived.Lib.Hide
import Derived.OwnWalk
import Derived.Tactics
import Derived.WalkKit
import Derived.KernelRfl
import Derived.RowKit3
import Derived.Lib.Hide
import Derived.Outline
import Derived.Laws.BitsAllLaws
namespace Go.Proofs.Ytlpnbbjmcmjkpaa
open Go.RowKit Cb

theorem right_yes (F : Nat → Prop) (v : Value) (xs : List Int) (w : World) (hv : Sl F w v xs) (hl : xs.length ≤ 9223372036854775807) (hr : ∀ n ∈ xs, 0 ≤ n ∧ n ≤ 4611686018427387904) :
    Calls Try.prog 65 #[v] w fun e w' => e = .returned (.bool true) ∧ w = w' := by
  obtain ⟨A, c, rfl, hc, hcell⟩ := id hv
  go_enter Try.func65, Try.ntmps65
  go_wp2
  go_loop [7] (fun v7 => ∃ k : Nat, k ≤ xs.length ∧ v7 = .int .i64 k) (fun v7 => xs.length - (intOf v7).toNat)
  case atStart => exact ⟨0, by omega, rfl⟩
  case round =>
    obtain ⟨k, hk, rfl⟩ := hrel
    by_cases hlt : k < xs.length
    · obtain ⟨b, o, d, rfl, _, _, rfl, ha⟩ := hv.get k hlt
      have ha := ha 0 _ rfl
      simp only [show Rep.n Int = 1 from rfl, Nat.mul_one, Nat.add_zero] at ha
      have hx := hr xs[k] (List.getElem_mem hlt)
      generalize xs[k] = x at ha hx
      obtain ⟨hx0, hx1⟩ := hx
      clear hr hv hcell
      go_wp2
      go_round
      case rel => exact ⟨k + 1, by omega, by go_num⟩
      case measure => simp [intOf]; omega
    · clear hr hv hcell
      go_wp2
      go_ret
      exact ⟨rfl, rfl⟩
theorem right_no (F : Nat → Prop) (v : Value) (xs : List Int) (w : World) (hv : Sl F w v xs) (hl : xs.length ≤ 9223372036854775807) (j : Nat) (hj : j < xs.length) (hb : xs[j] < 0 ∨ 4611686018427387904 < xs[j]) (hr : ∀ i (h : i < j), 0 ≤ xs[i] ∧ xs[i] ≤ 4611686018427387904) :
    Calls Try.prog 65 #[v] w fun e w' => e = .returned (.bool false) ∧ w = w' := by
  obtain ⟨A, c, rfl, hc, hcell⟩ := id hv
  go_enter Try.func65, Try.ntmps65
  go_wp2
  go_loop [7] (fun v7 => ∃ k : Nat, k ≤ j ∧ v7 = .int .i64 k) (fun v7 => xs.length - (intOf v7).toNat)
  case atStart => exact ⟨0, by omega, rfl⟩
  case round =>
    obtain ⟨k, hk, rfl⟩ := hrel
    have hlt : k < xs.length := by omega
    obtain ⟨b, o, d, rfl, _, _, rfl, ha⟩ := hv.get k hlt
    have ha := ha 0 _ rfl
    simp only [show Rep.n Int = 1 from rfl, Nat.mul_one, Nat.add_zero] at ha
    by_cases hkj : k < j
    · have hx := hr k hkj
      generalize xs[k] = x at ha hx
      obtain ⟨hx0, hx1⟩ := hx
      clear hr hv hcell hb
      go_wp2
      go_round
      case rel => exact ⟨k + 1, by omega, by go_num⟩
      case measure => simp [intOf]; omega
    · obtain rfl : k = j := by omega
      generalize xs[k] = x at ha hb
      clear hr hv hcell
      rcases hb with hb | hb
      all_goals
        go_wp2
        go_ret
        exact ⟨rfl, rfl⟩

def byteV (b : UInt8) : Value := .int .u8 b.toNat
def encNat (n : Nat) : List UInt8 := if n < 128 then [UInt8.ofNat n] else UInt8.ofNat (n % 128 + 128) :: encNat (n / 128)
def encs (xs : List Int) : List UInt8 := (xs.map fun n => encNat n.toNat).flatten
theorem info_u8 : Info Try.prog 5 (.int .u8 0) 1 1 := by unfold Info; kernel_rfl
theorem encs_snoc (xs : List Int) (k : Nat) (h : k < xs.length) : encs (xs.take (k + 1)) = encs (xs.take k) ++ encNat (xs[k]).toNat := by
  unfold encs; rw [List.take_succ_eq_append_getElem h, List.map_append, List.flatten_append]; simp
theorem or128 : ∀ a < 256, a ||| 128 = a % 128 + 128 := by decide +kernel
theorem byte_or (m : Nat) : bits BinOp.or IntKind.u8 ((m : Int) % 256) 128 = ((UInt8.ofNat (m % 128 + 128)).toNat : Int) := by
  rw [show ((m : Int) % 256) = ((m % 256 : Nat) : Int) by omega, show (128 : Int) = ((128 : Nat) : Int) from rfl, u8_or_nat _ _ (by omega) (by omega), or128 _ (by omega)]
  simp [UInt8.toNat_ofNat']; omega
theorem byte_plain (m : Nat) (h : m < 128) : (m : Int) = ((UInt8.ofNat m).toNat : Int) := by simp [UInt8.toNat_ofNat']; omega
theorem encNat_ge (m : Nat) (h : 128 ≤ m) : encNat m = UInt8.ofNat (m % 128 + 128) :: encNat (m / 128) := by rw [encNat, if_neg (by omega)]
theorem encNat_lt (m : Nat) (h : m < 128) : encNat m = [UInt8.ofNat m] := by rw [encNat, if_pos h]
theorem encNat_len (j : Nat) : ∀ m, m < 128 ^ j → 0 < j → (encNat m).length ≤ j := by
  induction j with
  | zero => intro m _ h; omega
  | succ j ih =>
    intro m hm _
    by_cases h : m < 128
    · rw [encNat_lt m h]; simp
    · rw [encNat_ge m (by omega)]
      have : 0 < j := by rcases Nat.eq_zero_or_pos j with rfl | h'; simp at hm; omega; exact h'
      have := ih (m / 128) (by rw [Nat.pow_succ] at hm; omega) this
      simp; omega
theorem encNat_len9 (m : Nat) (h : m ≤ 4611686018427387904) : (encNat m).length ≤ 9 := encNat_len 9 m (by omega) (by omega)
theorem encs_len (xs : List Int) (hr : ∀ n ∈ xs, 0 ≤ n ∧ n ≤ 4611686018427387904) : (encs xs).length ≤ 9 * xs.length := by
  induction xs with
  | nil => simp [encs]
  | cons x r ih =>
    have h1 := ih (fun n hn => hr n (by simp [hn])); have h2 := hr x (by simp)
    have h3 := encNat_len9 x.toNat (by omega)
    simp only [encs, List.map_cons, List.flatten_cons, List.length_append, List.length_cons] at h1 ⊢; omega

set_option maxRecDepth 100000 in
set_option maxHeartbeats 1000000 in
theorem num_any (F : Nat → Prop) (base : Nat) (bs : List UInt8) (v l : Value) (xs : List Int) (w : World) (hv : Sl (OB v) w l xs) (hr : ∀ n ∈ xs, 0 ≤ n ∧ n ≤ 4611686018427387904)
    (ho : Own F w base 5 v bs) (hbase : base ≤ w.heap.size) (hroom : bs.length + 10 * xs.length ≤ 100000000000000) :
    Calls Try.prog 53 #[v, l] w fun e w' => ∃ v', e = .returned (.tuple #[v', .bool true]) ∧ Own F w' base 5 v' (bs ++ encs xs) ∧ Grew w w' v v' := by
  obtain ⟨A, c, rfl, hc, hcell⟩ := id hv
  go_enter Try.func53, Try.ntmps53
  go_wp2_with (go_at_call 65; refine (right_yes _ _ _ _ hv (by omega) hr).mono ?_; rintro e w' ⟨rfl, rfl⟩)
  have Hr := Lib.hid hr; clear hr
  go_loopw [0, 7, 14] (fun v0 _ v14 wr => ∃ k : Nat, k ≤ xs.length ∧ v14 = .int .i64 k ∧ Own F wr base 5 v0 (bs ++ encs (xs.take k)) ∧ Grew w wr v v0) (fun _ _ v14 _ => xs.length - (intOf v14).toNat)
  case atStart => exact ⟨0, by omega, rfl, by simpa [encs] using ho, Grew.refl _ _⟩
  case round =>
    obtain ⟨k, hk, rfl, ho1, hg1⟩ := hrel
    by_cases hlt : k < xs.length
    · obtain ⟨b, o, d, rfl, hbF, hbl, rfl, ha⟩ := hv.get k hlt
      have ha := ha 0 _ rfl
      simp only [show Rep.n Int = 1 from rfl, Nat.mul_one, Nat.add_zero] at ha
      have hx := Hr.out xs[k] (List.getElem_mem hlt)
      have Henc := Lib.hid (encs_snoc xs k hlt)
      have hel := encs_len (xs.take k) (fun n hn => Hr.out n (List.mem_of_mem_take hn))
      have ha' := hg1.chg.cell ha hbF
      clear ha
      generalize xs[k] = x at ha' hx Henc
      obtain ⟨hx0, hx1⟩ := hx
      have hx9 := encNat_len9 x.toNat (by omega)
      rw [List.length_take] at hel
      clear hv hcell
      go_wp2
      generalize encs (xs.take k) = es at ho1 Henc hel
      obtain ⟨wo, rfl⟩ : ∃ wo : World, wo = wr := ⟨_, rfl⟩
      go_loopw [0, 7] (fun v0 v7 wr => ∃ (m : Nat) (p : List UInt8), m ≤ 4611686018427387904 ∧ v7 = .int .i64 m ∧ Own F wr base 5 v0 (bs ++ (es ++ p)) ∧ Grew w wr v v0 ∧ p ++ encNat m = encNat x.toNat) (fun _ v7 _ => (intOf v7).toNat)
      case atStart => exact ⟨x.toNat, [], by omega, by go_num, by simpa using ho1, hg1, by simp⟩
      case round =>
        obtain ⟨m, p, hm, rfl, ho2, hg2, hp⟩ := hrel
        have hpl : p.length + (encNat m).length ≤ 9 := by rw [← List.length_append, hp]; exact hx9
        have Hp := Lib.hid hp; clear hp
        by_cases hge : 128 ≤ m
        · go_wp2_with (with_reducible refine stop_append ?_)
          refine step_append_flat (α := UInt8) Try.underlying36 info_u8 rfl (ho2.alloc _) rfl rfl (Sl.lit1 (F := No) (y := UInt8.ofNat (m % 128 + 128)) (by rw [byte_or]) rfl (not_no _)) (by simp; omega) (by simp; omega) (by have := hg2.by_.size; simp; omega) ?_
          intro v1 w1 ho3 hg3
          go_wp2
          go_roundw
          case rel => exact ⟨m / 128, p ++ [UInt8.ofNat (m % 128 + 128)], by omega, by go_num, by simpa using ho3, (hg2.alloc _).trans hg3, by rw [← Hp.out, encNat_ge m hge]; simp⟩
          case measure => simp [intOf]; omega
        · go_wp2_with (with_reducible refine stop_append ?_)
          refine step_append_flat (α := UInt8) Try.underlying36 info_u8 rfl (ho2.alloc _) rfl rfl (Sl.lit1 (F := No) (y := UInt8.ofNat m) (by rw [byte_plain m (by omega)]) rfl (not_no _)) (by simp; omega) (by simp; omega) (by have := hg2.by_.size; simp; omega) ?_
          intro v1 w1 ho3 hg3
          have hb : bs ++ (es ++ p) ++ [UInt8.ofNat m] = bs ++ encs (xs.take (k + 1)) := by rw [Henc.out, ← Hp.out, encNat_lt m (by omega)]; simp
          rw [hb] at ho3
          clear hb
          go_wp2
          go_roundw
          case rel => exact ⟨k + 1, by omega, by go_num, ho3, (hg2.alloc _).trans hg3⟩
          case measure => simp [intOf]; omega
    · clear hv hcell
      go_wp2
      go_ret2
      rw [List.take_of_length_le (by omega)] at ho1
      exact ⟨_, rfl, ho1, hg1⟩

def encText (s : ByteArray) : List UInt8 := encNat s.size ++ s.data.toList
theorem encs_one (n : Int) : encs [n] = encNat n.toNat := by simp [encs]
end Go.Proofs.Ytlpnbbjmcmjkpaa
