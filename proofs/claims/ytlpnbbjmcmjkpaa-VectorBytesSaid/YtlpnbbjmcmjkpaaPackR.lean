/- Walks of package pack: what reads. -/
import Derived.Test.YtlpnbbjmcmjkpaaPackW
import Derived.Laws.Shifts
import Derived.WalkMore
import Derived.Deep.LoopGhost
namespace Go.Proofs.Ytlpnbbjmcmjkpaa
open Go.RowKit Cb

/-- A reader: what is left, and the first error. -/
def Rdr (w : World) (p : Nat) (bs : List UInt8) (e : Int) : Prop :=
  ∃ A c, Sl (Ge p) w (.slice A bs.length c) bs ∧ w.heap[p]? = some (.cells #[.slice A bs.length c, .int .i64 e] 72 (0, 0))
theorem Rdr.keep {w w' : World} {p : Nat} {bs : List UInt8} {e : Int} {F : Nat → Prop} (h : Rdr w p bs e) (hc : Chg F w w') (hF : ∀ k, k < w.heap.size → F k → p ≤ k) (hp : ¬ F p) : Rdr w' p bs e := by
  obtain ⟨A, c, hs, ho⟩ := h
  exact ⟨A, c, hs.keep (hc.weak hF), hc.obj ho hp⟩
def failR (n e : Int) : Int := if e = 0 then n else e
theorem fail_any (p : Nat) (bs : List UInt8) (e n : Int) (w : World) (h : Rdr w p bs e) :
    Calls Try.prog 68 #[.pointer (some ⟨p, 0, none⟩), .int .i64 n] w fun e' w' => e' = .returned (.tuple #[]) ∧ Rdr w' p bs (failR n e) ∧ Chg (At p) w w' := by
  obtain ⟨A, c, hs, ho⟩ := h
  have h1 := cell_obj (i := 1) ho rfl
  have h2 := free_obj (i := 1) ho
  have Ho := Lib.hid ho
  clear ho
  by_cases he : e = 0
  · subst he
    go_enter Try.func68, Try.ntmps68
    go_wp2
    go_end0
    exact ⟨rfl, ⟨A, c, hs.keep (chg_ge _), by rw [set_obj Ho.out]; rfl⟩, chg_set _⟩
  · have he' : (e == 0) = false := by simpa using he
    go_enter Try.func68, Try.ntmps68
    go_wp2
    go_end0
    exact ⟨rfl, ⟨A, c, hs, by rw [Ho.out]; simp [failR, he]⟩, Chg.refl _ _⟩

def takeR (n : Nat) (bs : List UInt8) (e : Int) : List UInt8 × List UInt8 × Int := if e = 0 ∧ n ≤ bs.length then (bs.take n, bs.drop n, 0) else ([], bs, failR 20 e)
theorem take_yes (p : Nat) (bs : List UInt8) (n : Nat) (w : World) (h : Rdr w p bs 0) (hn : n ≤ bs.length) :
    Calls Try.prog 67 #[.pointer (some ⟨p, 0, none⟩), .int .i64 n] w fun e' w' => ∃ A c, e' = .returned (.slice A n c) ∧ Sl (Ge p) w' (.slice A n c) (bs.take n) ∧ Rdr w' p (bs.drop n) 0 ∧ Chg (At p) w w' := by
  obtain ⟨A, c, hs, ho⟩ := h
  have h0 := cell_obj (i := 0) ho rfl
  have h1 := cell_obj (i := 1) ho rfl
  have h2 := free_obj (i := 0) ho
  have Ho := Lib.hid ho
  clear ho
  go_enter Try.func67, Try.ntmps67
  go_wp2_with (first | (with_reducible refine stop_append ?_) | (with_reducible refine stop_copy ?_) | (with_reducible refine stop_make ?_) | (with_reducible refine stop_lookup ?_) | (with_reducible refine stop_update ?_) | (with_reducible refine stop_slice ?_) | (with_reducible refine stop_range ?_) | (with_reducible refine stop_next ?_) | (with_reducible refine stop_convert ⟨_, rfl⟩ ?_) | (with_reducible refine stop_convertB ⟨_, _, _, rfl⟩ ?_) | (with_reducible refine stop_eqSlice ⟨_, _, rfl⟩ ?_))
  refine step_slice Try.underlying36 info_u8 hs rfl Bound.none (Bound.some (k := n) rfl) (Nat.zero_le _) hn ?_
  intro A1 c1 hs1
  go_wp2_with (first | (with_reducible refine stop_append ?_) | (with_reducible refine stop_copy ?_) | (with_reducible refine stop_make ?_) | (with_reducible refine stop_lookup ?_) | (with_reducible refine stop_update ?_) | (with_reducible refine stop_slice ?_) | (with_reducible refine stop_range ?_) | (with_reducible refine stop_next ?_) | (with_reducible refine stop_convert ⟨_, rfl⟩ ?_) | (with_reducible refine stop_convertB ⟨_, _, _, rfl⟩ ?_) | (with_reducible refine stop_eqSlice ⟨_, _, rfl⟩ ?_))
  refine step_slice Try.underlying36 info_u8 hs rfl (Bound.some (k := n) rfl) Bound.none hn (Nat.le_refl _) ?_
  intro A2 c2 hs2
  go_wp2_with (first | (with_reducible refine stop_append ?_) | (with_reducible refine stop_copy ?_) | (with_reducible refine stop_make ?_) | (with_reducible refine stop_lookup ?_) | (with_reducible refine stop_update ?_) | (with_reducible refine stop_slice ?_) | (with_reducible refine stop_range ?_) | (with_reducible refine stop_next ?_) | (with_reducible refine stop_convert ⟨_, rfl⟩ ?_) | (with_reducible refine stop_convertB ⟨_, _, _, rfl⟩ ?_) | (with_reducible refine stop_eqSlice ⟨_, _, rfl⟩ ?_))
  go_ret
  simp only [Nat.sub_zero, List.drop_zero, List.take_length] at hs1 hs2
  have hl : (bs.drop n).length = bs.length - n := List.length_drop
  exact ⟨_, _, rfl, hs1.keep (chg_ge _), ⟨A2, c2, by rw [hl]; exact hs2.keep (chg_ge _), by rw [set_obj Ho.out, hl]; rfl⟩, chg_set _⟩
theorem take_no (p : Nat) (bs : List UInt8) (e : Int) (n : Nat) (w : World) (h : Rdr w p bs e) (hn : e ≠ 0 ∨ bs.length < n) :
    Calls Try.prog 67 #[.pointer (some ⟨p, 0, none⟩), .int .i64 n] w fun e' w' => e' = .returned (.slice none 0 0) ∧ Rdr w' p bs (failR 20 e) ∧ Chg (At p) w w' := by
  have h' := h
  obtain ⟨A, c, hs, ho⟩ := h
  have h0 := cell_obj (i := 0) ho rfl
  have h1 := cell_obj (i := 1) ho rfl
  clear ho
  by_cases he : e = 0
  · have hn : bs.length < n := hn.resolve_left (fun f => f he)
    subst he
    go_enter Try.func67, Try.ntmps67
    go_wp2_with (first | (with_reducible refine stop_append ?_) | (with_reducible refine stop_copy ?_) | (with_reducible refine stop_make ?_) | (with_reducible refine stop_lookup ?_) | (with_reducible refine stop_update ?_) | (with_reducible refine stop_slice ?_) | (with_reducible refine stop_range ?_) | (with_reducible refine stop_next ?_) | (with_reducible refine stop_convert ⟨_, rfl⟩ ?_) | (with_reducible refine stop_convertB ⟨_, _, _, rfl⟩ ?_) | (with_reducible refine stop_eqSlice ⟨_, _, rfl⟩ ?_))
    refine (fail_any p bs 0 20 _ h').mono ?_
    rintro e w1 ⟨rfl, hr, hc⟩
    go_wp2_with (first | (with_reducible refine stop_append ?_) | (with_reducible refine stop_copy ?_) | (with_reducible refine stop_make ?_) | (with_reducible refine stop_lookup ?_) | (with_reducible refine stop_update ?_) | (with_reducible refine stop_slice ?_) | (with_reducible refine stop_range ?_) | (with_reducible refine stop_next ?_) | (with_reducible refine stop_convert ⟨_, rfl⟩ ?_) | (with_reducible refine stop_convertB ⟨_, _, _, rfl⟩ ?_) | (with_reducible refine stop_eqSlice ⟨_, _, rfl⟩ ?_))
    go_ret
    exact ⟨rfl, hr, hc⟩
  · clear hn
    have he' : (e == 0) = false := by simpa using he
    have he2 : (e != 0) = true := by simpa using he
    go_enter Try.func67, Try.ntmps67
    go_wp2_with (first | (with_reducible refine stop_append ?_) | (with_reducible refine stop_copy ?_) | (with_reducible refine stop_make ?_) | (with_reducible refine stop_lookup ?_) | (with_reducible refine stop_update ?_) | (with_reducible refine stop_slice ?_) | (with_reducible refine stop_range ?_) | (with_reducible refine stop_next ?_) | (with_reducible refine stop_convert ⟨_, rfl⟩ ?_) | (with_reducible refine stop_convertB ⟨_, _, _, rfl⟩ ?_) | (with_reducible refine stop_eqSlice ⟨_, _, rfl⟩ ?_))
    refine (fail_any p bs e 20 _ h').mono ?_
    rintro e w1 ⟨rfl, hr, hc⟩
    go_wp2_with (first | (with_reducible refine stop_append ?_) | (with_reducible refine stop_copy ?_) | (with_reducible refine stop_make ?_) | (with_reducible refine stop_lookup ?_) | (with_reducible refine stop_update ?_) | (with_reducible refine stop_slice ?_) | (with_reducible refine stop_range ?_) | (with_reducible refine stop_next ?_) | (with_reducible refine stop_convert ⟨_, rfl⟩ ?_) | (with_reducible refine stop_convertB ⟨_, _, _, rfl⟩ ?_) | (with_reducible refine stop_eqSlice ⟨_, _, rfl⟩ ?_))
    go_ret
    exact ⟨rfl, hr, hc⟩
/-- The next byte: the closure in Num. q: where it keeps the reader's pointer. -/
theorem next_yes (p q : Nat) (b : UInt8) (bs : List UInt8) (w : World) (h : Rdr w p (b :: bs) 0) (hq : w.cell? ⟨q, 0, none⟩ = some (.pointer (some ⟨p, 0, none⟩))) :
    Calls Try.prog 66 #[.pointer (some ⟨q, 0, none⟩)] w fun e' w' => e' = .returned (.tuple #[.int .u8 b.toNat, .bool true]) ∧ Rdr w' p bs 0 ∧ Chg (At p) w w' := by
  go_enter Try.func66, Try.ntmps66
  go_wp2_with (first | (with_reducible refine stop_append ?_) | (with_reducible refine stop_copy ?_) | (with_reducible refine stop_make ?_) | (with_reducible refine stop_lookup ?_) | (with_reducible refine stop_update ?_) | (with_reducible refine stop_slice ?_) | (with_reducible refine stop_range ?_) | (with_reducible refine stop_next ?_) | (with_reducible refine stop_convert ⟨_, rfl⟩ ?_) | (with_reducible refine stop_convertB ⟨_, _, _, rfl⟩ ?_) | (with_reducible refine stop_eqSlice ⟨_, _, rfl⟩ ?_))
  refine (take_yes p (b :: bs) 1 _ h (by simp)).mono ?_
  rintro e w1 ⟨A, c, rfl, hs, hr, hc⟩
  obtain ⟨b', o, d, rfl, _, _, rfl, hcell⟩ := hs.get 0 (by simp)
  have hcell := hcell 0 _ rfl
  simp only [Nat.zero_mul, Nat.add_zero, List.take_succ_cons, List.take_zero, List.getElem_cons_zero] at hcell
  clear hs hq
  go_wp2_with (first | (with_reducible refine stop_append ?_) | (with_reducible refine stop_copy ?_) | (with_reducible refine stop_make ?_) | (with_reducible refine stop_lookup ?_) | (with_reducible refine stop_update ?_) | (with_reducible refine stop_slice ?_) | (with_reducible refine stop_range ?_) | (with_reducible refine stop_next ?_) | (with_reducible refine stop_convert ⟨_, rfl⟩ ?_) | (with_reducible refine stop_convertB ⟨_, _, _, rfl⟩ ?_) | (with_reducible refine stop_eqSlice ⟨_, _, rfl⟩ ?_))
  go_ret2
  exact ⟨rfl, by simpa using hr, hc⟩
theorem next_no (p q : Nat) (bs : List UInt8) (e : Int) (w : World) (h : Rdr w p bs e) (hn : e ≠ 0 ∨ bs = []) (hq : w.cell? ⟨q, 0, none⟩ = some (.pointer (some ⟨p, 0, none⟩))) :
    Calls Try.prog 66 #[.pointer (some ⟨q, 0, none⟩)] w fun e' w' => e' = .returned (.tuple #[.int .u8 0, .bool false]) ∧ Rdr w' p bs (failR 20 e) ∧ Chg (At p) w w' := by
  go_enter Try.func66, Try.ntmps66
  go_wp2_with (first | (with_reducible refine stop_append ?_) | (with_reducible refine stop_copy ?_) | (with_reducible refine stop_make ?_) | (with_reducible refine stop_lookup ?_) | (with_reducible refine stop_update ?_) | (with_reducible refine stop_slice ?_) | (with_reducible refine stop_range ?_) | (with_reducible refine stop_next ?_) | (with_reducible refine stop_convert ⟨_, rfl⟩ ?_) | (with_reducible refine stop_convertB ⟨_, _, _, rfl⟩ ?_) | (with_reducible refine stop_eqSlice ⟨_, _, rfl⟩ ?_))
  refine (take_no p bs e 1 _ h (hn.imp id (fun f => by subst f; simp))).mono ?_
  rintro e w1 ⟨rfl, hr, hc⟩
  go_wp2_with (first | (with_reducible refine stop_append ?_) | (with_reducible refine stop_copy ?_) | (with_reducible refine stop_make ?_) | (with_reducible refine stop_lookup ?_) | (with_reducible refine stop_update ?_) | (with_reducible refine stop_slice ?_) | (with_reducible refine stop_range ?_) | (with_reducible refine stop_next ?_) | (with_reducible refine stop_convert ⟨_, rfl⟩ ?_) | (with_reducible refine stop_convertB ⟨_, _, _, rfl⟩ ?_) | (with_reducible refine stop_eqSlice ⟨_, _, rfl⟩ ?_))
  go_ret2
  exact ⟨rfl, hr, hc⟩

def numGo (limit : Int) : Nat → Nat → List UInt8 → Int × List UInt8 × Int
  | _, _, [] => (0, [], 20)
  | k, n, x :: bs =>
    if (x.toNat < 128 ∧ 0 < k ∧ x.toNat = 0) ∨ (128 ≤ x.toNat ∧ k = 8) then (0, bs, 21)
    else if x.toNat < 128 then
      (if 4611686018427387904 < n + x.toNat % 128 * 128 ^ k ∨ limit < ((n + x.toNat % 128 * 128 ^ k : Nat) : Int) then (0, bs, 21) else (((n + x.toNat % 128 * 128 ^ k : Nat) : Int), bs, 0))
    else numGo limit (k + 1) (n + x.toNat % 128 * 128 ^ k) bs
def numR (limit : Int) (bs : List UInt8) (e : Int) : Int × List UInt8 × Int := if e = 0 then numGo limit 0 0 bs else (0, bs, e)
theorem i64_or_nat (a b : Nat) (ha : a < 9223372036854775808) (hb : b < 9223372036854775808) : bits .or .i64 (a : Int) (b : Int) = ((a ||| b : Nat) : Int) := by
  have hab : a ||| b < 2 ^ 63 := Nat.or_lt_two_pow (by omega) (by omega)
  have h : (BitVec.ofInt 64 (a : Int) ||| BitVec.ofInt 64 (b : Int)).toNat = a ||| b := by
    simp only [BitVec.toNat_or, BitVec.toNat_ofInt]
    rw [show ((a : Int) % ((2 ^ 64 : Nat) : Int)).toNat = a by omega, show ((b : Int) % ((2 ^ 64 : Nat) : Int)).toNat = b by omega]
  have e : bits .or .i64 (a : Int) (b : Int) = IntKind.i64.wrap (((BitVec.ofInt 64 (a : Int) ||| BitVec.ofInt 64 (b : Int)).toNat : Nat) : Int) := rfl
  rw [e, h]
  exact IntWalk.i64_in _ (by omega)
theorem or_shift (n k X : Nat) (hn : n < 128 ^ k) (hk : k ≤ 8) (hX : X < 256) :
    bits BinOp.or IntKind.i64 (n : Int) (wrap64 (wrap64 (bits BinOp.and IntKind.u8 (X : Int) 127) * 2 ^ (7 * k))) = ((n + X % 128 * 128 ^ k : Nat) : Int) := by
  have h1 : bits BinOp.and IntKind.u8 (X : Int) 127 = ((X % 128 : Nat) : Int) := by
    rw [show (127 : Int) = ((127 : Nat) : Int) from rfl, u8_and_nat _ _ hX (by omega), show X &&& 127 = X % 128 from Nat.and_two_pow_sub_one_eq_mod X 7]
  have h128 : (128 : Nat) ^ k = 2 ^ (7 * k) := by rw [show (128 : Nat) = 2 ^ 7 from rfl, ← Nat.pow_mul]
  have hp : 2 ^ (7 * k) ≤ 2 ^ 56 := Nat.pow_le_pow_right (by omega) (by omega)
  have hm : X % 128 * 2 ^ (7 * k) ≤ 127 * 2 ^ 56 := Nat.mul_le_mul (by omega) hp
  rw [h1, IntWalk.wrap64_in ((X % 128 : Nat) : Int) ⟨by omega, by omega⟩, show ((X % 128 : Nat) : Int) * 2 ^ (7 * k) = ((X % 128 * 2 ^ (7 * k) : Nat) : Int) by push_cast; rfl,
    IntWalk.wrap64_in ((X % 128 * 2 ^ (7 * k) : Nat) : Int) ⟨by omega, by omega⟩, h128]
  rw [h128] at hn
  rw [i64_or_nat _ _ (by omega) (by omega)]
  congr 1
  have := Nat.two_pow_add_eq_or_of_lt hn (X % 128)
  rw [Nat.mul_comm] at this
  rw [Nat.or_comm, ← this]; omega
theorem cell_one {w : World} {b : Nat} {v : Value} {T : TypeId} {fz : Nat × Nat} (h : w.heap[b]? = some (.cells #[v] T fz)) : w.cell? ⟨b, 0, none⟩ = some v := cell_obj h rfl

set_option maxRecDepth 100000 in
set_option maxHeartbeats 1000000 in
theorem rnum_any (p : Nat) (bs : List UInt8) (limit : Int) (w : World) (h : Rdr w p bs 0) (_ : 0 ≤ limit) (_ : limit ≤ 4611686018427387904) :
    Calls Try.prog 56 #[.pointer (some ⟨p, 0, none⟩), .int .i64 limit] w fun e' w' => e' = .returned (.int .i64 (numGo limit 0 0 bs).1) ∧ Rdr w' p (numGo limit 0 0 bs).2.1 (numGo limit 0 0 bs).2.2 ∧ Chg (At p) w w' := by
  go_enter Try.func56, Try.ntmps56
  go_wp2_with (first | (with_reducible refine stop_append ?_) | (with_reducible refine stop_copy ?_) | (with_reducible refine stop_make ?_) | (with_reducible refine stop_lookup ?_) | (with_reducible refine stop_update ?_) | (with_reducible refine stop_slice ?_) | (with_reducible refine stop_range ?_) | (with_reducible refine stop_next ?_) | (with_reducible refine stop_convert ⟨_, rfl⟩ ?_) | (with_reducible refine stop_convertB ⟨_, _, _, rfl⟩ ?_) | (with_reducible refine stop_eqSlice ⟨_, _, rfl⟩ ?_))
  go_step3
  go_wp2_with (first | (with_reducible refine stop_append ?_) | (with_reducible refine stop_copy ?_) | (with_reducible refine stop_make ?_) | (with_reducible refine stop_lookup ?_) | (with_reducible refine stop_update ?_) | (with_reducible refine stop_slice ?_) | (with_reducible refine stop_range ?_) | (with_reducible refine stop_next ?_) | (with_reducible refine stop_convert ⟨_, rfl⟩ ?_) | (with_reducible refine stop_convertB ⟨_, _, _, rfl⟩ ?_) | (with_reducible refine stop_eqSlice ⟨_, _, rfl⟩ ?_))
  go_step3
  go_wp2_with (first | (with_reducible refine stop_append ?_) | (with_reducible refine stop_copy ?_) | (with_reducible refine stop_make ?_) | (with_reducible refine stop_lookup ?_) | (with_reducible refine stop_update ?_) | (with_reducible refine stop_slice ?_) | (with_reducible refine stop_range ?_) | (with_reducible refine stop_next ?_) | (with_reducible refine stop_convert ⟨_, rfl⟩ ?_) | (with_reducible refine stop_convertB ⟨_, _, _, rfl⟩ ?_) | (with_reducible refine stop_eqSlice ⟨_, _, rfl⟩ ?_))
  have hlt : p < w.heap.size := by obtain ⟨_, _, _, ho⟩ := h; exact lt_of_heap ho
  have hq : (w.alloc (.cells #[.pointer (some ⟨p, 0, none⟩)] 56)).cell? ⟨w.heap.size, 0, none⟩ = some (.pointer (some ⟨p, 0, none⟩)) := cell_one (alloc_obj _ _)
  have hr0 := h.keep (F := No) ((Chg.refl No w).alloc (.cells #[.pointer (some ⟨p, 0, none⟩)] 56)) (fun _ _ f => f.elim) (not_no _)
  have hc0 := (Chg.refl (At p) w).alloc (.cells #[.pointer (some ⟨p, 0, none⟩)] 56)
  generalize w.alloc (.cells #[.pointer (some ⟨p, 0, none⟩)] 56) = w0 at hq hr0 hc0 ⊢
  have hqp : w.heap.size ≠ p := by omega
  generalize w.heap.size = q at hq hqp ⊢
  clear h
  go_loopw [5, 6] (fun v5 v6 wr => ∃ (k n : Nat) (bs' : List UInt8), v5 = .int .i64 n ∧ v6 = .int .i64 k ∧ k ≤ 8 ∧ n < 128 ^ k ∧ Rdr wr p bs' 0 ∧ numGo limit k n bs' = numGo limit 0 0 bs ∧ Chg (At p) w0 wr ∧ bs'.length + k = bs.length) (fun _ v6 _ => bs.length - (intOf v6).toNat)
  case atStart => exact ⟨0, 0, bs, rfl, rfl, by omega, by omega, hr0, rfl, Chg.refl _ _, rfl⟩
  case round =>
    obtain ⟨k, n, bs', rfl, rfl, hk, hn, hr, hgo, hc, hlen⟩ := hrel
    have hq' := hc.cell hq hqp
    have Hgo := Lib.hid hgo; clear hgo
    cases bs' with
    | nil =>
      go_wp2_with (first | (with_reducible refine stop_append ?_) | (with_reducible refine stop_copy ?_) | (with_reducible refine stop_make ?_) | (with_reducible refine stop_lookup ?_) | (with_reducible refine stop_update ?_) | (with_reducible refine stop_slice ?_) | (with_reducible refine stop_range ?_) | (with_reducible refine stop_next ?_) | (with_reducible refine stop_convert ⟨_, rfl⟩ ?_) | (with_reducible refine stop_convertB ⟨_, _, _, rfl⟩ ?_) | (with_reducible refine stop_eqSlice ⟨_, _, rfl⟩ ?_))
      refine (next_no p q [] 0 _ hr (.inr rfl) hq').mono ?_
      rintro e w1 ⟨rfl, hr1, hc1⟩
      go_wp2_with (first | (with_reducible refine stop_append ?_) | (with_reducible refine stop_copy ?_) | (with_reducible refine stop_make ?_) | (with_reducible refine stop_lookup ?_) | (with_reducible refine stop_update ?_) | (with_reducible refine stop_slice ?_) | (with_reducible refine stop_range ?_) | (with_reducible refine stop_next ?_) | (with_reducible refine stop_convert ⟨_, rfl⟩ ?_) | (with_reducible refine stop_convertB ⟨_, _, _, rfl⟩ ?_) | (with_reducible refine stop_eqSlice ⟨_, _, rfl⟩ ?_))
      rw [Exit.noGoto_ret]
      go_ret
      rw [← Hgo.out]
      exact ⟨rfl, hr1, (hc0.trans hc).trans hc1⟩
    | cons x bs' =>
      have hx : x.toNat < 256 := x.toNat_lt
      obtain ⟨N, hN⟩ : ∃ N, N = n + x.toNat % 128 * 128 ^ k := ⟨_, rfl⟩
      have hNlt : N < 128 ^ (k + 1) := by
        have : x.toNat % 128 * 128 ^ k ≤ 127 * 128 ^ k := Nat.mul_le_mul_right _ (by omega)
        rw [Nat.pow_succ]; omega
      have hb := or_shift n k x.toNat hn hk hx
      rw [← hN] at hb
      have HN := Lib.hid hN; clear hN
      have Hgo2 := Lib.hid (show numGo limit k n (x :: bs') = _ from by rw [numGo])
      rw [← HN.out] at Hgo2
      generalize hX : x.toNat = X at *
      have HX := Lib.hid hX; clear hX
      refine Classical.byCases (p := X < 128) (fun h1 => ?_) (fun h1 => ?_)
      · by_cases h2 : 0 < k ∧ X = 0
        · obtain ⟨h2, rfl⟩ := h2
          rw [if_pos (.inl ⟨h1, h2, rfl⟩)] at Hgo2
          go_wp2_with (first | (with_reducible refine stop_append ?_) | (with_reducible refine stop_copy ?_) | (with_reducible refine stop_make ?_) | (with_reducible refine stop_lookup ?_) | (with_reducible refine stop_update ?_) | (with_reducible refine stop_slice ?_) | (with_reducible refine stop_range ?_) | (with_reducible refine stop_next ?_) | (with_reducible refine stop_convert ⟨_, rfl⟩ ?_) | (with_reducible refine stop_convertB ⟨_, _, _, rfl⟩ ?_) | (with_reducible refine stop_eqSlice ⟨_, _, rfl⟩ ?_))
          refine (next_yes p q x bs' _ hr hq').mono ?_
          rw [HX.out]
          rintro e w1 ⟨rfl, hr1, hc1⟩
          have hq1 := hc1.cell hq' hqp
          go_wp2_with (first | (with_reducible refine stop_append ?_) | (with_reducible refine stop_copy ?_) | (with_reducible refine stop_make ?_) | (with_reducible refine stop_lookup ?_) | (with_reducible refine stop_update ?_) | (with_reducible refine stop_slice ?_) | (with_reducible refine stop_range ?_) | (with_reducible refine stop_next ?_) | (with_reducible refine stop_convert ⟨_, rfl⟩ ?_) | (with_reducible refine stop_convertB ⟨_, _, _, rfl⟩ ?_) | (with_reducible refine stop_eqSlice ⟨_, _, rfl⟩ ?_))
          refine (fail_any p bs' 0 21 _ hr1).mono ?_
          rintro e w2 ⟨rfl, hr2, hc2⟩
          go_wp2_with (first | (with_reducible refine stop_append ?_) | (with_reducible refine stop_copy ?_) | (with_reducible refine stop_make ?_) | (with_reducible refine stop_lookup ?_) | (with_reducible refine stop_update ?_) | (with_reducible refine stop_slice ?_) | (with_reducible refine stop_range ?_) | (with_reducible refine stop_next ?_) | (with_reducible refine stop_convert ⟨_, rfl⟩ ?_) | (with_reducible refine stop_convertB ⟨_, _, _, rfl⟩ ?_) | (with_reducible refine stop_eqSlice ⟨_, _, rfl⟩ ?_))
          rw [Exit.noGoto_ret]
          go_ret
          rw [← Hgo.out, Hgo2.out]
          exact ⟨rfl, hr2, (hc0.trans hc).trans (hc1.trans hc2)⟩
        · rw [if_neg (by omega), if_pos h1] at Hgo2
          have hright : ∀ (w1 : World), (N ≤ 4611686018427387904 → Calls Try.prog 65 #[.slice (some ⟨w1.heap.size, 0, none⟩) 1 1] (w1.alloc (.cells #[.int .i64 N] 3)) fun e w' => e = .returned (.bool true) ∧ w1.alloc (.cells #[.int .i64 N] 3) = w') ∧
              (4611686018427387904 < N → Calls Try.prog 65 #[.slice (some ⟨w1.heap.size, 0, none⟩) 1 1] (w1.alloc (.cells #[.int .i64 N] 3)) fun e w' => e = .returned (.bool false) ∧ w1.alloc (.cells #[.int .i64 N] 3) = w') := fun w1 =>
            ⟨fun h => right_yes No _ [(N : Int)] _ (Sl.lit1 (y := (N : Int)) rfl rfl (not_no _)) (by simp) (by simp; omega),
             fun h => right_no No _ [(N : Int)] _ (Sl.lit1 (y := (N : Int)) rfl rfl (not_no _)) (by simp) 0 (by simp) (by simp; omega) (by omega)⟩
          have Hright := Lib.hid hright
          clear hright
          have hNlt2 : N < 18446744073709551616 := by
            have : (128 : Nat) ^ (k + 1) ≤ 128 ^ 9 := Nat.pow_le_pow_right (by omega) (by omega)
            omega
          have hk01 : (k < 1 ∨ 0 < k ∧ ((X : Int) == 0) = false) := by
            by_cases k < 1
            · left; assumption
            · right; exact ⟨by omega, by simp; omega⟩
          rcases hk01 with hk0 | ⟨hk0, g2⟩
          all_goals
            go_wp2_with (first | (with_reducible refine stop_append ?_) | (with_reducible refine stop_copy ?_) | (with_reducible refine stop_make ?_) | (with_reducible refine stop_lookup ?_) | (with_reducible refine stop_update ?_) | (with_reducible refine stop_slice ?_) | (with_reducible refine stop_range ?_) | (with_reducible refine stop_next ?_) | (with_reducible refine stop_convert ⟨_, rfl⟩ ?_) | (with_reducible refine stop_convertB ⟨_, _, _, rfl⟩ ?_) | (with_reducible refine stop_eqSlice ⟨_, _, rfl⟩ ?_))
            refine (next_yes p q x bs' _ hr hq').mono ?_
            rw [HX.out]
            rintro e w1 ⟨rfl, hr1, hc1⟩
            have hq1 := hc1.cell hq' hqp
            by_cases hbig : 4611686018427387904 < N
            · rw [if_pos (.inl hbig)] at Hgo2
              go_wp2_with (first | (with_reducible refine stop_append ?_) | (with_reducible refine stop_copy ?_) | (with_reducible refine stop_make ?_) | (with_reducible refine stop_lookup ?_) | (with_reducible refine stop_update ?_) | (with_reducible refine stop_slice ?_) | (with_reducible refine stop_range ?_) | (with_reducible refine stop_next ?_) | (with_reducible refine stop_convert ⟨_, rfl⟩ ?_) | (with_reducible refine stop_convertB ⟨_, _, _, rfl⟩ ?_) | (with_reducible refine stop_eqSlice ⟨_, _, rfl⟩ ?_))
              refine ((Hright.out w1).2 hbig).mono ?_
              rintro e w2 ⟨rfl, rfl⟩
              have hr2 := hr1.keep (F := No) ((Chg.refl No w1).alloc (.cells #[.int .i64 N] 3)) (fun _ _ f => f.elim) (not_no _)
              have hq2 := ((Chg.refl No w1).alloc (.cells #[.int .i64 N] 3)).cell hq1 (not_no _)
              go_wp2_with (first | (with_reducible refine stop_append ?_) | (with_reducible refine stop_copy ?_) | (with_reducible refine stop_make ?_) | (with_reducible refine stop_lookup ?_) | (with_reducible refine stop_update ?_) | (with_reducible refine stop_slice ?_) | (with_reducible refine stop_range ?_) | (with_reducible refine stop_next ?_) | (with_reducible refine stop_convert ⟨_, rfl⟩ ?_) | (with_reducible refine stop_convertB ⟨_, _, _, rfl⟩ ?_) | (with_reducible refine stop_eqSlice ⟨_, _, rfl⟩ ?_))
              refine (fail_any p bs' 0 21 _ hr2).mono ?_
              rintro e w3 ⟨rfl, hr3, hc3⟩
              go_wp2_with (first | (with_reducible refine stop_append ?_) | (with_reducible refine stop_copy ?_) | (with_reducible refine stop_make ?_) | (with_reducible refine stop_lookup ?_) | (with_reducible refine stop_update ?_) | (with_reducible refine stop_slice ?_) | (with_reducible refine stop_range ?_) | (with_reducible refine stop_next ?_) | (with_reducible refine stop_convert ⟨_, rfl⟩ ?_) | (with_reducible refine stop_convertB ⟨_, _, _, rfl⟩ ?_) | (with_reducible refine stop_eqSlice ⟨_, _, rfl⟩ ?_))
              rw [Exit.noGoto_ret]
              go_ret
              rw [← Hgo.out, Hgo2.out]
              exact ⟨rfl, hr3, (hc0.trans hc).trans ((hc1.alloc _).trans hc3)⟩
            · have hsm : N ≤ 4611686018427387904 := by omega
              by_cases hlim : limit < (N : Int)
              · rw [if_pos (.inr hlim)] at Hgo2
                go_wp2_with (first | (with_reducible refine stop_append ?_) | (with_reducible refine stop_copy ?_) | (with_reducible refine stop_make ?_) | (with_reducible refine stop_lookup ?_) | (with_reducible refine stop_update ?_) | (with_reducible refine stop_slice ?_) | (with_reducible refine stop_range ?_) | (with_reducible refine stop_next ?_) | (with_reducible refine stop_convert ⟨_, rfl⟩ ?_) | (with_reducible refine stop_convertB ⟨_, _, _, rfl⟩ ?_) | (with_reducible refine stop_eqSlice ⟨_, _, rfl⟩ ?_))
                refine ((Hright.out w1).1 hsm).mono ?_
                rintro e w2 ⟨rfl, rfl⟩
                have hr2 := hr1.keep (F := No) ((Chg.refl No w1).alloc (.cells #[.int .i64 N] 3)) (fun _ _ f => f.elim) (not_no _)
                have hq2 := ((Chg.refl No w1).alloc (.cells #[.int .i64 N] 3)).cell hq1 (not_no _)
                go_wp2_with (first | (with_reducible refine stop_append ?_) | (with_reducible refine stop_copy ?_) | (with_reducible refine stop_make ?_) | (with_reducible refine stop_lookup ?_) | (with_reducible refine stop_update ?_) | (with_reducible refine stop_slice ?_) | (with_reducible refine stop_range ?_) | (with_reducible refine stop_next ?_) | (with_reducible refine stop_convert ⟨_, rfl⟩ ?_) | (with_reducible refine stop_convertB ⟨_, _, _, rfl⟩ ?_) | (with_reducible refine stop_eqSlice ⟨_, _, rfl⟩ ?_))
                refine (fail_any p bs' 0 21 _ hr2).mono ?_
                rintro e w3 ⟨rfl, hr3, hc3⟩
                go_wp2_with (first | (with_reducible refine stop_append ?_) | (with_reducible refine stop_copy ?_) | (with_reducible refine stop_make ?_) | (with_reducible refine stop_lookup ?_) | (with_reducible refine stop_update ?_) | (with_reducible refine stop_slice ?_) | (with_reducible refine stop_range ?_) | (with_reducible refine stop_next ?_) | (with_reducible refine stop_convert ⟨_, rfl⟩ ?_) | (with_reducible refine stop_convertB ⟨_, _, _, rfl⟩ ?_) | (with_reducible refine stop_eqSlice ⟨_, _, rfl⟩ ?_))
                rw [Exit.noGoto_ret]
                go_ret
                rw [← Hgo.out, Hgo2.out]
                exact ⟨rfl, hr3, (hc0.trans hc).trans ((hc1.alloc _).trans hc3)⟩
              · rw [if_neg (by omega)] at Hgo2
                go_wp2_with (first | (with_reducible refine stop_append ?_) | (with_reducible refine stop_copy ?_) | (with_reducible refine stop_make ?_) | (with_reducible refine stop_lookup ?_) | (with_reducible refine stop_update ?_) | (with_reducible refine stop_slice ?_) | (with_reducible refine stop_range ?_) | (with_reducible refine stop_next ?_) | (with_reducible refine stop_convert ⟨_, rfl⟩ ?_) | (with_reducible refine stop_convertB ⟨_, _, _, rfl⟩ ?_) | (with_reducible refine stop_eqSlice ⟨_, _, rfl⟩ ?_))
                refine ((Hright.out w1).1 hsm).mono ?_
                rintro e w2 ⟨rfl, rfl⟩
                have hr2 := hr1.keep (F := No) ((Chg.refl No w1).alloc (.cells #[.int .i64 N] 3)) (fun _ _ f => f.elim) (not_no _)
                go_wp2_with (first | (with_reducible refine stop_append ?_) | (with_reducible refine stop_copy ?_) | (with_reducible refine stop_make ?_) | (with_reducible refine stop_lookup ?_) | (with_reducible refine stop_update ?_) | (with_reducible refine stop_slice ?_) | (with_reducible refine stop_range ?_) | (with_reducible refine stop_next ?_) | (with_reducible refine stop_convert ⟨_, rfl⟩ ?_) | (with_reducible refine stop_convertB ⟨_, _, _, rfl⟩ ?_) | (with_reducible refine stop_eqSlice ⟨_, _, rfl⟩ ?_))
                rw [Exit.noGoto_ret]
                go_ret
                rw [← Hgo.out, Hgo2.out]
                exact ⟨rfl, hr2, (hc0.trans hc).trans (hc1.alloc _)⟩
      · have h1' : 128 ≤ X := by omega
        have g3 : ((X : Int) == 0) = false := by simp; omega
        by_cases hk8 : k < 8
        · have g4 : ((k : Int) + 1 == 9) = false := by simp; omega
          rw [if_neg (by omega), if_neg h1] at Hgo2
          go_wp2_with (first | (with_reducible refine stop_append ?_) | (with_reducible refine stop_copy ?_) | (with_reducible refine stop_make ?_) | (with_reducible refine stop_lookup ?_) | (with_reducible refine stop_update ?_) | (with_reducible refine stop_slice ?_) | (with_reducible refine stop_range ?_) | (with_reducible refine stop_next ?_) | (with_reducible refine stop_convert ⟨_, rfl⟩ ?_) | (with_reducible refine stop_convertB ⟨_, _, _, rfl⟩ ?_) | (with_reducible refine stop_eqSlice ⟨_, _, rfl⟩ ?_))
          refine (next_yes p q x bs' _ hr hq').mono ?_
          rw [HX.out]
          rintro e w1 ⟨rfl, hr1, hc1⟩
          have hq1 := hc1.cell hq' hqp
          go_wp2_with (first | (with_reducible refine stop_append ?_) | (with_reducible refine stop_copy ?_) | (with_reducible refine stop_make ?_) | (with_reducible refine stop_lookup ?_) | (with_reducible refine stop_update ?_) | (with_reducible refine stop_slice ?_) | (with_reducible refine stop_range ?_) | (with_reducible refine stop_next ?_) | (with_reducible refine stop_convert ⟨_, rfl⟩ ?_) | (with_reducible refine stop_convertB ⟨_, _, _, rfl⟩ ?_) | (with_reducible refine stop_eqSlice ⟨_, _, rfl⟩ ?_))
          go_roundw
          case rel => exact ⟨k + 1, N, bs', by go_num, by go_num, by omega, hNlt, hr1, by rw [← Hgo2.out, Hgo.out], hc.trans hc1, by simp at hlen ⊢; omega⟩
          case measure => simp at hlen; simp [intOf]; omega
        · have g4 : ((k : Int) + 1 == 9) = true := by simp; omega
          rw [if_pos (by omega)] at Hgo2
          go_wp2_with (first | (with_reducible refine stop_append ?_) | (with_reducible refine stop_copy ?_) | (with_reducible refine stop_make ?_) | (with_reducible refine stop_lookup ?_) | (with_reducible refine stop_update ?_) | (with_reducible refine stop_slice ?_) | (with_reducible refine stop_range ?_) | (with_reducible refine stop_next ?_) | (with_reducible refine stop_convert ⟨_, rfl⟩ ?_) | (with_reducible refine stop_convertB ⟨_, _, _, rfl⟩ ?_) | (with_reducible refine stop_eqSlice ⟨_, _, rfl⟩ ?_))
          refine (next_yes p q x bs' _ hr hq').mono ?_
          rw [HX.out]
          rintro e w1 ⟨rfl, hr1, hc1⟩
          have hq1 := hc1.cell hq' hqp
          go_wp2_with (first | (with_reducible refine stop_append ?_) | (with_reducible refine stop_copy ?_) | (with_reducible refine stop_make ?_) | (with_reducible refine stop_lookup ?_) | (with_reducible refine stop_update ?_) | (with_reducible refine stop_slice ?_) | (with_reducible refine stop_range ?_) | (with_reducible refine stop_next ?_) | (with_reducible refine stop_convert ⟨_, rfl⟩ ?_) | (with_reducible refine stop_convertB ⟨_, _, _, rfl⟩ ?_) | (with_reducible refine stop_eqSlice ⟨_, _, rfl⟩ ?_))
          refine (fail_any p bs' 0 21 _ hr1).mono ?_
          rintro e w2 ⟨rfl, hr2, hc2⟩
          go_wp2_with (first | (with_reducible refine stop_append ?_) | (with_reducible refine stop_copy ?_) | (with_reducible refine stop_make ?_) | (with_reducible refine stop_lookup ?_) | (with_reducible refine stop_update ?_) | (with_reducible refine stop_slice ?_) | (with_reducible refine stop_range ?_) | (with_reducible refine stop_next ?_) | (with_reducible refine stop_convert ⟨_, rfl⟩ ?_) | (with_reducible refine stop_convertB ⟨_, _, _, rfl⟩ ?_) | (with_reducible refine stop_eqSlice ⟨_, _, rfl⟩ ?_))
          rw [Exit.noGoto_ret]
          go_ret
          rw [← Hgo.out, Hgo2.out]
          exact ⟨rfl, hr2, (hc0.trans hc).trans (hc1.trans hc2)⟩
set_option maxRecDepth 100000 in
set_option maxHeartbeats 1000000 in
theorem rnum_err (p : Nat) (bs : List UInt8) (e : Int) (limit : Int) (w : World) (h : Rdr w p bs e) (he : e ≠ 0) :
    Calls Try.prog 56 #[.pointer (some ⟨p, 0, none⟩), .int .i64 limit] w fun e' w' => e' = .returned (.int .i64 0) ∧ Rdr w' p bs e ∧ Chg (At p) w w' := by
  go_enter Try.func56, Try.ntmps56
  go_wp2_with (first | (with_reducible refine stop_append ?_) | (with_reducible refine stop_copy ?_) | (with_reducible refine stop_make ?_) | (with_reducible refine stop_lookup ?_) | (with_reducible refine stop_update ?_) | (with_reducible refine stop_slice ?_) | (with_reducible refine stop_range ?_) | (with_reducible refine stop_next ?_) | (with_reducible refine stop_convert ⟨_, rfl⟩ ?_) | (with_reducible refine stop_convertB ⟨_, _, _, rfl⟩ ?_) | (with_reducible refine stop_eqSlice ⟨_, _, rfl⟩ ?_))
  go_step3
  go_wp2_with (first | (with_reducible refine stop_append ?_) | (with_reducible refine stop_copy ?_) | (with_reducible refine stop_make ?_) | (with_reducible refine stop_lookup ?_) | (with_reducible refine stop_update ?_) | (with_reducible refine stop_slice ?_) | (with_reducible refine stop_range ?_) | (with_reducible refine stop_next ?_) | (with_reducible refine stop_convert ⟨_, rfl⟩ ?_) | (with_reducible refine stop_convertB ⟨_, _, _, rfl⟩ ?_) | (with_reducible refine stop_eqSlice ⟨_, _, rfl⟩ ?_))
  go_step3
  go_wp2_with (first | (with_reducible refine stop_append ?_) | (with_reducible refine stop_copy ?_) | (with_reducible refine stop_make ?_) | (with_reducible refine stop_lookup ?_) | (with_reducible refine stop_update ?_) | (with_reducible refine stop_slice ?_) | (with_reducible refine stop_range ?_) | (with_reducible refine stop_next ?_) | (with_reducible refine stop_convert ⟨_, rfl⟩ ?_) | (with_reducible refine stop_convertB ⟨_, _, _, rfl⟩ ?_) | (with_reducible refine stop_eqSlice ⟨_, _, rfl⟩ ?_))
  have hlt : p < w.heap.size := by obtain ⟨_, _, _, ho⟩ := h; exact lt_of_heap ho
  have hq : (w.alloc (.cells #[.pointer (some ⟨p, 0, none⟩)] 56)).cell? ⟨w.heap.size, 0, none⟩ = some (.pointer (some ⟨p, 0, none⟩)) := cell_one (alloc_obj _ _)
  have hr0 := h.keep (F := No) ((Chg.refl No w).alloc (.cells #[.pointer (some ⟨p, 0, none⟩)] 56)) (fun _ _ f => f.elim) (not_no _)
  have hc0 := (Chg.refl (At p) w).alloc (.cells #[.pointer (some ⟨p, 0, none⟩)] 56)
  generalize w.alloc (.cells #[.pointer (some ⟨p, 0, none⟩)] 56) = w0 at hq hr0 hc0 ⊢
  generalize w.heap.size = q at hq ⊢
  clear h
  refine wp_loop_once ?_
  go_wp2_with (first | (with_reducible refine stop_append ?_) | (with_reducible refine stop_copy ?_) | (with_reducible refine stop_make ?_) | (with_reducible refine stop_lookup ?_) | (with_reducible refine stop_update ?_) | (with_reducible refine stop_slice ?_) | (with_reducible refine stop_range ?_) | (with_reducible refine stop_next ?_) | (with_reducible refine stop_convert ⟨_, rfl⟩ ?_) | (with_reducible refine stop_convertB ⟨_, _, _, rfl⟩ ?_) | (with_reducible refine stop_eqSlice ⟨_, _, rfl⟩ ?_))
  refine (next_no p q bs e _ hr0 (.inl he) hq).mono ?_
  rintro e' w1 ⟨rfl, hr1, hc1⟩
  go_wp2_with (first | (with_reducible refine stop_append ?_) | (with_reducible refine stop_copy ?_) | (with_reducible refine stop_make ?_) | (with_reducible refine stop_lookup ?_) | (with_reducible refine stop_update ?_) | (with_reducible refine stop_slice ?_) | (with_reducible refine stop_range ?_) | (with_reducible refine stop_next ?_) | (with_reducible refine stop_convert ⟨_, rfl⟩ ?_) | (with_reducible refine stop_convertB ⟨_, _, _, rfl⟩ ?_) | (with_reducible refine stop_eqSlice ⟨_, _, rfl⟩ ?_))
  rw [Exit.noGoto_ret]
  go_ret
  exact ⟨rfl, by simpa [failR, he] using hr1, hc0.trans hc1⟩
theorem rnum_all (p : Nat) (bs : List UInt8) (e : Int) (limit : Int) (w : World) (h : Rdr w p bs e) (hl0 : 0 ≤ limit) (hl : limit ≤ 4611686018427387904) :
    Calls Try.prog 56 #[.pointer (some ⟨p, 0, none⟩), .int .i64 limit] w fun e' w' => e' = .returned (.int .i64 (numR limit bs e).1) ∧ Rdr w' p (numR limit bs e).2.1 (numR limit bs e).2.2 ∧ Chg (At p) w w' := by
  unfold numR
  by_cases he : e = 0
  · subst he; rw [if_pos rfl]; exact rnum_any p bs limit w h hl0 hl
  · rw [if_neg he]; exact rnum_err p bs e limit w h he
end Go.Proofs.Ytlpnbbjmcmjkpaa
