/- The counter: count walked, and what is true of a counter that is raised by transactions. -/
import Derived.Test.YtnioljagmimojaaLawP
import Derived.Test.YtnioljagmimojaaLawL
import Derived.Test.YtnioljagmimojaaApp
set_option linter.unusedVariables false
set_option linter.unusedSimpArgs false
namespace Go.Proofs.Ytnioljagmimojaa
open Go.RowKit Cb

def byteI (x : Int) : UInt8 := UInt8.ofNat (x % 256).toNat
theorem byteI_wrap (x : Int) : IntKind.u8.wrap x = ((byteI x).toNat : Int) := by
  rw [IntKind.wrap_u8]; unfold byteI; simp; omega
def cnt (n : Int) : ByteArray := ⟨[byteI n, byteI (n / 256)].toArray⟩
theorem cnt_size (n : Int) : (cnt n).size = 2 := rfl
set_option maxRecDepth 100000 in
set_option maxHeartbeats 1000000 in
theorem count_any (n : Int) (w : World) (h0 : 0 ≤ n) (h1 : n ≤ 1000) :
    Calls Try.prog 27 #[.int .i64 n] w fun e w' => e = .returned (.string (cnt n)) ∧ Chg No w w' := by
  go_enter Try.func27, Try.ntmps27
  go_wp2_with (first | (with_reducible refine stop_append ?_) | (with_reducible refine stop_copy ?_) | (with_reducible refine stop_make ?_) | (with_reducible refine stop_lookup ?_) | (with_reducible refine stop_update ?_) | (with_reducible refine stop_slice ?_) | (with_reducible refine stop_range ?_) | (with_reducible refine stop_next ?_) | (with_reducible refine stop_convert ⟨_, rfl⟩ ?_) | (with_reducible refine stop_convertB ⟨_, _, _, rfl⟩ ?_) | (with_reducible refine stop_eqSlice ⟨_, _, rfl⟩ ?_))
  have e0 : n % 256 = ((byteI n).toNat : Int) := by unfold byteI; simp; omega
  have e1 : n / 256 = ((byteI (n / 256)).toNat : Int) := by
    have : n / 256 % 256 = n / 256 := by omega
    unfold byteI; rw [this]; simp; omega
  have hs := Sl.lit (α := UInt8) (F := No) (w := w) (T := 5) (ys := [byteI n, byteI (n / 256)]) (ds := [[.int .u8 (byteI n).toNat], [.int .u8 (byteI (n / 256)).toNat]]) (C := #[.int .u8 (n % 256), .int .u8 (n / 256)]) (by rw [← e0, ← e1]; rfl) rfl (fun i h h' => by
    match i, h with
    | 0, _ => rfl
    | 1, _ => rfl) (not_no _) (n := 2) (c := 2) rfl (Nat.le_refl _)
  have hc := (Chg.refl No w).alloc (.cells #[.int .u8 (n % 256), .int .u8 (n / 256)] 5)
  clear e0 e1
  refine step_conv_bs Try.underlying78 Try.underlying5 Try.underlying9 rfl hs ?_
  go_wp2_with (first | (with_reducible refine stop_append ?_) | (with_reducible refine stop_copy ?_) | (with_reducible refine stop_make ?_) | (with_reducible refine stop_lookup ?_) | (with_reducible refine stop_update ?_) | (with_reducible refine stop_slice ?_) | (with_reducible refine stop_range ?_) | (with_reducible refine stop_next ?_) | (with_reducible refine stop_convert ⟨_, rfl⟩ ?_) | (with_reducible refine stop_convertB ⟨_, _, _, rfl⟩ ?_) | (with_reducible refine stop_eqSlice ⟨_, _, rfl⟩ ?_))
  go_ret
  exact ⟨rfl, hc⟩
def tk (x : Int × Int) : Tx := (x.1, [(7, x.2)], [(7, cnt (x.2 + 1))])
theorem tk_right {x : Int × Int} (h1 : 0 ≤ x.1 ∧ x.1 ≤ 1000) (h2 : 0 ≤ x.2 ∧ x.2 ≤ 1000) : rightB (tk x).1 (tk x).2.1 (tk x).2.2 = true := by
  simp only [tk, rightB, risB, okAt, badR, badW, inB, cnt_size, List.map_cons, List.map_nil, List.length_cons, List.length_nil, List.any_cons, List.any_nil]
  simp [show List.range 1 = [0] from rfl]
  refine ⟨⟨⟨decide_eq_true (by exact h1.1), decide_eq_true (by show x.1 ≤ _; omega)⟩, by decide⟩, by omega, by omega⟩
structure CI (k : Nat) (s : Store) (way : List (Int × Int)) (d : Int) : Prop where
  oth : ∀ f : Int, f ≠ 7 → verS s f = 0
  ver : verS s 7 = d
  num : s.n = d
  d0 : 0 ≤ d
  val : 0 < d → valS s 7 = cnt d
  new : ∀ id : Int, (k : Int) ≤ id → mget s.ids id = none
  each : ∀ x ∈ way, (0 ≤ x.1 ∧ x.1 < k) ∧ (0 ≤ x.2 ∧ x.2 ≤ k) ∧ mget s.ids x.1 = none
  nodup : (way.map (·.1)).Nodup
  sum : d + way.length ≤ k
theorem CI.start : CI 0 s0 [] 0 :=
  ⟨fun f _ => by simp [verS, s0, mget], by simp [verS, s0, mget], rfl, by omega, by omega, fun _ _ => rfl, by simp, by simp, by simp⟩
theorem CI.asked {k : Nat} {s : Store} {way : List (Int × Int)} {d : Int} (h : CI k s way d) : CI (k + 1) s (way ++ [((k : Int), d)]) d := by
  have h0 := h.d0
  have h1 := h.sum
  refine ⟨h.oth, h.ver, h.num, h.d0, h.val, fun id hid => h.new id (by omega), fun x hx => ?_, ?_, by simp; omega⟩
  · rcases List.mem_append.1 hx with hx | hx
    · obtain ⟨a, b, c⟩ := h.each x hx; exact ⟨by omega, by omega, c⟩
    · simp only [List.mem_singleton] at hx
      subst hx
      exact ⟨by simp; omega, by simp; omega, h.new _ (by simp)⟩
  · rw [List.map_append, List.nodup_append]
    refine ⟨h.nodup, by simp, fun a ha b hb => ?_⟩
    obtain ⟨x, hx, rfl⟩ := List.mem_map.1 ha
    simp at hb
    have := (h.each x hx).1
    omega
/-- One of the way is added. -/
def stepS (s : Store) (x : Int × Int) : Store := (addS s (tk x)).1
def stepD (d : Int) (x : Int × Int) : Int := if d = x.2 then d + 1 else d
theorem CI.step {k : Nat} {s : Store} {way : List (Int × Int)} {d : Int} (h : CI k s way d) (n : Nat) (hn : n < way.length) :
    CI k (stepS s way[n]) (way.take n ++ way.drop (n + 1)) (stepD d way[n]) ∧ (addS s (tk way[n])).2 = true ∧ (mget (stepS s way[n]).ids way[n].1).isSome = true ∧ (mget (stepS s way[n]).ids way[n].1).getD false = decide (d = way[n].2) := by
  have hdec : way = way.take n ++ (way[n] :: way.drop (n + 1)) := by rw [← List.drop_eq_getElem_cons hn, List.take_append_drop]
  obtain ⟨ha, hb, hc⟩ := h.each _ (List.getElem_mem hn)
  have hnd := h.nodup
  have hmem : ∀ y ∈ way.take n ++ way.drop (n + 1), y ∈ way ∧ y.1 ≠ way[n].1 := by
    intro y hy
    rw [hdec, List.map_append, List.map_cons, List.nodup_append] at hnd
    obtain ⟨_, h2, h3⟩ := hnd
    rw [List.nodup_cons] at h2
    rcases List.mem_append.1 hy with hy | hy
    · exact ⟨List.mem_of_mem_take hy, fun e => h3 y.1 (List.mem_map.2 ⟨y, hy, rfl⟩) way[n].1 (by simp) e⟩
    · exact ⟨List.mem_of_mem_drop hy, fun e => h2.1 (List.mem_map.2 ⟨y, hy, e⟩)⟩
  have hnd2 : ((way.take n ++ way.drop (n + 1)).map (·.1)).Nodup := by
    have h1 := h.nodup
    rw [hdec, List.map_append, List.map_cons, List.nodup_append] at h1
    obtain ⟨h1, h2, h3⟩ := h1
    rw [List.nodup_cons] at h2
    rw [List.map_append, List.nodup_append]
    exact ⟨h1, h2.2, fun a ha b hb => h3 a ha b (by simp only [List.mem_cons]; exact .inr hb)⟩
  have hlen : (way.take n ++ way.drop (n + 1)).length + 1 = way.length := by
    simp only [List.length_append, List.length_take, List.length_drop]; omega
  generalize way[n] = x at *
  have h0 := h.d0
  have h1 := h.sum
  have hst : (tk x).2.1.any (staleB s) = !decide (d = x.2) := by
    simp only [tk, List.any_cons, List.any_nil, Bool.or_false, staleB, h.ver]
    by_cases e : d = x.2 <;> simp [e]
  have hcm : (mget s.ids (tk x).1).isSome = false := by rw [show (tk x).1 = x.1 from rfl, hc]; rfl
  by_cases hd : d = x.2
  · have ea : addS s (tk x) = (⟨mset s.cs 7 (cnt (x.2 + 1), verC s.cs 7 + 1), mset s.ids x.1 true, s.n + 1⟩, true) := by
      unfold addS; rw [if_neg (by rw [hcm]; simp), if_neg (by rw [hst]; simp [hd])]; rfl
    have hv7 : verC s.cs 7 = d := h.ver
    refine ⟨⟨fun f hf => ?_, ?_, ?_, ?_, fun _ => ?_, fun id hid => ?_, fun y hy => ?_, hnd2, ?_⟩, by rw [ea], ?_, ?_⟩ <;> simp only [stepS, stepD, ea, if_pos hd]
    · show verC (mset s.cs 7 (cnt (x.2 + 1), verC s.cs 7 + 1)) f = 0
      rw [verC_mset, if_neg hf]; exact h.oth f hf
    · show verC (mset s.cs 7 (cnt (x.2 + 1), verC s.cs 7 + 1)) 7 = d + 1
      rw [verC_mset, if_pos rfl, hv7]
    · rw [h.num]
    · omega
    · show ((mget (mset s.cs 7 (cnt (x.2 + 1), verC s.cs 7 + 1)) 7).getD (⟨#[]⟩, 0)).1 = _
      rw [mget_mset, if_pos rfl, hd]; rfl
    · rw [mget_mset, if_neg (by omega)]; exact h.new id hid
    · obtain ⟨m1, m2⟩ := hmem y hy
      obtain ⟨a1, a2, a3⟩ := h.each y m1
      exact ⟨a1, a2, by rw [mget_mset, if_neg m2]; exact a3⟩
    · omega
    · rw [mget_mset, if_pos rfl]; rfl
    · rw [mget_mset, if_pos rfl]; simp [hd]
  · have ea : addS s (tk x) = (⟨s.cs, mset s.ids x.1 false, s.n⟩, true) := by
      unfold addS; rw [if_neg (by rw [hcm]; simp), if_pos (by rw [hst]; simp [hd])]; rfl
    refine ⟨⟨fun f hf => ?_, ?_, ?_, ?_, fun hd0 => ?_, fun id hid => ?_, fun y hy => ?_, hnd2, ?_⟩, by rw [ea], ?_, ?_⟩ <;> simp only [stepS, stepD, ea, if_neg hd]
    · exact h.oth f hf
    · exact h.ver
    · exact h.num
    · exact h.d0
    · simp only [stepD, if_neg hd] at hd0; exact h.val hd0
    · rw [mget_mset, if_neg (by omega)]; exact h.new id hid
    · obtain ⟨m1, m2⟩ := hmem y hy
      obtain ⟨a1, a2, a3⟩ := h.each y m1
      exact ⟨a1, a2, by rw [mget_mset, if_neg m2]; exact a3⟩
    · omega
    · rw [mget_mset, if_pos rfl]; rfl
    · rw [mget_mset, if_pos rfl]; simp [hd]
end Go.Proofs.Ytnioljagmimojaa
