/- Walks of the register's laws: few, mine, entries. -/
import Derived.Test.YtbjpoamnglfjeaaRegU
import Derived.Test.YtbjpoamnglfjeaaOrdF
set_option linter.unusedVariables false
set_option linter.unusedSimpArgs false
namespace Go.Proofs.Ytbjpoamnglfjeaa
open Go.RowKit Cb

/-- A configuration, and an operation of a script. -/
abbrev Cfg := Int × List Int × List (List Int)
abbrev Op := Cfg × List Ent
theorem op_get {F : Nat → Prop} {w : World} {A : Option Addr} {n c : Nat} {l : List Op} (h : Sl F w (.slice A n c) l) (k : Nat) (hk : k < l.length) :
    ∃ b o vq vs vt, A = some ⟨b, o, none⟩ ∧ ¬ F b ∧ b < w.heap.size ∧ Sl F w vq l[k].1.2.1 ∧ Sl F w vs l[k].1.2.2 ∧ Sl F w vt l[k].2 ∧ w.cell? ⟨b, o + k * 4, none⟩ = some (.int .i64 l[k].1.1) ∧ w.cell? ⟨b, o + k * 4 + 1, none⟩ = some vq ∧ w.cell? ⟨b, o + k * 4 + 2, none⟩ = some vs ∧
      w.cell? ⟨b, o + k * 4 + 3, none⟩ = some vt := by
  obtain ⟨b, o, d, rfl, hF, hb, hd, ha⟩ := h.get k hk
  obtain ⟨d1, d2, rfl, ⟨d3, d4, rfl, rfl, ⟨d5, d6, rfl, ⟨vq, rfl, hq⟩, ⟨vs, rfl, hs⟩⟩⟩, ⟨vt, rfl, ht⟩⟩ := hd
  exact ⟨b, o, vq, vs, vt, rfl, hF, hb, hq, hs, ht, ha 0 _ rfl, ha 1 _ rfl, ha 2 _ rfl, ha 3 _ rfl⟩
def OpI (o : Op) : Prop := CfgI o.1.2.1 o.1.2.2 ∧ TailI o.2
/-- What few answers: yes or no. -/
def BoolOut (w : World) (e : Ending) (w' : World) : Prop := (∃ b, e = .returned (.bool b)) ∧ Chg No w w'
set_option maxRecDepth 100000 in
set_option maxHeartbeats 2000000 in
theorem fewr_any (F G H : Nat → Prop) (t : Int) (vq vs v : Value) (q : List Int) (s : List (List Int)) (l : List Op) (w : World) (hq : Sl F w vq q) (hs : Sl G w vs s) (h : Sl H w v l) (hl : l.length * 56 ≤ 140737488355328) (hc : CfgI q s) (ho : ∀ o ∈ l, OpI o) :
    Calls Try.prog 31 #[cfgV t vq vs, v] w (BoolOut w) := by
  obtain ⟨Aq, cq, rfl⟩ := hq.slice
  obtain ⟨As, cs, rfl⟩ := hs.slice
  obtain ⟨A, c, rfl⟩ := h.slice
  unfold cfgV
  have o1 := alloc_obj w (.cells #[.int .i64 t, .slice Aq q.length cq, .slice As s.length cs] 63)
  have hc0 := (Chg.refl No w).alloc (.cells #[.int .i64 t, .slice Aq q.length cq, .slice As s.length cs] 63)
  have a0 := cell_obj (i := 0) o1 rfl
  have a1 := cell_obj (i := 1) o1 rfl
  have a2 := cell_obj (i := 2) o1 rfl
  have H := Lib.hid (h.keepNo hc0)
  have Hs := Lib.hid (hs.keepNo hc0)
  have Ho := Lib.hid ho
  have hc1 := hc.1
  have hc2 := hc.2.1
  have Hc3 := Lib.hid hc.2.2
  clear h hs hq ho hc o1
  go_enter Try.func31, Try.ntmps31
  go_wp2_with (first | (with_reducible refine stop_append ?_) | (with_reducible refine stop_copy ?_) | (with_reducible refine stop_make ?_) | (with_reducible refine stop_lookup ?_) | (with_reducible refine stop_update ?_) | (with_reducible refine stop_slice ?_) | (with_reducible refine stop_range ?_) | (with_reducible refine stop_next ?_) | (with_reducible refine stop_convert ⟨_, rfl⟩ ?_) | (with_reducible refine stop_convertB ⟨_, _, _, rfl⟩ ?_) | (with_reducible refine stop_eqSlice ⟨_, _, rfl⟩ ?_))
  generalize w.alloc (.cells #[.int .i64 t, .slice Aq q.length cq, .slice As s.length cs] 63) = w0 at *
  generalize w.heap.size = b at *
  clear a0
  go_loopw [5, 7, 9, 11, 23, 40, 54] (fun v5 _ _ _ v23 _ _ wr => ∃ (k : Nat) (n : Int), k ≤ l.length ∧ v23 = .int .i64 k ∧ v5 = .int .i64 n ∧ Chg No w0 wr) (fun _ _ _ _ v23 _ _ _ => l.length - (intOf v23).toNat)
  case atStart => exact ⟨0, _, by omega, rfl, rfl, Chg.refl _ _⟩
  case round =>
    obtain ⟨k, n, hk, rfl, rfl, hc1⟩ := hrel
    by_cases hlt : k < l.length
    · obtain ⟨b4, o4, vq4, vs4, vt4, rfl, -, hbl, sq, ss, st, k0, k1, k2, k3⟩ := op_get (H.out.keepNo hc1) k hlt
      obtain ⟨hcx, hlx⟩ := Ho.out _ (List.getElem_mem hlt)
      have hn1 := hcx.1
      have hn2 := hcx.2.1
      have hn3 := hlx.1
      have Hn4 := Lib.hid hlx.2
      have Hn5 := Lib.hid hcx.2.2
      clear hcx hlx
      generalize l[k] = x at *
      obtain ⟨⟨xt, xq, xs⟩, xl⟩ := x
      simp only at k0 k1 k2 k3 sq ss st hn1 hn2 hn3 Hn4 Hn5
      obtain ⟨Bq, dq, rfl⟩ := sq.slice
      obtain ⟨Bs, ds, rfl⟩ := ss.slice
      obtain ⟨Bt, dt, rfl⟩ := st.slice
      have hca := (Chg.refl No wr).alloc (.cells #[.int .i64 xt, .slice Bq xq.length dq, .slice Bs xs.length ds, .slice Bt xl.length dt] 71)
      have o2 := alloc_obj wr (.cells #[.int .i64 xt, .slice Bq xq.length dq, .slice Bs xs.length ds, .slice Bt xl.length dt] 71)
      have Hss := Lib.hid (ss.keepNo hca)
      have Hst := Lib.hid (st.keepNo hca)
      have c0 := cell_obj (i := 0) o2 rfl
      have c1 := cell_obj (i := 1) o2 rfl
      have c2 := cell_obj (i := 2) o2 rfl
      have c3 := cell_obj (i := 3) o2 rfl
      clear sq ss st o2
      go_wp2_with (first | (with_reducible refine stop_append ?_) | (with_reducible refine stop_copy ?_) | (with_reducible refine stop_make ?_) | (with_reducible refine stop_lookup ?_) | (with_reducible refine stop_update ?_) | (with_reducible refine stop_slice ?_) | (with_reducible refine stop_range ?_) | (with_reducible refine stop_next ?_) | (with_reducible refine stop_convert ⟨_, rfl⟩ ?_) | (with_reducible refine stop_convertB ⟨_, _, _, rfl⟩ ?_) | (with_reducible refine stop_eqSlice ⟨_, _, rfl⟩ ?_))
      generalize wr.alloc (.cells #[.int .i64 xt, .slice Bq xq.length dq, .slice Bs xs.length ds, .slice Bt xl.length dt] 71) = wA at *
      generalize wr.heap.size = p2 at *
      have hcA := hc1.trans hca
      clear k0 k1 k2 k3 hbl hca
      obtain ⟨wA', rfl⟩ : ∃ W : World, W = wA := ⟨_, rfl⟩
      go_loopw [5, 9, 40] (fun v5 _ v40 wr => ∃ (j : Nat) (n : Int), j ≤ xl.length ∧ v40 = .int .i64 j ∧ v5 = .int .i64 n ∧ Chg No wA' wr) (fun _ _ v40 _ => xl.length - (intOf v40).toNat)
      case atStart => exact ⟨0, _, by omega, rfl, rfl, Chg.refl _ _⟩
      case round =>
        obtain ⟨j, m, hj, rfl, rfl, hc2⟩ := hrel
        by_cases hlj : j < xl.length
        · obtain ⟨b5, o5, vc, rfl, -, hb5, sc, e0, e1, e2, e3, e4, e5⟩ := ent_get (Hst.out.keepNo hc2) j hlj
          have hn6 := Hn4.out _ (List.getElem_mem hlj)
          generalize xl[j] = y at *
          obtain ⟨y0, y1, y2, y3, y4, y5⟩ := y
          simp only at sc e0 e1 e2 e3 e4 e5 hn6
          obtain ⟨Ac, cc, rfl⟩ := sc.slice
          have hcb := hc2.alloc (.cells #[.int .i64 y0, .int .i64 y1, .slice Ac y2.length cc, .int .i64 y3, .int .i64 y4, .int .i64 y5] 52)
          have o3 := alloc_obj wr (.cells #[.int .i64 y0, .int .i64 y1, .slice Ac y2.length cc, .int .i64 y3, .int .i64 y4, .int .i64 y5] 52)
          have f2 := cell_obj (i := 2) o3 rfl
          clear sc o3
          go_wp2_with (first | (with_reducible refine stop_append ?_) | (with_reducible refine stop_copy ?_) | (with_reducible refine stop_make ?_) | (with_reducible refine stop_lookup ?_) | (with_reducible refine stop_update ?_) | (with_reducible refine stop_slice ?_) | (with_reducible refine stop_range ?_) | (with_reducible refine stop_next ?_) | (with_reducible refine stop_convert ⟨_, rfl⟩ ?_) | (with_reducible refine stop_convertB ⟨_, _, _, rfl⟩ ?_) | (with_reducible refine stop_eqSlice ⟨_, _, rfl⟩ ?_))
          go_roundw
          case rel => exact ⟨j + 1, _, by omega, by go_num, rfl, hcb⟩
          case measure => simp [intOf]; omega
        · obtain rfl : j = xl.length := by omega
          replace c2 := hc2.cell c2 (not_no _)
          obtain ⟨wB, rfl⟩ : ∃ W : World, W = wr := ⟨_, rfl⟩
          have hcB := hcA.trans hc2
          go_wp2_with (first | (with_reducible refine stop_append ?_) | (with_reducible refine stop_copy ?_) | (with_reducible refine stop_make ?_) | (with_reducible refine stop_lookup ?_) | (with_reducible refine stop_update ?_) | (with_reducible refine stop_slice ?_) | (with_reducible refine stop_range ?_) | (with_reducible refine stop_next ?_) | (with_reducible refine stop_convert ⟨_, rfl⟩ ?_) | (with_reducible refine stop_convertB ⟨_, _, _, rfl⟩ ?_) | (with_reducible refine stop_eqSlice ⟨_, _, rfl⟩ ?_))
          go_loopw [5, 11, 54] (fun v5 _ v54 wr => ∃ (j : Nat) (n : Int), j ≤ xs.length ∧ v54 = .int .i64 j ∧ v5 = .int .i64 n ∧ wr = wB) (fun _ _ v54 _ => xs.length - (intOf v54).toNat)
          case atStart => exact ⟨0, _, by omega, rfl, rfl, rfl⟩
          case round =>
            obtain ⟨i, r, hi, rfl, rfl, rfl⟩ := hrel
            by_cases hli : i < xs.length
            · obtain ⟨b2, o2, d, rfl, _, hbl2, ⟨vj, rfl, hvj⟩, ha⟩ := (Hss.out.keepNo hc2).get i hli
              have ha0 := ha 0 _ rfl
              simp only [show Rep.n (List Int) = 1 from rfl, Nat.mul_one, Nat.add_zero] at ha0
              have hn7 := Hn5.out _ (List.getElem_mem hli)
              obtain ⟨Aj, cj, rfl⟩ := hvj.slice
              generalize xs[i].length = nj at *
              clear ha hvj
              go_wp2_with (first | (with_reducible refine stop_append ?_) | (with_reducible refine stop_copy ?_) | (with_reducible refine stop_make ?_) | (with_reducible refine stop_lookup ?_) | (with_reducible refine stop_update ?_) | (with_reducible refine stop_slice ?_) | (with_reducible refine stop_range ?_) | (with_reducible refine stop_next ?_) | (with_reducible refine stop_convert ⟨_, rfl⟩ ?_) | (with_reducible refine stop_convertB ⟨_, _, _, rfl⟩ ?_) | (with_reducible refine stop_eqSlice ⟨_, _, rfl⟩ ?_))
              go_roundw
              case rel => exact ⟨i + 1, _, by omega, by go_num, rfl, by first | rfl | trivial⟩
              case measure => simp [intOf]; omega
            · obtain rfl : i = xs.length := by omega
              go_wp2_with (first | (with_reducible refine stop_append ?_) | (with_reducible refine stop_copy ?_) | (with_reducible refine stop_make ?_) | (with_reducible refine stop_lookup ?_) | (with_reducible refine stop_update ?_) | (with_reducible refine stop_slice ?_) | (with_reducible refine stop_range ?_) | (with_reducible refine stop_next ?_) | (with_reducible refine stop_convert ⟨_, rfl⟩ ?_) | (with_reducible refine stop_convertB ⟨_, _, _, rfl⟩ ?_) | (with_reducible refine stop_eqSlice ⟨_, _, rfl⟩ ?_))
              go_roundw
              case rel => exact ⟨k + 1, _, by omega, by go_num, rfl, hcB⟩
              case measure => simp [intOf]; omega
    · obtain rfl : k = l.length := by omega
      have b1 := hc1.cell a1 (not_no _)
      have b2 := hc1.cell a2 (not_no _)
      obtain ⟨wA, rfl⟩ : ∃ W : World, W = wr := ⟨_, rfl⟩
      go_wp2_with (first | (with_reducible refine stop_append ?_) | (with_reducible refine stop_copy ?_) | (with_reducible refine stop_make ?_) | (with_reducible refine stop_lookup ?_) | (with_reducible refine stop_update ?_) | (with_reducible refine stop_slice ?_) | (with_reducible refine stop_range ?_) | (with_reducible refine stop_next ?_) | (with_reducible refine stop_convert ⟨_, rfl⟩ ?_) | (with_reducible refine stop_convertB ⟨_, _, _, rfl⟩ ?_) | (with_reducible refine stop_eqSlice ⟨_, _, rfl⟩ ?_))
      go_loopw [5, 13, 68] (fun v5 _ v68 wr => ∃ (j : Nat) (n : Int), j ≤ s.length ∧ v68 = .int .i64 j ∧ v5 = .int .i64 n ∧ wr = wA) (fun _ _ v68 _ => s.length - (intOf v68).toNat)
      case atStart => exact ⟨0, _, by omega, rfl, rfl, rfl⟩
      case round =>
        obtain ⟨j, m, hj, rfl, rfl, rfl⟩ := hrel
        by_cases hlj : j < s.length
        · obtain ⟨b2, o2, d, rfl, _, hbl2, ⟨vj, rfl, hvj⟩, ha⟩ := (Hs.out.keepNo hc1).get j hlj
          have ha0 := ha 0 _ rfl
          simp only [show Rep.n (List Int) = 1 from rfl, Nat.mul_one, Nat.add_zero] at ha0
          obtain ⟨Aj, cj, rfl⟩ := hvj.slice
          generalize s[j].length = nj at *
          clear ha hvj
          go_wp2_with (first | (with_reducible refine stop_append ?_) | (with_reducible refine stop_copy ?_) | (with_reducible refine stop_make ?_) | (with_reducible refine stop_lookup ?_) | (with_reducible refine stop_update ?_) | (with_reducible refine stop_slice ?_) | (with_reducible refine stop_range ?_) | (with_reducible refine stop_next ?_) | (with_reducible refine stop_convert ⟨_, rfl⟩ ?_) | (with_reducible refine stop_convertB ⟨_, _, _, rfl⟩ ?_) | (with_reducible refine stop_eqSlice ⟨_, _, rfl⟩ ?_))
          go_roundw
          case rel => exact ⟨j + 1, _, by omega, by go_num, rfl, by first | rfl | trivial⟩
          case measure => simp [intOf]; omega
        · obtain rfl : j = s.length := by omega
          have hcw := hc0.trans hc1
          by_cases h1 : l.length ≤ 40
          · have h1' : (l.length : Int) ≤ 40 := by omega
            by_cases h2 : m ≤ 2000
            all_goals
              go_wp2_with (first | (with_reducible refine stop_append ?_) | (with_reducible refine stop_copy ?_) | (with_reducible refine stop_make ?_) | (with_reducible refine stop_lookup ?_) | (with_reducible refine stop_update ?_) | (with_reducible refine stop_slice ?_) | (with_reducible refine stop_range ?_) | (with_reducible refine stop_next ?_) | (with_reducible refine stop_convert ⟨_, rfl⟩ ?_) | (with_reducible refine stop_convertB ⟨_, _, _, rfl⟩ ?_) | (with_reducible refine stop_eqSlice ⟨_, _, rfl⟩ ?_))
              go_ret
              exact ⟨⟨_, rfl⟩, hcw⟩
          · have h1' : ¬ (l.length : Int) ≤ 40 := by omega
            go_wp2_with (first | (with_reducible refine stop_append ?_) | (with_reducible refine stop_copy ?_) | (with_reducible refine stop_make ?_) | (with_reducible refine stop_lookup ?_) | (with_reducible refine stop_update ?_) | (with_reducible refine stop_slice ?_) | (with_reducible refine stop_range ?_) | (with_reducible refine stop_next ?_) | (with_reducible refine stop_convert ⟨_, rfl⟩ ?_) | (with_reducible refine stop_convertB ⟨_, _, _, rfl⟩ ?_) | (with_reducible refine stop_eqSlice ⟨_, _, rfl⟩ ?_))
            go_ret
            exact ⟨⟨_, rfl⟩, hcw⟩
theorem info_rent : Info Try.prog 52 (.agg #[.int .i64 0, .int .i64 0, .slice none 0 0, .int .i64 0, .int .i64 0, .int .i64 0]) 6 64 := by unfold Info; kernel_rfl
set_option maxRecDepth 100000 in
set_option maxHeartbeats 1000000 in
theorem mine14_any (v : Value) (l : List Ent) (w : World) (h : Sl No w v l) (hl : l.length * 64 ≤ 140737488355328) :
    Calls Try.prog 34 #[v] w fun e w' => ∃ v', e = .returned v' ∧ Chg No w w' ∧ Sl No w' v' l := by
  obtain ⟨A, c, rfl⟩ := h.slice
  have H := Lib.hid h
  clear h
  go_enter Try.func34, Try.ntmps34
  go_wp2_with (first | (with_reducible refine stop_append ?_) | (with_reducible refine stop_copy ?_) | (with_reducible refine stop_make ?_) | (with_reducible refine stop_lookup ?_) | (with_reducible refine stop_update ?_) | (with_reducible refine stop_slice ?_) | (with_reducible refine stop_range ?_) | (with_reducible refine stop_next ?_) | (with_reducible refine stop_convert ⟨_, rfl⟩ ?_) | (with_reducible refine stop_convertB ⟨_, _, _, rfl⟩ ?_) | (with_reducible refine stop_eqSlice ⟨_, _, rfl⟩ ?_))
  go_loopw [3, 5, 8] (fun v3 _ v8 wr => ∃ k : Nat, k ≤ l.length ∧ v8 = .int .i64 k ∧ Chg No w wr ∧ Cb.Own No wr w.heap.size 58 v3 (l.take k)) (fun _ _ v8 _ => l.length - (intOf v8).toNat)
  case atStart => exact ⟨0, by omega, rfl, Chg.refl _ _, Cb.Own.nil _ _ _ _⟩
  case round =>
    obtain ⟨k, hk, rfl, hc1, hown⟩ := hrel
    by_cases hlt : k < l.length
    · have hgs : Sl (Ge w.heap.size) wr (.slice A l.length c) l := (Sl.up H.out (Nat.le_refl _)).keepNo hc1
      obtain ⟨b, o, vc, rfl, hnb, hbl, hsv, a0, a1, a2, a3, a4, a5⟩ := ent_get hgs k hlt
      have htk := List.take_succ_eq_append_getElem hlt
      clear hgs
      generalize l[k] = x at a0 a1 a2 a3 a4 a5 hsv htk
      have Hsv := Lib.hid hsv
      have Hcs := Lib.hid (ent_mk x hsv)
      obtain ⟨n, kd, cut, tag, t, u⟩ := x
      simp only [entC] at a0 a1 a2 a3 a4 a5 Hcs
      obtain ⟨Av, cv, rfl⟩ := hsv.slice
      have hlen : (l.take k).length = k := by simp; omega
      generalize l.take k = acc at hlen htk hown
      have Htk := Lib.hid htk
      have Hlen := Lib.hid hlen
      obtain ⟨A3, c3, rfl⟩ := hown.slice
      have Hown := Lib.hid hown
      clear hsv hown htk hlen
      go_wp2_with (first | (with_reducible refine stop_append ?_) | (with_reducible refine stop_copy ?_) | (with_reducible refine stop_make ?_) | (with_reducible refine stop_lookup ?_) | (with_reducible refine stop_update ?_) | (with_reducible refine stop_slice ?_) | (with_reducible refine stop_range ?_) | (with_reducible refine stop_next ?_) | (with_reducible refine stop_convert ⟨_, rfl⟩ ?_) | (with_reducible refine stop_convertB ⟨_, _, _, rfl⟩ ?_) | (with_reducible refine stop_eqSlice ⟨_, _, rfl⟩ ?_))
      have hca := (Chg.refl No wr).alloc (.cells #[.int .i64 n, .int .i64 kd, .slice Av cut.length cv, .int .i64 tag, .int .i64 t, .int .i64 u] 52)
      have hcb := hca.alloc (.cells #[.int .i64 n, .int .i64 kd, .slice Av cut.length cv, .int .i64 tag, .int .i64 t, .int .i64 u] 58)
      generalize hw4 : wr.alloc (.cells #[.int .i64 n, .int .i64 kd, .slice Av cut.length cv, .int .i64 tag, .int .i64 t, .int .i64 u] 52) = w4 at hca hcb ⊢
      have e4 : w4.heap.size = wr.heap.size + 1 := by rw [← hw4]; simp
      rw [← e4]
      have hobl : ∀ i, OB (.slice A3 acc.length c3) i → w.heap.size ≤ i ∧ i < wr.heap.size := fun i hi => Hown.out.lt i hi
      have hlit : Sl (OB (.slice A3 acc.length c3)) (w4.alloc (.cells #[.int .i64 n, .int .i64 kd, .slice Av cut.length cv, .int .i64 tag, .int .i64 t, .int .i64 u] 58)) (.slice (some ⟨w4.heap.size, 0, none⟩) 1 1) [(n, kd, cut, tag, t, u)] :=
        Sl.lit1 rfl (Rep.weak (Rep.keep Hcs.out hca.of_no) (fun i _ hi => (hobl i hi).1)) (fun hi => by have := hobl _ hi; omega)
      refine step_append_sl (α := Ent) (F := No) (G := OB (.slice A3 acc.length c3)) Try.underlying28 info_ent rfl (Hown.out.keep hcb (fun _ _ f => f) (fun _ _ f => f)) rfl rfl hlit (fun i _ hi => hi.elim (fun f => f.elim) id) (by have := Hlen.out; simp; omega) (by have := Hlen.out; simp [ent_n]; omega) (by have := hc1.size; have := hcb.size; omega) ?_
      intro v6 w6 hown6 hg6
      rw [← Htk.out] at hown6
      have hcw : Chg No w w6 := (hc1.trans hcb).grew hg6 (fun i hi => .inr (hobl i hi).1)
      have Hown6 := Lib.hid hown6
      clear hown6 hg6 hlit
      go_wp2_with (first | (with_reducible refine stop_append ?_) | (with_reducible refine stop_copy ?_) | (with_reducible refine stop_make ?_) | (with_reducible refine stop_lookup ?_) | (with_reducible refine stop_update ?_) | (with_reducible refine stop_slice ?_) | (with_reducible refine stop_range ?_) | (with_reducible refine stop_next ?_) | (with_reducible refine stop_convert ⟨_, rfl⟩ ?_) | (with_reducible refine stop_convertB ⟨_, _, _, rfl⟩ ?_) | (with_reducible refine stop_eqSlice ⟨_, _, rfl⟩ ?_))
      go_roundw
      case rel => exact ⟨k + 1, by omega, by go_num, hcw, Hown6.out⟩
      case measure => simp [intOf]; omega
    · obtain rfl : k = l.length := by omega
      rw [List.take_length] at hown
      have Hown := Lib.hid hown
      obtain ⟨A3, c3, rfl⟩ := hown.slice
      clear hown
      go_wp2_with (first | (with_reducible refine stop_append ?_) | (with_reducible refine stop_copy ?_) | (with_reducible refine stop_make ?_) | (with_reducible refine stop_lookup ?_) | (with_reducible refine stop_update ?_) | (with_reducible refine stop_slice ?_) | (with_reducible refine stop_range ?_) | (with_reducible refine stop_next ?_) | (with_reducible refine stop_convert ⟨_, rfl⟩ ?_) | (with_reducible refine stop_convertB ⟨_, _, _, rfl⟩ ?_) | (with_reducible refine stop_eqSlice ⟨_, _, rfl⟩ ?_))
      go_ret
      exact ⟨_, rfl, hc1, Hown.out.sl (fun _ _ f => f)⟩
set_option maxRecDepth 100000 in
set_option maxHeartbeats 1000000 in
theorem mine16_any (v : Value) (l : List Ent) (w : World) (h : Sl No w v l) (hl : l.length * 64 ≤ 140737488355328) :
    Calls Try.prog 50 #[v] w fun e w' => ∃ v', e = .returned v' ∧ Chg No w w' ∧ Sl No w' v' l := by
  obtain ⟨A, c, rfl⟩ := h.slice
  have H := Lib.hid h
  clear h
  go_enter Try.func50, Try.ntmps50
  go_wp2_with (first | (with_reducible refine stop_append ?_) | (with_reducible refine stop_copy ?_) | (with_reducible refine stop_make ?_) | (with_reducible refine stop_lookup ?_) | (with_reducible refine stop_update ?_) | (with_reducible refine stop_slice ?_) | (with_reducible refine stop_range ?_) | (with_reducible refine stop_next ?_) | (with_reducible refine stop_convert ⟨_, rfl⟩ ?_) | (with_reducible refine stop_convertB ⟨_, _, _, rfl⟩ ?_) | (with_reducible refine stop_eqSlice ⟨_, _, rfl⟩ ?_))
  go_loopw [3, 5, 8] (fun v3 _ v8 wr => ∃ k : Nat, k ≤ l.length ∧ v8 = .int .i64 k ∧ Chg No w wr ∧ Cb.Own No wr w.heap.size 58 v3 (l.take k)) (fun _ _ v8 _ => l.length - (intOf v8).toNat)
  case atStart => exact ⟨0, by omega, rfl, Chg.refl _ _, Cb.Own.nil _ _ _ _⟩
  case round =>
    obtain ⟨k, hk, rfl, hc1, hown⟩ := hrel
    by_cases hlt : k < l.length
    · have hgs : Sl (Ge w.heap.size) wr (.slice A l.length c) l := (Sl.up H.out (Nat.le_refl _)).keepNo hc1
      obtain ⟨b, o, vc, rfl, hnb, hbl, hsv, a0, a1, a2, a3, a4, a5⟩ := ent_get hgs k hlt
      have htk := List.take_succ_eq_append_getElem hlt
      clear hgs
      generalize l[k] = x at a0 a1 a2 a3 a4 a5 hsv htk
      have Hsv := Lib.hid hsv
      have Hcs := Lib.hid (ent_mk x hsv)
      obtain ⟨n, kd, cut, tag, t, u⟩ := x
      simp only [entC] at a0 a1 a2 a3 a4 a5 Hcs
      obtain ⟨Av, cv, rfl⟩ := hsv.slice
      have hlen : (l.take k).length = k := by simp; omega
      generalize l.take k = acc at hlen htk hown
      have Htk := Lib.hid htk
      have Hlen := Lib.hid hlen
      obtain ⟨A3, c3, rfl⟩ := hown.slice
      have Hown := Lib.hid hown
      clear hsv hown htk hlen
      go_wp2_with (first | (with_reducible refine stop_append ?_) | (with_reducible refine stop_copy ?_) | (with_reducible refine stop_make ?_) | (with_reducible refine stop_lookup ?_) | (with_reducible refine stop_update ?_) | (with_reducible refine stop_slice ?_) | (with_reducible refine stop_range ?_) | (with_reducible refine stop_next ?_) | (with_reducible refine stop_convert ⟨_, rfl⟩ ?_) | (with_reducible refine stop_convertB ⟨_, _, _, rfl⟩ ?_) | (with_reducible refine stop_eqSlice ⟨_, _, rfl⟩ ?_))
      have hca := (Chg.refl No wr).alloc (.cells #[.int .i64 n, .int .i64 kd, .slice Av cut.length cv, .int .i64 tag, .int .i64 t, .int .i64 u] 52)
      have hcb := hca.alloc (.cells #[.int .i64 n, .int .i64 kd, .slice Av cut.length cv, .int .i64 tag, .int .i64 t, .int .i64 u] 58)
      generalize hw4 : wr.alloc (.cells #[.int .i64 n, .int .i64 kd, .slice Av cut.length cv, .int .i64 tag, .int .i64 t, .int .i64 u] 52) = w4 at hca hcb ⊢
      have e4 : w4.heap.size = wr.heap.size + 1 := by rw [← hw4]; simp
      rw [← e4]
      have hobl : ∀ i, OB (.slice A3 acc.length c3) i → w.heap.size ≤ i ∧ i < wr.heap.size := fun i hi => Hown.out.lt i hi
      have hlit : Sl (OB (.slice A3 acc.length c3)) (w4.alloc (.cells #[.int .i64 n, .int .i64 kd, .slice Av cut.length cv, .int .i64 tag, .int .i64 t, .int .i64 u] 58)) (.slice (some ⟨w4.heap.size, 0, none⟩) 1 1) [(n, kd, cut, tag, t, u)] :=
        Sl.lit1 rfl (Rep.weak (Rep.keep Hcs.out hca.of_no) (fun i _ hi => (hobl i hi).1)) (fun hi => by have := hobl _ hi; omega)
      refine step_append_sl (α := Ent) (F := No) (G := OB (.slice A3 acc.length c3)) Try.underlying28 info_ent rfl (Hown.out.keep hcb (fun _ _ f => f) (fun _ _ f => f)) rfl rfl hlit (fun i _ hi => hi.elim (fun f => f.elim) id) (by have := Hlen.out; simp; omega) (by have := Hlen.out; simp [ent_n]; omega) (by have := hc1.size; have := hcb.size; omega) ?_
      intro v6 w6 hown6 hg6
      rw [← Htk.out] at hown6
      have hcw : Chg No w w6 := (hc1.trans hcb).grew hg6 (fun i hi => .inr (hobl i hi).1)
      have Hown6 := Lib.hid hown6
      clear hown6 hg6 hlit
      go_wp2_with (first | (with_reducible refine stop_append ?_) | (with_reducible refine stop_copy ?_) | (with_reducible refine stop_make ?_) | (with_reducible refine stop_lookup ?_) | (with_reducible refine stop_update ?_) | (with_reducible refine stop_slice ?_) | (with_reducible refine stop_range ?_) | (with_reducible refine stop_next ?_) | (with_reducible refine stop_convert ⟨_, rfl⟩ ?_) | (with_reducible refine stop_convertB ⟨_, _, _, rfl⟩ ?_) | (with_reducible refine stop_eqSlice ⟨_, _, rfl⟩ ?_))
      go_roundw
      case rel => exact ⟨k + 1, by omega, by go_num, hcw, Hown6.out⟩
      case measure => simp [intOf]; omega
    · obtain rfl : k = l.length := by omega
      rw [List.take_length] at hown
      have Hown := Lib.hid hown
      obtain ⟨A3, c3, rfl⟩ := hown.slice
      clear hown
      go_wp2_with (first | (with_reducible refine stop_append ?_) | (with_reducible refine stop_copy ?_) | (with_reducible refine stop_make ?_) | (with_reducible refine stop_lookup ?_) | (with_reducible refine stop_update ?_) | (with_reducible refine stop_slice ?_) | (with_reducible refine stop_range ?_) | (with_reducible refine stop_next ?_) | (with_reducible refine stop_convert ⟨_, rfl⟩ ?_) | (with_reducible refine stop_convertB ⟨_, _, _, rfl⟩ ?_) | (with_reducible refine stop_eqSlice ⟨_, _, rfl⟩ ?_))
      go_ret
      exact ⟨_, rfl, hc1, Hown.out.sl (fun _ _ f => f)⟩
set_option maxRecDepth 100000 in
set_option maxHeartbeats 1000000 in
theorem entries14_any (v : Value) (l : List Ent) (w : World) (h : Sl No w v l) (hl : l.length * 64 ≤ 140737488355328) :
    Calls Try.prog 80 #[v] w fun e w' => ∃ v', e = .returned v' ∧ Chg No w w' ∧ Sl No w' v' l := by
  obtain ⟨A, c, rfl⟩ := h.slice
  have H := Lib.hid h
  clear h
  go_enter Try.func80, Try.ntmps80
  go_wp2_with (first | (with_reducible refine stop_append ?_) | (with_reducible refine stop_copy ?_) | (with_reducible refine stop_make ?_) | (with_reducible refine stop_lookup ?_) | (with_reducible refine stop_update ?_) | (with_reducible refine stop_slice ?_) | (with_reducible refine stop_range ?_) | (with_reducible refine stop_next ?_) | (with_reducible refine stop_convert ⟨_, rfl⟩ ?_) | (with_reducible refine stop_convertB ⟨_, _, _, rfl⟩ ?_) | (with_reducible refine stop_eqSlice ⟨_, _, rfl⟩ ?_))
  go_loopw [3, 5, 8] (fun v3 _ v8 wr => ∃ k : Nat, k ≤ l.length ∧ v8 = .int .i64 k ∧ Chg No w wr ∧ Cb.Own No wr w.heap.size 52 v3 (l.take k)) (fun _ _ v8 _ => l.length - (intOf v8).toNat)
  case atStart => exact ⟨0, by omega, rfl, Chg.refl _ _, Cb.Own.nil _ _ _ _⟩
  case round =>
    obtain ⟨k, hk, rfl, hc1, hown⟩ := hrel
    by_cases hlt : k < l.length
    · have hgs : Sl (Ge w.heap.size) wr (.slice A l.length c) l := (Sl.up H.out (Nat.le_refl _)).keepNo hc1
      obtain ⟨b, o, vc, rfl, hnb, hbl, hsv, a0, a1, a2, a3, a4, a5⟩ := ent_get hgs k hlt
      have htk := List.take_succ_eq_append_getElem hlt
      clear hgs
      generalize l[k] = x at a0 a1 a2 a3 a4 a5 hsv htk
      have Hsv := Lib.hid hsv
      have Hcs := Lib.hid (ent_mk x hsv)
      obtain ⟨n, kd, cut, tag, t, u⟩ := x
      simp only [entC] at a0 a1 a2 a3 a4 a5 Hcs
      obtain ⟨Av, cv, rfl⟩ := hsv.slice
      have hlen : (l.take k).length = k := by simp; omega
      generalize l.take k = acc at hlen htk hown
      have Htk := Lib.hid htk
      have Hlen := Lib.hid hlen
      obtain ⟨A3, c3, rfl⟩ := hown.slice
      have Hown := Lib.hid hown
      clear hsv hown htk hlen
      go_wp2_with (first | (with_reducible refine stop_append ?_) | (with_reducible refine stop_copy ?_) | (with_reducible refine stop_make ?_) | (with_reducible refine stop_lookup ?_) | (with_reducible refine stop_update ?_) | (with_reducible refine stop_slice ?_) | (with_reducible refine stop_range ?_) | (with_reducible refine stop_next ?_) | (with_reducible refine stop_convert ⟨_, rfl⟩ ?_) | (with_reducible refine stop_convertB ⟨_, _, _, rfl⟩ ?_) | (with_reducible refine stop_eqSlice ⟨_, _, rfl⟩ ?_))
      have hca := (Chg.refl No wr).alloc (.cells #[.int .i64 n, .int .i64 kd, .slice Av cut.length cv, .int .i64 tag, .int .i64 t, .int .i64 u] 58)
      have hcb := hca.alloc (.cells #[.int .i64 n, .int .i64 kd, .slice Av cut.length cv, .int .i64 tag, .int .i64 t, .int .i64 u] 52)
      generalize hw4 : wr.alloc (.cells #[.int .i64 n, .int .i64 kd, .slice Av cut.length cv, .int .i64 tag, .int .i64 t, .int .i64 u] 58) = w4 at hca hcb ⊢
      have e4 : w4.heap.size = wr.heap.size + 1 := by rw [← hw4]; simp
      rw [← e4]
      have hobl : ∀ i, OB (.slice A3 acc.length c3) i → w.heap.size ≤ i ∧ i < wr.heap.size := fun i hi => Hown.out.lt i hi
      have hlit : Sl (OB (.slice A3 acc.length c3)) (w4.alloc (.cells #[.int .i64 n, .int .i64 kd, .slice Av cut.length cv, .int .i64 tag, .int .i64 t, .int .i64 u] 52)) (.slice (some ⟨w4.heap.size, 0, none⟩) 1 1) [(n, kd, cut, tag, t, u)] :=
        Sl.lit1 rfl (Rep.weak (Rep.keep Hcs.out hca.of_no) (fun i _ hi => (hobl i hi).1)) (fun hi => by have := hobl _ hi; omega)
      refine step_append_sl (α := Ent) (F := No) (G := OB (.slice A3 acc.length c3)) Try.underlying22 info_rent rfl (Hown.out.keep hcb (fun _ _ f => f) (fun _ _ f => f)) rfl rfl hlit (fun i _ hi => hi.elim (fun f => f.elim) id) (by have := Hlen.out; simp; omega) (by have := Hlen.out; simp [ent_n]; omega) (by have := hc1.size; have := hcb.size; omega) ?_
      intro v6 w6 hown6 hg6
      rw [← Htk.out] at hown6
      have hcw : Chg No w w6 := (hc1.trans hcb).grew hg6 (fun i hi => .inr (hobl i hi).1)
      have Hown6 := Lib.hid hown6
      clear hown6 hg6 hlit
      go_wp2_with (first | (with_reducible refine stop_append ?_) | (with_reducible refine stop_copy ?_) | (with_reducible refine stop_make ?_) | (with_reducible refine stop_lookup ?_) | (with_reducible refine stop_update ?_) | (with_reducible refine stop_slice ?_) | (with_reducible refine stop_range ?_) | (with_reducible refine stop_next ?_) | (with_reducible refine stop_convert ⟨_, rfl⟩ ?_) | (with_reducible refine stop_convertB ⟨_, _, _, rfl⟩ ?_) | (with_reducible refine stop_eqSlice ⟨_, _, rfl⟩ ?_))
      go_roundw
      case rel => exact ⟨k + 1, by omega, by go_num, hcw, Hown6.out⟩
      case measure => simp [intOf]; omega
    · obtain rfl : k = l.length := by omega
      rw [List.take_length] at hown
      have Hown := Lib.hid hown
      obtain ⟨A3, c3, rfl⟩ := hown.slice
      clear hown
      go_wp2_with (first | (with_reducible refine stop_append ?_) | (with_reducible refine stop_copy ?_) | (with_reducible refine stop_make ?_) | (with_reducible refine stop_lookup ?_) | (with_reducible refine stop_update ?_) | (with_reducible refine stop_slice ?_) | (with_reducible refine stop_range ?_) | (with_reducible refine stop_next ?_) | (with_reducible refine stop_convert ⟨_, rfl⟩ ?_) | (with_reducible refine stop_convertB ⟨_, _, _, rfl⟩ ?_) | (with_reducible refine stop_eqSlice ⟨_, _, rfl⟩ ?_))
      go_ret
      exact ⟨_, rfl, hc1, Hown.out.sl (fun _ _ f => f)⟩
end Go.Proofs.Ytbjpoamnglfjeaa
