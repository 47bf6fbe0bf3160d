/- Walks of package register: First, Current, at. -/
import Derived.Test.YtbjpoamnglfjeaaRegC
set_option linter.unusedVariables false
set_option linter.unusedSimpArgs false
namespace Go.Proofs.Ytbjpoamnglfjeaa
open Go.RowKit Cb

theorem rg_row {w : World} {B p : Nat} {rows : List Rw} (h : RegS w B p rows) (h0 : 0 < rows.length) :
    ∃ g c, w.cell? ⟨p, 0, none⟩ = some (.slice (some ⟨g, 0, none⟩) rows.length c) ∧ g ≠ p ∧ B ≤ g ∧ g < w.heap.size := by
  obtain ⟨v, h1, h2, h3, h4⟩ := h
  have hlt := h3.lt
  obtain ⟨ds, hl, hd, ho1, ho2⟩ := h3
  rcases ho2 with ⟨rfl, hn⟩ | ⟨g, cap, cur, rfl, hb, hg, _⟩
  · omega
  · exact ⟨g, cap, cell_obj h1 rfl, h4 g rfl, hb, lt_of_heap hg⟩
theorem rg_get {w : World} {B p : Nat} {rows : List Rw} (h : RegS w B p rows) {g n c : Nat} (hc : w.cell? ⟨p, 0, none⟩ = some (.slice (some ⟨g, 0, none⟩) n c)) (i : Nat) (hi : i < rows.length) :
    ∃ vq vs vt, w.cell? ⟨g, i * 5, none⟩ = some (.int .i64 rows[i].1) ∧ w.cell? ⟨g, i * 5 + 1, none⟩ = some vq ∧ w.cell? ⟨g, i * 5 + 2, none⟩ = some vs ∧ w.cell? ⟨g, i * 5 + 3, none⟩ = some vt ∧ w.cell? ⟨g, i * 5 + 4, none⟩ = some (.bool rows[i].2.2.2.2) ∧
      Sl (Lt B) w vq rows[i].2.1 ∧ Sl (Lt B) w vs rows[i].2.2.1 ∧ Sl (Lt B) w vt rows[i].2.2.2.1 := by
  obtain ⟨v, h1, h2, h3, h4⟩ := h
  have e := cell_obj (i := 0) h1 rfl
  rw [hc] at e
  obtain rfl := Option.some.inj e
  have hlt := h3.lt
  obtain ⟨b, o, d, e1, _, hb, hd, ha⟩ := (h3.sl (fun k hk hf => by
    have := hlt k hk
    rcases hf with hf | hf
    · simp only [Lt] at hf; omega
    · exact h4 k hk hf)).get i hi
  cases e1
  obtain ⟨vq, vs, vt, rfl, hq, hs, ht⟩ := rw_cs hd
  have k0 := ha 0 _ rfl; have k1 := ha 1 _ rfl; have k2 := ha 2 _ rfl; have k3 := ha 3 _ rfl; have k4 := ha 4 _ rfl
  simp only [rw_n, Nat.zero_add, Nat.add_zero] at k0 k1 k2 k3 k4
  exact ⟨vq, vs, vt, k0, k1, k2, k3, k4, hq.weak (fun _ _ f => .inl f), hs.weak (fun _ _ f => .inl f), ht.weak (fun _ _ f => .inl f)⟩
def TailB (l : List Ent) : Prop := l.length ≤ 2199023255488 ∧ ∀ e ∈ l, e.2.2.1.length ≤ 1000000
/-- What a tail that is handed in may be. -/
def TailI (l : List Ent) : Prop := l.length ≤ 2199023255488 ∧ ∀ e ∈ l, e.2.2.1.length ≤ 17592186043904
/-- The terms follow one another. -/
def RowsI (rows : List Rw) : Prop := 0 < rows.length ∧ rows.length ≤ 64 ∧ ∀ i (h : i < rows.length), rows[i].1 = (rows.headD (0, [], [], [], false)).1 + i ∧ rightC rows[i].1 rows[i].2.1 rows[i].2.2.1 = true ∧ TailB rows[i].2.2.2.1
def firstR (rows : List Rw) : Int := (rows.headD (0, [], [], [], false)).1
theorem first_get {rows : List Rw} (h : RowsI rows) (i : Nat) (hi : i < rows.length) : rows[i].1 = firstR rows + i := (h.2.2 i hi).1
theorem first_bound {rows : List Rw} (h : RowsI rows) : 1 ≤ firstR rows ∧ firstR rows + (rows.length - 1 : Nat) ≤ 64 := by
  have hn : 0 < rows.length := h.1
  have hn2 : rows.length - 1 < rows.length := by omega
  have r1 := (rightC_iff.1 (h.2.2 0 hn).2.1).1
  have r2 := (rightC_iff.1 (h.2.2 (rows.length - 1) hn2).2.1).1
  rw [first_get h 0 hn] at r1
  rw [first_get h _ hn2] at r2
  simp only [Int.natCast_zero, Int.add_zero] at r1
  omega
set_option maxRecDepth 100000 in
set_option maxHeartbeats 1000000 in
theorem rfirst_any (B p : Nat) (rows : List Rw) (w : World) (h : RegS w B p rows) (hi : RowsI rows) :
    Calls Try.prog 35 #[.pointer (some ⟨p, 0, none⟩)] w fun e w' => e = .returned (.int .i64 (firstR rows)) ∧ Chg No w w' := by
  obtain ⟨g, c, hc, -⟩ := rg_row h hi.1
  obtain ⟨vq, vs, vt, a0, -⟩ := rg_get h hc 0 hi.1
  rw [first_get hi 0 hi.1] at a0
  simp only [Nat.zero_mul, Int.natCast_zero, Int.add_zero] at a0
  have h0 := hi.1
  clear h hi
  generalize firstR rows = f at *
  go_enter Try.func35, Try.ntmps35
  go_wp2_with (first | (with_reducible refine stop_append ?_) | (with_reducible refine stop_copy ?_) | (with_reducible refine stop_make ?_) | (with_reducible refine stop_lookup ?_) | (with_reducible refine stop_update ?_) | (with_reducible refine stop_slice ?_) | (with_reducible refine stop_range ?_) | (with_reducible refine stop_next ?_) | (with_reducible refine stop_convert ⟨_, rfl⟩ ?_) | (with_reducible refine stop_convertB ⟨_, _, _, rfl⟩ ?_) | (with_reducible refine stop_eqSlice ⟨_, _, rfl⟩ ?_))
  go_ret
  exact ⟨rfl, Chg.refl _ _⟩
set_option maxRecDepth 100000 in
set_option maxHeartbeats 1000000 in
theorem rcurrent_any (B p : Nat) (rows : List Rw) (w : World) (h : RegS w B p rows) (hi : RowsI rows) :
    Calls Try.prog 36 #[.pointer (some ⟨p, 0, none⟩)] w fun e w' => e = .returned (.int .i64 (firstR rows + (rows.length - 1 : Nat))) ∧ Chg No w w' := by
  obtain ⟨g, c, hc, -⟩ := rg_row h hi.1
  obtain ⟨vq, vs, vt, a0, -⟩ := rg_get h hc (rows.length - 1) (by have := hi.1; omega)
  rw [first_get hi (rows.length - 1) (by have := hi.1; omega)] at a0
  have h0 := hi.1
  have h64 := hi.2.1
  clear h hi
  generalize firstR rows = f at *
  obtain ⟨m, hm⟩ : ∃ m, m = rows.length - 1 := ⟨_, rfl⟩
  rw [← hm] at a0 ⊢
  generalize rows.length = n at *
  have hw : IntKind.i64.wrap ((n : Int) - 1) = (m : Int) := by rw [IntWalk.i64_in _ (by omega)]; omega
  have hw2 : (n : Int) - 1 = (m : Int) := by omega
  have hmn : m < n := by omega
  have hmn2 : (m : Int) < n := by omega
  clear hm h0
  go_enter Try.func36, Try.ntmps36
  go_wp2_with (first | (with_reducible refine stop_append ?_) | (with_reducible refine stop_copy ?_) | (with_reducible refine stop_make ?_) | (with_reducible refine stop_lookup ?_) | (with_reducible refine stop_update ?_) | (with_reducible refine stop_slice ?_) | (with_reducible refine stop_range ?_) | (with_reducible refine stop_next ?_) | (with_reducible refine stop_convert ⟨_, rfl⟩ ?_) | (with_reducible refine stop_convertB ⟨_, _, _, rfl⟩ ?_) | (with_reducible refine stop_eqSlice ⟨_, _, rfl⟩ ?_))
  refine pl_start (fun W => W.cell? ⟨p, 0, none⟩ = some (.slice (some ⟨g, 0, none⟩) n c) ∧ W.cell? ⟨g, m * 5, none⟩ = some (.int .i64 (f + m)) ∧ Chg No w W) (by kernel_rfl) (by kernel_rfl) ⟨hc, a0, (Chg.refl No w).drew⟩ ?_
  ((refine pl_yes (i := 0) (oi := { dst := some 3, op := Go.Op.move (Go.Operand.tmp 0), type := 65, pos := "register.go:57", after := #[], guard := none }) (v := ?_) rfl (by kernel_rfl) (by kernel_rfl) rfl ?_ ?_); rotate_left; focus (intro W hW; (try dsimp only at hW); go_split_ands; go_simp; (try (simp (disch := omega) only [IntWalk.i64_in]; (try go_simp))); (try (split; (next => omega); (try go_simp))); try rfl; done))
  try simp only [Act.put, List.setIfInBounds_toArray, List.set_cons_zero, List.set_cons_succ]
  ((refine pl_yes (i := 1) (oi := { dst := some 4, op := Go.Op.nilCheck (Go.Operand.tmp 3), type := 0, pos := "register.go:57", after := #[{ on := 0, ground := Go.Ground.data }], guard := none }) (v := ?_) rfl (by kernel_rfl) (by kernel_rfl) rfl ?_ ?_); rotate_left; focus (intro W hW; (try dsimp only at hW); go_split_ands; go_simp; (try (simp (disch := omega) only [IntWalk.i64_in]; (try go_simp))); (try (split; (next => omega); (try go_simp))); try rfl; done))
  try simp only [Act.put, List.setIfInBounds_toArray, List.set_cons_zero, List.set_cons_succ]
  ((refine pl_yes (i := 2) (oi := { dst := some 5, op := Go.Op.fieldAddr 137 (Go.Operand.tmp 4) 0, type := 0, pos := "register.go:57", after := #[{ on := 1, ground := Go.Ground.data }], guard := none }) (v := ?_) rfl (by kernel_rfl) (by kernel_rfl) rfl ?_ ?_); rotate_left; focus (intro W hW; (try dsimp only at hW); go_split_ands; go_simp; (try (simp (disch := omega) only [IntWalk.i64_in]; (try go_simp))); (try (split; (next => omega); (try go_simp))); try rfl; done))
  try simp only [Act.put, List.setIfInBounds_toArray, List.set_cons_zero, List.set_cons_succ]
  ((refine pl_yes (i := 3) (oi := { dst := some 6, op := Go.Op.load 135 (Go.Operand.tmp 5), type := 135, pos := "register.go:57", after := #[{ on := 2, ground := Go.Ground.data }], guard := none }) (v := ?_) rfl (by kernel_rfl) (by kernel_rfl) rfl ?_ ?_); rotate_left; focus (intro W hW; (try dsimp only at hW); go_split_ands; go_simp; (try (simp (disch := omega) only [IntWalk.i64_in]; (try go_simp))); (try (split; (next => omega); (try go_simp))); try rfl; done))
  try simp only [Act.put, List.setIfInBounds_toArray, List.set_cons_zero, List.set_cons_succ]
  ((refine pl_yes (i := 4) (oi := { dst := some 7, op := Go.Op.move (Go.Operand.tmp 0), type := 65, pos := "register.go:57", after := #[], guard := none }) (v := ?_) rfl (by kernel_rfl) (by kernel_rfl) rfl ?_ ?_); rotate_left; focus (intro W hW; (try dsimp only at hW); go_split_ands; go_simp; (try (simp (disch := omega) only [IntWalk.i64_in]; (try go_simp))); (try (split; (next => omega); (try go_simp))); try rfl; done))
  try simp only [Act.put, List.setIfInBounds_toArray, List.set_cons_zero, List.set_cons_succ]
  ((refine pl_yes (i := 5) (oi := { dst := some 8, op := Go.Op.nilCheck (Go.Operand.tmp 7), type := 0, pos := "register.go:57", after := #[{ on := 4, ground := Go.Ground.data }], guard := none }) (v := ?_) rfl (by kernel_rfl) (by kernel_rfl) rfl ?_ ?_); rotate_left; focus (intro W hW; (try dsimp only at hW); go_split_ands; go_simp; (try (simp (disch := omega) only [IntWalk.i64_in]; (try go_simp))); (try (split; (next => omega); (try go_simp))); try rfl; done))
  try simp only [Act.put, List.setIfInBounds_toArray, List.set_cons_zero, List.set_cons_succ]
  ((refine pl_yes (i := 6) (oi := { dst := some 9, op := Go.Op.fieldAddr 137 (Go.Operand.tmp 8) 0, type := 0, pos := "register.go:57", after := #[{ on := 5, ground := Go.Ground.data }], guard := none }) (v := ?_) rfl (by kernel_rfl) (by kernel_rfl) rfl ?_ ?_); rotate_left; focus (intro W hW; (try dsimp only at hW); go_split_ands; go_simp; (try (simp (disch := omega) only [IntWalk.i64_in]; (try go_simp))); (try (split; (next => omega); (try go_simp))); try rfl; done))
  try simp only [Act.put, List.setIfInBounds_toArray, List.set_cons_zero, List.set_cons_succ]
  ((refine pl_yes (i := 7) (oi := { dst := some 10, op := Go.Op.load 135 (Go.Operand.tmp 9), type := 135, pos := "register.go:57", after := #[{ on := 6, ground := Go.Ground.data }], guard := none }) (v := ?_) rfl (by kernel_rfl) (by kernel_rfl) rfl ?_ ?_); rotate_left; focus (intro W hW; (try dsimp only at hW); go_split_ands; go_simp; (try (simp (disch := omega) only [IntWalk.i64_in]; (try go_simp))); (try (split; (next => omega); (try go_simp))); try rfl; done))
  try simp only [Act.put, List.setIfInBounds_toArray, List.set_cons_zero, List.set_cons_succ]
  ((refine pl_yes (i := 8) (oi := { dst := some 11, op := Go.Op.call { callee := Go.Callee.builtin Go.Builtin.len, args := #[Go.Operand.tmp 10], argTypes := #[135] }, type := 3, pos := "register.go:57", after := #[{ on := 7, ground := Go.Ground.data }], guard := none }) (v := ?_) rfl (by kernel_rfl) (by kernel_rfl) rfl ?_ ?_); rotate_left; focus (intro W hW; (try dsimp only at hW); go_split_ands; go_simp; (try (simp (disch := omega) only [IntWalk.i64_in]; (try go_simp))); (try (split; (next => omega); (try go_simp))); try rfl; done))
  try simp only [Act.put, List.setIfInBounds_toArray, List.set_cons_zero, List.set_cons_succ]
  ((refine pl_yes (i := 9) (oi := { dst := some 12, op := Go.Op.binOp Go.BinOp.sub 3 (Go.Operand.tmp 11) (Go.Operand.const (Go.Value.int Go.IntKind.i64 1)) 3, type := 3, pos := "register.go:57", after := #[{ on := 8, ground := Go.Ground.data }], guard := none }) (v := ?_) rfl (by kernel_rfl) (by kernel_rfl) rfl ?_ ?_); rotate_left; focus (intro W hW; (try dsimp only at hW); go_split_ands; go_simp; (try (simp (disch := omega) only [IntWalk.i64_in]; (try go_simp))); (try (split; (next => omega); (try go_simp))); try rfl; done))
  try simp only [Act.put, List.setIfInBounds_toArray, List.set_cons_zero, List.set_cons_succ]
  ((refine pl_yes (i := 10) (oi := { dst := some 13, op := Go.Op.indexAddr 135 (Go.Operand.tmp 6) (Go.Operand.tmp 12), type := 0, pos := "register.go:57", after := #[{ on := 3, ground := Go.Ground.data }, { on := 9, ground := Go.Ground.data }], guard := none }) (v := ?_) rfl (by kernel_rfl) (by kernel_rfl) rfl ?_ ?_); rotate_left; focus (intro W hW; (try dsimp only at hW); go_split_ands; go_simp; (try (simp (disch := omega) only [IntWalk.i64_in]; (try go_simp))); (try (split; (next => omega); (try go_simp))); try rfl; done))
  try simp only [Act.put, List.setIfInBounds_toArray, List.set_cons_zero, List.set_cons_succ]
  ((refine pl_yes (i := 11) (oi := { dst := some 14, op := Go.Op.fieldAddr 88 (Go.Operand.tmp 13) 0, type := 0, pos := "register.go:57", after := #[{ on := 10, ground := Go.Ground.data }], guard := none }) (v := ?_) rfl (by kernel_rfl) (by kernel_rfl) rfl ?_ ?_); rotate_left; focus (intro W hW; (try dsimp only at hW); go_split_ands; go_simp; (try (simp (disch := omega) only [IntWalk.i64_in]; (try go_simp))); (try (split; (next => omega); (try go_simp))); try rfl; done))
  try simp only [Act.put, List.setIfInBounds_toArray, List.set_cons_zero, List.set_cons_succ]
  ((refine pl_yes (i := 12) (oi := { dst := some 15, op := Go.Op.fieldAddr 68 (Go.Operand.tmp 14) 0, type := 0, pos := "register.go:57", after := #[{ on := 11, ground := Go.Ground.data }], guard := none }) (v := ?_) rfl (by kernel_rfl) (by kernel_rfl) rfl ?_ ?_); rotate_left; focus (intro W hW; (try dsimp only at hW); go_split_ands; go_simp; (try (simp (disch := omega) only [IntWalk.i64_in]; (try go_simp))); (try (split; (next => omega); (try go_simp))); try rfl; done))
  try simp only [Act.put, List.setIfInBounds_toArray, List.set_cons_zero, List.set_cons_succ]
  ((refine pl_yes (i := 13) (oi := { dst := some 16, op := Go.Op.load 3 (Go.Operand.tmp 15), type := 3, pos := "register.go:57", after := #[{ on := 12, ground := Go.Ground.data }], guard := none }) (v := ?_) rfl (by kernel_rfl) (by kernel_rfl) rfl ?_ ?_); rotate_left; focus (intro W hW; (try dsimp only at hW); go_split_ands; go_simp; (try (simp (disch := omega) only [IntWalk.i64_in]; (try go_simp))); (try (split; (next => omega); (try go_simp))); try rfl; done))
  try simp only [Act.put, List.setIfInBounds_toArray, List.set_cons_zero, List.set_cons_succ]
  ((refine pl_yes (i := 14) (oi := { dst := some 2, op := Go.Op.assign (Go.Operand.tmp 16), type := 3, pos := "register.go:57", after := #[{ on := 13, ground := Go.Ground.data }, { on := 0, ground := Go.Ground.phase }, { on := 1, ground := Go.Ground.phase }, { on := 2, ground := Go.Ground.phase }, { on := 3, ground := Go.Ground.phase }, { on := 4, ground := Go.Ground.phase }, { on := 5, ground := Go.Ground.phase }, { on := 6, ground := Go.Ground.phase }, { on := 7, ground := Go.Ground.phase }, { on := 8, ground := Go.Ground.phase }, { on := 9, ground := Go.Ground.phase }, { on := 10, ground := Go.Ground.phase }, { on := 11, ground := Go.Ground.phase }, { on := 12, ground := Go.Ground.phase }, { on := 13, ground := Go.Ground.phase }], guard := none }) (v := ?_) rfl (by kernel_rfl) (by kernel_rfl) rfl ?_ ?_); rotate_left; focus (intro W hW; (try dsimp only at hW); go_split_ands; go_simp; (try (simp (disch := omega) only [IntWalk.i64_in]; (try go_simp))); (try (split; (next => omega); (try go_simp))); try rfl; done))
  try simp only [Act.put, List.setIfInBounds_toArray, List.set_cons_zero, List.set_cons_succ]
  -- ready: []
  refine pl_done (by kernel_rfl)  ?_
  rintro w2 ⟨_, _, hc2⟩
  go_wp2_with (first | (with_reducible refine stop_append ?_) | (with_reducible refine stop_copy ?_) | (with_reducible refine stop_make ?_) | (with_reducible refine stop_lookup ?_) | (with_reducible refine stop_update ?_) | (with_reducible refine stop_slice ?_) | (with_reducible refine stop_range ?_) | (with_reducible refine stop_next ?_) | (with_reducible refine stop_convert ⟨_, rfl⟩ ?_) | (with_reducible refine stop_convertB ⟨_, _, _, rfl⟩ ?_) | (with_reducible refine stop_eqSlice ⟨_, _, rfl⟩ ?_))
  go_ret
  exact ⟨rfl, hc2⟩
set_option maxRecDepth 100000 in
set_option maxHeartbeats 1000000 in
theorem rat_yes (B p : Nat) (rows : List Rw) (w : World) (h : RegS w B p rows) (hi : RowsI rows) {g n c : Nat} (hc : w.cell? ⟨p, 0, none⟩ = some (.slice (some ⟨g, 0, none⟩) n c)) (hn : n = rows.length) (i : Nat) (hlt : i < rows.length) :
    Calls Try.prog 69 #[.pointer (some ⟨p, 0, none⟩), .int .i64 (firstR rows + i)] w fun e w' => e = .returned (.pointer (some ⟨g, i * 5, none⟩)) ∧ Chg No w w' := by
  subst hn
  have Hf := Lib.hid (fun W (hW : Chg No w W) => rfirst_any B p rows W (h.keepNo hW) hi)
  have Hcur := Lib.hid (fun W (hW : Chg No w W) => rcurrent_any B p rows W (h.keepNo hW) hi)
  obtain ⟨hb1, hb2⟩ := first_bound hi
  have h64 := hi.2.1
  clear h hi
  generalize firstR rows = f at *
  obtain ⟨t, ht⟩ : ∃ t, t = f + i := ⟨_, rfl⟩
  obtain ⟨l, hl⟩ : ∃ l, l = f + (rows.length - 1 : Nat) := ⟨_, rfl⟩
  rw [← hl] at Hcur
  rw [← ht]
  have k1 : ¬ t < f := by omega
  have k2 : ¬ l < t := by omega
  have hw : IntKind.i64.wrap (t - f) = (i : Int) := by rw [ht]; rw [IntWalk.i64_in _ (by omega)]; omega
  have hw2 : t - f = (i : Int) := by omega
  clear hb1 hb2 ht hl
  go_enter Try.func69, Try.ntmps69
  go_wp2_with (first | (with_reducible refine stop_append ?_) | (with_reducible refine stop_copy ?_) | (with_reducible refine stop_make ?_) | (with_reducible refine stop_lookup ?_) | (with_reducible refine stop_update ?_) | (with_reducible refine stop_slice ?_) | (with_reducible refine stop_range ?_) | (with_reducible refine stop_next ?_) | (with_reducible refine stop_convert ⟨_, rfl⟩ ?_) | (with_reducible refine stop_convertB ⟨_, _, _, rfl⟩ ?_) | (with_reducible refine stop_eqSlice ⟨_, _, rfl⟩ ?_))
  refine (Hf.out _ (Chg.refl _ _)).mono ?_
  rintro e w1 ⟨rfl, hc1⟩
  go_wp2_with (first | (with_reducible refine stop_append ?_) | (with_reducible refine stop_copy ?_) | (with_reducible refine stop_make ?_) | (with_reducible refine stop_lookup ?_) | (with_reducible refine stop_update ?_) | (with_reducible refine stop_slice ?_) | (with_reducible refine stop_range ?_) | (with_reducible refine stop_next ?_) | (with_reducible refine stop_convert ⟨_, rfl⟩ ?_) | (with_reducible refine stop_convertB ⟨_, _, _, rfl⟩ ?_) | (with_reducible refine stop_eqSlice ⟨_, _, rfl⟩ ?_))
  refine (Hcur.out _ hc1).mono ?_
  rintro e w2 ⟨rfl, hc2⟩
  have hcw := hc1.trans hc2
  go_wp2_with (first | (with_reducible refine stop_append ?_) | (with_reducible refine stop_copy ?_) | (with_reducible refine stop_make ?_) | (with_reducible refine stop_lookup ?_) | (with_reducible refine stop_update ?_) | (with_reducible refine stop_slice ?_) | (with_reducible refine stop_range ?_) | (with_reducible refine stop_next ?_) | (with_reducible refine stop_convert ⟨_, rfl⟩ ?_) | (with_reducible refine stop_convertB ⟨_, _, _, rfl⟩ ?_) | (with_reducible refine stop_eqSlice ⟨_, _, rfl⟩ ?_))
  refine pl_start (fun W => W.cell? ⟨p, 0, none⟩ = some (.slice (some ⟨g, 0, none⟩) rows.length c) ∧ Chg No w W) (by kernel_rfl) (by kernel_rfl) ⟨hcw.cell hc (not_no _), hcw.drew⟩ ?_
  ((refine pl_yes (i := 0) (oi := { dst := some 15, op := Go.Op.move (Go.Operand.tmp 0), type := 65, pos := "register.go:64", after := #[], guard := none }) (v := ?_) rfl (by kernel_rfl) (by kernel_rfl) rfl ?_ ?_); rotate_left; focus (intro W hW; (try dsimp only at hW); go_split_ands; go_simp; (try (simp (disch := omega) only [IntWalk.i64_in]; (try go_simp))); (try (split; (next => omega); (try go_simp))); try rfl; done))
  try simp only [Act.put, List.setIfInBounds_toArray, List.set_cons_zero, List.set_cons_succ]
  ((refine pl_yes (i := 1) (oi := { dst := some 16, op := Go.Op.nilCheck (Go.Operand.tmp 15), type := 0, pos := "register.go:64", after := #[{ on := 0, ground := Go.Ground.data }], guard := none }) (v := ?_) rfl (by kernel_rfl) (by kernel_rfl) rfl ?_ ?_); rotate_left; focus (intro W hW; (try dsimp only at hW); go_split_ands; go_simp; (try (simp (disch := omega) only [IntWalk.i64_in]; (try go_simp))); (try (split; (next => omega); (try go_simp))); try rfl; done))
  try simp only [Act.put, List.setIfInBounds_toArray, List.set_cons_zero, List.set_cons_succ]
  ((refine pl_yes (i := 2) (oi := { dst := some 17, op := Go.Op.fieldAddr 137 (Go.Operand.tmp 16) 0, type := 0, pos := "register.go:64", after := #[{ on := 1, ground := Go.Ground.data }], guard := none }) (v := ?_) rfl (by kernel_rfl) (by kernel_rfl) rfl ?_ ?_); rotate_left; focus (intro W hW; (try dsimp only at hW); go_split_ands; go_simp; (try (simp (disch := omega) only [IntWalk.i64_in]; (try go_simp))); (try (split; (next => omega); (try go_simp))); try rfl; done))
  try simp only [Act.put, List.setIfInBounds_toArray, List.set_cons_zero, List.set_cons_succ]
  ((refine pl_yes (i := 3) (oi := { dst := some 18, op := Go.Op.load 135 (Go.Operand.tmp 17), type := 135, pos := "register.go:64", after := #[{ on := 2, ground := Go.Ground.data }], guard := none }) (v := ?_) rfl (by kernel_rfl) (by kernel_rfl) rfl ?_ ?_); rotate_left; focus (intro W hW; (try dsimp only at hW); go_split_ands; go_simp; (try (simp (disch := omega) only [IntWalk.i64_in]; (try go_simp))); (try (split; (next => omega); (try go_simp))); try rfl; done))
  try simp only [Act.put, List.setIfInBounds_toArray, List.set_cons_zero, List.set_cons_succ]
  ((refine pl_yes (i := 4) (oi := { dst := some 19, op := Go.Op.move (Go.Operand.tmp 1), type := 3, pos := "register.go:64", after := #[], guard := none }) (v := ?_) rfl (by kernel_rfl) (by kernel_rfl) rfl ?_ ?_); rotate_left; focus (intro W hW; (try dsimp only at hW); go_split_ands; go_simp; (try (simp (disch := omega) only [IntWalk.i64_in]; (try go_simp))); (try (split; (next => omega); (try go_simp))); try rfl; done))
  try simp only [Act.put, List.setIfInBounds_toArray, List.set_cons_zero, List.set_cons_succ]
  ((refine pl_yes (i := 5) (oi := { dst := some 20, op := Go.Op.move (Go.Operand.tmp 0), type := 65, pos := "register.go:64", after := #[], guard := none }) (v := ?_) rfl (by kernel_rfl) (by kernel_rfl) rfl ?_ ?_); rotate_left; focus (intro W hW; (try dsimp only at hW); go_split_ands; go_simp; (try (simp (disch := omega) only [IntWalk.i64_in]; (try go_simp))); (try (split; (next => omega); (try go_simp))); try rfl; done))
  try simp only [Act.put, List.setIfInBounds_toArray, List.set_cons_zero, List.set_cons_succ]
  -- ready: [6]
  refine pl_call (i := 6) (oi := { dst := some 21, op := Go.Op.call { callee := Go.Callee.value (Go.Operand.func 35), args := #[Go.Operand.tmp 20], argTypes := #[65] }, type := 3, pos := "register.go:64", after := #[{ on := 5, ground := Go.Ground.data }], guard := none }) (.int .i64 f) rfl (by kernel_rfl) (by kernel_rfl) rfl (by exact (fun W hW => (Hf.out W hW.2).mono fun e w' h => ⟨h.1, h.2.cell hW.1 (not_no _), hW.2.trans h.2⟩)) (fun W => by kernel_rfl) ?_
  try simp only [Act.put, List.setIfInBounds_toArray, List.set_cons_zero, List.set_cons_succ]
  ((refine pl_yes (i := 7) (oi := { dst := some 22, op := Go.Op.binOp Go.BinOp.sub 3 (Go.Operand.tmp 19) (Go.Operand.tmp 21) 3, type := 3, pos := "register.go:64", after := #[{ on := 4, ground := Go.Ground.data }, { on := 6, ground := Go.Ground.data }], guard := none }) (v := ?_) rfl (by kernel_rfl) (by kernel_rfl) rfl ?_ ?_); rotate_left; focus (intro W hW; (try dsimp only at hW); go_split_ands; go_simp; (try (simp (disch := omega) only [IntWalk.i64_in]; (try go_simp))); (try (split; (next => omega); (try go_simp))); try rfl; done))
  try simp only [Act.put, List.setIfInBounds_toArray, List.set_cons_zero, List.set_cons_succ]
  ((refine pl_yes (i := 8) (oi := { dst := some 23, op := Go.Op.indexAddr 135 (Go.Operand.tmp 18) (Go.Operand.tmp 22), type := 0, pos := "register.go:64", after := #[{ on := 3, ground := Go.Ground.data }, { on := 7, ground := Go.Ground.data }], guard := none }) (v := ?_) rfl (by kernel_rfl) (by kernel_rfl) rfl ?_ ?_); rotate_left; focus (intro W hW; (try dsimp only at hW); go_split_ands; go_simp; (try (simp (disch := omega) only [IntWalk.i64_in]; (try go_simp))); (try (split; (next => omega); (try go_simp))); try rfl; done))
  try simp only [Act.put, List.setIfInBounds_toArray, List.set_cons_zero, List.set_cons_succ]
  ((refine pl_yes (i := 9) (oi := { dst := some 4, op := Go.Op.assign (Go.Operand.tmp 23), type := 139, pos := "register.go:64", after := #[{ on := 8, ground := Go.Ground.data }, { on := 6, ground := Go.Ground.chain }, { on := 0, ground := Go.Ground.phase }, { on := 1, ground := Go.Ground.phase }, { on := 2, ground := Go.Ground.phase }, { on := 3, ground := Go.Ground.phase }, { on := 4, ground := Go.Ground.phase }, { on := 5, ground := Go.Ground.phase }, { on := 6, ground := Go.Ground.phase }, { on := 7, ground := Go.Ground.phase }, { on := 8, ground := Go.Ground.phase }], guard := none }) (v := ?_) rfl (by kernel_rfl) (by kernel_rfl) rfl ?_ ?_); rotate_left; focus (intro W hW; (try dsimp only at hW); go_split_ands; go_simp; (try (simp (disch := omega) only [IntWalk.i64_in]; (try go_simp))); (try (split; (next => omega); (try go_simp))); try rfl; done))
  try simp only [Act.put, List.setIfInBounds_toArray, List.set_cons_zero, List.set_cons_succ]
  -- ready: []
  refine pl_done (by kernel_rfl)  ?_
  rintro w4 ⟨_, hc4⟩
  go_wp2_with (first | (with_reducible refine stop_append ?_) | (with_reducible refine stop_copy ?_) | (with_reducible refine stop_make ?_) | (with_reducible refine stop_lookup ?_) | (with_reducible refine stop_update ?_) | (with_reducible refine stop_slice ?_) | (with_reducible refine stop_range ?_) | (with_reducible refine stop_next ?_) | (with_reducible refine stop_convert ⟨_, rfl⟩ ?_) | (with_reducible refine stop_convertB ⟨_, _, _, rfl⟩ ?_) | (with_reducible refine stop_eqSlice ⟨_, _, rfl⟩ ?_))
  go_ret
  exact ⟨rfl, hc4⟩
set_option maxRecDepth 100000 in
set_option maxHeartbeats 1000000 in
theorem rat_no (B p : Nat) (rows : List Rw) (w : World) (h : RegS w B p rows) (hi : RowsI rows) (t : Int) (ht : t < firstR rows ∨ firstR rows + (rows.length - 1 : Nat) < t) :
    Calls Try.prog 69 #[.pointer (some ⟨p, 0, none⟩), .int .i64 t] w fun e w' => e = .returned (.pointer none) ∧ Chg No w w' := by
  have Hf := Lib.hid (fun W (hW : Chg No w W) => rfirst_any B p rows W (h.keepNo hW) hi)
  have Hcur := Lib.hid (fun W (hW : Chg No w W) => rcurrent_any B p rows W (h.keepNo hW) hi)
  clear h hi
  generalize firstR rows = f at *
  generalize f + (rows.length - 1 : Nat) = l at *
  by_cases k1 : t < f
  · clear ht
    go_enter Try.func69, Try.ntmps69
    go_wp2_with (first | (with_reducible refine stop_append ?_) | (with_reducible refine stop_copy ?_) | (with_reducible refine stop_make ?_) | (with_reducible refine stop_lookup ?_) | (with_reducible refine stop_update ?_) | (with_reducible refine stop_slice ?_) | (with_reducible refine stop_range ?_) | (with_reducible refine stop_next ?_) | (with_reducible refine stop_convert ⟨_, rfl⟩ ?_) | (with_reducible refine stop_convertB ⟨_, _, _, rfl⟩ ?_) | (with_reducible refine stop_eqSlice ⟨_, _, rfl⟩ ?_))
    refine (Hf.out _ (Chg.refl _ _)).mono ?_
    rintro e w1 ⟨rfl, hc1⟩
    go_wp2_with (first | (with_reducible refine stop_append ?_) | (with_reducible refine stop_copy ?_) | (with_reducible refine stop_make ?_) | (with_reducible refine stop_lookup ?_) | (with_reducible refine stop_update ?_) | (with_reducible refine stop_slice ?_) | (with_reducible refine stop_range ?_) | (with_reducible refine stop_next ?_) | (with_reducible refine stop_convert ⟨_, rfl⟩ ?_) | (with_reducible refine stop_convertB ⟨_, _, _, rfl⟩ ?_) | (with_reducible refine stop_eqSlice ⟨_, _, rfl⟩ ?_))
    go_ret
    exact ⟨rfl, hc1⟩
  · have k2 : l < t := by omega
    clear ht
    go_enter Try.func69, Try.ntmps69
    go_wp2_with (first | (with_reducible refine stop_append ?_) | (with_reducible refine stop_copy ?_) | (with_reducible refine stop_make ?_) | (with_reducible refine stop_lookup ?_) | (with_reducible refine stop_update ?_) | (with_reducible refine stop_slice ?_) | (with_reducible refine stop_range ?_) | (with_reducible refine stop_next ?_) | (with_reducible refine stop_convert ⟨_, rfl⟩ ?_) | (with_reducible refine stop_convertB ⟨_, _, _, rfl⟩ ?_) | (with_reducible refine stop_eqSlice ⟨_, _, rfl⟩ ?_))
    refine (Hf.out _ (Chg.refl _ _)).mono ?_
    rintro e w1 ⟨rfl, hc1⟩
    go_wp2_with (first | (with_reducible refine stop_append ?_) | (with_reducible refine stop_copy ?_) | (with_reducible refine stop_make ?_) | (with_reducible refine stop_lookup ?_) | (with_reducible refine stop_update ?_) | (with_reducible refine stop_slice ?_) | (with_reducible refine stop_range ?_) | (with_reducible refine stop_next ?_) | (with_reducible refine stop_convert ⟨_, rfl⟩ ?_) | (with_reducible refine stop_convertB ⟨_, _, _, rfl⟩ ?_) | (with_reducible refine stop_eqSlice ⟨_, _, rfl⟩ ?_))
    refine (Hcur.out _ hc1).mono ?_
    rintro e w2 ⟨rfl, hc2⟩
    go_wp2_with (first | (with_reducible refine stop_append ?_) | (with_reducible refine stop_copy ?_) | (with_reducible refine stop_make ?_) | (with_reducible refine stop_lookup ?_) | (with_reducible refine stop_update ?_) | (with_reducible refine stop_slice ?_) | (with_reducible refine stop_range ?_) | (with_reducible refine stop_next ?_) | (with_reducible refine stop_convert ⟨_, rfl⟩ ?_) | (with_reducible refine stop_convertB ⟨_, _, _, rfl⟩ ?_) | (with_reducible refine stop_eqSlice ⟨_, _, rfl⟩ ?_))
    go_ret
    exact ⟨rfl, hc1.trans hc2⟩
end Go.Proofs.Ytbjpoamnglfjeaa
