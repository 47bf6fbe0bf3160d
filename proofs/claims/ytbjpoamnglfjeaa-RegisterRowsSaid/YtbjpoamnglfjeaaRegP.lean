/- A cell of a row of the call's own is written. It speaks of no program. -/
import Derived.Test.YtbjpoamnglfjeaaRegC
set_option linter.unusedVariables false
set_option linter.unusedSimpArgs false
namespace Go.Proofs.Ytbjpoamnglfjeaa
open Go.RowKit Cb

theorem flatten_setn {n : Nat} (ds : List (List Value)) : ∀ (hd : ∀ d ∈ ds, d.length = n) (k j : Nat) (u : Value) (hk : k < ds.length) (hj : j < n), ds.flatten.set (k * n + j) u = (ds.set k (ds[k].set j u)).flatten := by
  induction ds with
  | nil => intro _ k _ _ hk; simp at hk
  | cons d r ih =>
    intro hd k j u hk hj
    have hl := hd d (List.mem_cons_self ..)
    cases k with
    | zero =>
      simp only [Nat.zero_mul, Nat.zero_add, List.flatten_cons, List.set_cons_zero, List.getElem_cons_zero]
      exact List.set_append_left _ _ (by omega)
    | succ k =>
      simp only [List.flatten_cons, List.set_cons_succ, List.getElem_cons_succ]
      rw [List.set_append_right _ _ (by rw [hl, Nat.succ_mul]; omega), show (k + 1) * n + j - d.length = k * n + j by rw [hl, Nat.succ_mul]; omega, ih (fun x hx => hd x (List.mem_cons_of_mem _ hx)) k j u (by simpa using hk) hj]
theorem own_set {α : Type} [Rep α] {F : Nat → Prop} {w : World} {base : Nat} {T : TypeId} {v : Value} {xs : List α} (h : Cb.Own F w base T v xs) (k : Nat) (hk : k < xs.length) {b : Nat} (hb : v.ownBlock = some b) (j : Nat) (hj : j < Rep.n α) (u : Value) (y : α)
    (hy : ∀ d, Rep.cs (Or F (OB v)) w xs[k] d → Rep.cs (Or F (OB v)) w y (d.set j u)) :
    Cb.Own F (w.setCell ⟨b, k * Rep.n α + j, none⟩ u) base T v (xs.set k y) ∧ w.frozen? ⟨b, k * Rep.n α + j, none⟩ = false := by
  obtain ⟨ds, hl, hd, ho1, ho2⟩ := h
  have hlen : ∀ d ∈ ds, d.length = Rep.n α := fun d hd' => by
    obtain ⟨i, hi, rfl⟩ := List.mem_iff_getElem.1 hd'
    exact Rep.len (hd i (by omega) hi)
  rcases ho2 with ⟨rfl, h0⟩ | ⟨g, cap, cur, rfl, hbg, hg, hnc, hm, hs, ht⟩
  · omega
  · obtain rfl : g = b := by simpa [Value.ownBlock] using hb
    have hkd : k < ds.length := by omega
    have hc : Chg (Or F (OB (.slice (some ⟨g, 0, none⟩) xs.length cap))) w (w.setCell ⟨g, k * Rep.n α + j, none⟩ u) := (Chg.refl _ w).setCell (p := ⟨g, k * Rep.n α + j, none⟩) (.inl (.inr rfl)) u
    refine ⟨⟨ds.set k (ds[k].set j u), by simpa using hl, fun i hi hi' => ?_, ?_, .inr ⟨g, cap, cur.setIfInBounds (k * Rep.n α + j) u, by simp, hbg, set_obj hg _, by simpa using hnc, hm, by simpa using hs, ?_⟩⟩, free_obj hg⟩
    · rw [List.getElem_set, List.getElem_set]
      by_cases e : k = i
      · subst e
        rw [if_pos rfl, if_pos rfl]
        exact Rep.keep (hy _ (hd k hk hkd)) hc
      · rw [if_neg e, if_neg e]
        exact Rep.keep (hd i (by simpa using hi) (by simpa using hi')) hc
    · rw [← flatten_setn ds hlen k j u hkd hj, List.length_set, List.length_set, ho1]
    · rw [← flatten_setn ds hlen k j u hkd hj, ← ht, List.length_set, Array.toList_setIfInBounds, List.take_set]
/-- A row of the register is told to be over: its tail and its mark are written. -/
theorem reg_over {w : World} {B p : Nat} {rows : List Rw} (h : RegS w B p rows) {g n c : Nat} (hc : w.cell? ⟨p, 0, none⟩ = some (.slice (some ⟨g, 0, none⟩) n c)) (k : Nat) (hk : k < rows.length) (A : Option Addr) (m d : Nat) (l : List Ent)
    (hs : Sl (Or (Or (Lt B) (At p)) (At g)) w (.slice A m d) l) :
    RegS ((w.setCell ⟨g, k * 5 + 3, none⟩ (.slice A m d)).setCell ⟨g, k * 5 + 4, none⟩ (.bool true)) B p (rows.set k (rows[k].1, rows[k].2.1, rows[k].2.2.1, l, true)) ∧
      w.frozen? ⟨g, k * 5 + 3, none⟩ = false ∧ (w.setCell ⟨g, k * 5 + 3, none⟩ (.slice A m d)).frozen? ⟨g, k * 5 + 4, none⟩ = false := by
  obtain ⟨v, h1, h2, h3, h4⟩ := h
  have e := cell_obj (i := 0) h1 rfl
  rw [hc] at e
  obtain rfl := Option.some.inj e
  have hgp : p ≠ g := fun e => h4 g rfl e.symm
  have hsg : Sl (Or (Or (Lt B) (At p)) (OB (.slice (some ⟨g, 0, none⟩) n c))) w (.slice A m d) l := hs.weak (fun b _ hb => by
    rcases hb with hb | hb
    · exact .inl hb
    · simp only [OB, Value.ownBlock, Option.some.injEq] at hb; exact .inr (by simp only [At]; omega))
  obtain ⟨o1, f1⟩ := own_set h3 k hk (b := g) rfl 3 (by rw [rw_n]; omega) (.slice A m d) ((rows[k].1, rows[k].2.1, rows[k].2.2.1, l, rows[k].2.2.2.2) : Rw) (fun dd hd => by
    obtain ⟨vq, vs, vt, rfl, hq, hsS, ht⟩ := rw_cs hd
    exact rw_mk (rows[k].1, rows[k].2.1, rows[k].2.2.1, l, rows[k].2.2.2.2) hq hsS hsg)
  obtain ⟨o2, f2⟩ := own_set o1 k (by simpa using hk) (b := g) rfl 4 (by rw [rw_n]; omega) (.bool true) ((rows[k].1, rows[k].2.1, rows[k].2.2.1, l, true) : Rw) (fun dd hd => by
    rw [List.getElem_set_self] at hd
    obtain ⟨vq, vs, vt, rfl, hq, hsS, ht⟩ := rw_cs hd
    exact rw_mk (rows[k].1, rows[k].2.1, rows[k].2.2.1, l, true) hq hsS ht)
  rw [List.set_set] at o2
  rw [rw_n] at o1 o2 f1 f2
  exact ⟨⟨_, obj_set_other (obj_set_other h1 hgp) hgp, h2, o2, h4⟩, f1, f2⟩
end Go.Proofs.Ytbjpoamnglfjeaa
