/- Walks of package register: at, for any term; what an install does to the rows. -/
import Derived.Test.YtbjpoamnglfjeaaRegQ
import Derived.Test.YtbjpoamnglfjeaaRegP
import Derived.Test.YtbjpoamnglfjeaaTerC
set_option linter.unusedVariables false
set_option linter.unusedSimpArgs false
namespace Go.Proofs.Ytbjpoamnglfjeaa
open Go.RowKit Cb

def atR (rows : List Rw) (t : Int) : Option Nat := if firstR rows ≤ t ∧ t ≤ firstR rows + (rows.length - 1 : Nat) then some (t - firstR rows).toNat else none
def atV (g : Nat) (o : Option Nat) : Option Addr := o.map (fun i => ⟨g, i * 5, none⟩)
def rowA (rows : List Rw) (i : Nat) : Rw := rows.getD i (0, [], [], [], false)
def nsF (rows : List Rw) (t : Int) : Option Nat := (atR rows t).map (fun i => (rowA rows i).2.2.1.length)
theorem rowA_get (rows : List Rw) (i : Nat) (h : i < rows.length) : rowA rows i = rows[i] := by simp [rowA, h]
theorem atR_some {rows : List Rw} (hi : 0 < rows.length) {t : Int} {i : Nat} (h : atR rows t = some i) : i < rows.length ∧ t = firstR rows + i := by
  unfold atR at h
  split at h
  · next hc => cases h; omega
  · cases h
theorem atR_none {rows : List Rw} {t : Int} (h : atR rows t = none) : t < firstR rows ∨ firstR rows + (rows.length - 1 : Nat) < t := by
  unfold atR at h
  split at h
  · cases h
  · omega
/-- The register's own blocks. -/
def RegF (w : World) (p : Nat) : Nat → Prop := fun k => k = p ∨ ∃ v, w.cell? ⟨p, 0, none⟩ = some v ∧ v.ownBlock = some k
theorem regF_iff {w : World} {p g n c : Nat} (hc : w.cell? ⟨p, 0, none⟩ = some (.slice (some ⟨g, 0, none⟩) n c)) (k : Nat) : RegF w p k ↔ k = p ∨ k = g := by
  unfold RegF
  rw [hc]
  constructor
  · rintro (h | ⟨v, h1, h2⟩)
    · exact .inl h
    · cases h1
      simp only [Value.ownBlock, Option.some.injEq] at h2
      exact .inr h2.symm
  · rintro (h | h)
    · exact .inl h
    · exact .inr ⟨_, rfl, by simp [Value.ownBlock, h]⟩
theorem regF_of {w w' : World} {p : Nat} (h : w'.cell? ⟨p, 0, none⟩ = w.cell? ⟨p, 0, none⟩) {k : Nat} (hk : RegF w' p k) : RegF w p k := by
  unfold RegF at *
  rwa [h] at hk
theorem regS_cell {w : World} {B p : Nat} {rows : List Rw} (h : RegS w B p rows) : ∃ v, w.cell? ⟨p, 0, none⟩ = some v ∧ ∀ k, v.ownBlock = some k → B ≤ k ∧ k < w.heap.size := by
  obtain ⟨v, h1, h2, h3, h4⟩ := h
  exact ⟨v, cell_obj h1 rfl, h3.lt⟩
theorem regF_lt {w : World} {B p : Nat} {rows : List Rw} (h : RegS w B p rows) {k : Nat} (hk : RegF w p k) : B ≤ k ∧ k < w.heap.size := by
  obtain ⟨v, h1, h2⟩ := regS_cell h
  rcases hk with rfl | ⟨v', h3, h4⟩
  · exact ⟨by obtain ⟨_, _, h, _⟩ := h; exact h, h.lt⟩
  · rw [h1] at h3; cases h3; exact h2 k h4
theorem regF_no {w w' : World} {B p : Nat} {rows : List Rw} (h : RegS w B p rows) (hc : Chg No w w') {k : Nat} (hk : RegF w' p k) : RegF w p k := by
  obtain ⟨v, h1, -⟩ := regS_cell h
  exact regF_of (by rw [hc.cell h1 (not_no _), h1]) hk
/-- A block that lies, and is none of the register's. -/
def Off (w : World) (p b : Nat) : Prop := b < w.heap.size ∧ ¬ RegF w p b
theorem Off.no {w w' : World} {B p b : Nat} {rows : List Rw} (h : Off w p b) (hr : RegS w B p rows) (hc : Chg No w w') : Off w' p b :=
  ⟨by have := hc.size; have := h.1; omega, fun hk => h.2 (regF_no hr hc hk)⟩
theorem Off.new {w w' : World} {B p b : Nat} {rows : List Rw} (hr : RegS w B p rows) (hc : Chg No w w') (h1 : w.heap.size ≤ b) (h2 : b < w'.heap.size) : Off w' p b :=
  ⟨h2, fun hk => by have := (regF_lt hr (regF_no hr hc hk)).2; omega⟩
/-- What an install did to memory. -/
def Inst (w w' : World) (p : Nat) : Prop := Chg (RegF w p) w w' ∧ ∀ k, RegF w' p k → RegF w p k ∨ w.heap.size ≤ k
theorem Off.inst {w w' : World} {p b : Nat} (h : Off w p b) (hc : Inst w w' p) : Off w' p b :=
  ⟨by have := hc.1.size; have := h.1; omega, fun hk => by rcases hc.2 b hk with h1 | h1; exact h.2 h1; have := h.1; omega⟩
theorem Off.obj {w w' : World} {p b : Nat} (h : Off w p b) (hc : Inst w w' p) {o : Obj} (ho : w.heap[b]? = some o) : w'.heap[b]? = some o := hc.1.obj ho h.2
theorem Inst.no {w w' : World} {B p : Nat} {rows : List Rw} (hr : RegS w B p rows) (hc : Chg No w w') : Inst w w' p := ⟨hc.of_no, fun k hk => .inl (regF_no hr hc hk)⟩
theorem Inst.ge {w w' : World} {B p : Nat} {rows : List Rw} (h : Inst w w' p) (hr : RegS w B p rows) : Chg (Ge B) w w' := h.1.weak (fun k _ hk => (regF_lt hr hk).1)
/-- What an install answers, and the rows behind it. -/
def installG (rows : List Rw) (t : Int) (q : List Int) (s : List (List Int)) (l : List Ent) (fb : Bool) (oo ao : Option Nat) : Int × List Rw :=
  if fb then
    match oo, ao with
    | some j, some i => (if sameC (rowA rows j).1 (rowA rows j).2.1 (rowA rows j).2.2.1 t q s && decide ((rowA rows i).2.2.2.1 = l) then 0 else 140, rows)
    | some _, none => (140, rows)
    | none, some i => (0, rows.set i ((rowA rows i).1, (rowA rows i).2.1, (rowA rows i).2.2.1, l, true) ++ [(t, q, s, [], false)])
    | none, none => (141, rows)
  else (1, rows)
def installF (rows : List Rw) (t : Int) (q : List Int) (s : List (List Int)) (l : List Ent) : Int × List Rw :=
  installG rows t q s l (rightC t q s && fitsB (nsF rows (t - 1)) l) (atR rows t) (atR rows (t - 1))
theorem rat_any (B p : Nat) (rows : List Rw) (w : World) (h : RegS w B p rows) (hi : RowsI rows) {g n c : Nat} (hc : w.cell? ⟨p, 0, none⟩ = some (.slice (some ⟨g, 0, none⟩) n c)) (hn : n = rows.length) (t : Int) :
    Calls Try.prog 69 #[.pointer (some ⟨p, 0, none⟩), .int .i64 t] w fun e w' => e = .returned (.pointer (atV g (atR rows t))) ∧ Chg No w w' := by
  rcases ho : atR rows t with _ | i
  · exact rat_no B p rows w h hi t (atR_none ho)
  · obtain ⟨h1, rfl⟩ := atR_some hi.1 ho
    exact rat_yes B p rows w h hi hc hn i h1
theorem rowp_any {w : World} {B p : Nat} {rows : List Rw} (h : RegS w B p rows) (hi : RowsI rows) {g n c : Nat} (hc : w.cell? ⟨p, 0, none⟩ = some (.slice (some ⟨g, 0, none⟩) n c)) (t : Int) :
    RowP w (atV g (atR rows t)) (nsF rows t) := by
  unfold nsF
  rcases ho : atR rows t with _ | i
  · exact .inl ⟨rfl, rfl⟩
  · obtain ⟨h1, -⟩ := atR_some hi.1 ho
    obtain ⟨vq, vs, vt, k0, k1, k2, k3, k4, s1, s2, s3⟩ := rg_get h hc i h1
    obtain ⟨As, cs, rfl⟩ := s2.slice
    exact .inr ⟨g, i * 5, _, As, cs, rfl, by simp [rowA_get rows i h1], k2⟩
theorem chain_all (l : List Ent) : ∀ i last, (chainF l i last).1 = i + l.length → ∀ e ∈ l, entR e = true := by
  induction l with
  | nil => intro i last _ e he; cases he
  | cons x r ih =>
    intro i last h
    simp only [chainF] at h
    split at h
    · next hk =>
      simp only [List.length_cons] at h
      have hr := ih (i + 1) (lastE last x) (by omega)
      simp only [okE, Bool.and_eq_true] at hk
      exact fun e he => by
        rcases List.mem_cons.1 he with rfl | he
        · exact hk.1
        · exact hr e he
    · simp at h
theorem entR_cut {e : Ent} (h : entR e = true) : e.2.2.1.length ≤ 8 := by
  unfold entR at h
  rw [Bool.and_eq_true] at h
  obtain ⟨_, h⟩ := h
  split at h
  · rw [Bool.and_eq_true] at h; exact (vright_iff.1 h.1).2.1
  · split at h
    · simp only [Bool.and_eq_true, decide_eq_true_eq] at h; omega
    · cases h
theorem fits_tail {nn : Option Nat} {l : List Ent} (h : fitsB nn l = true) (hi : TailI l) : TailB l := by
  unfold fitsB at h
  rw [Bool.and_eq_true, decide_eq_true_eq] at h
  exact ⟨hi.1, fun e he => by have := entR_cut (chain_all l 0 [] (by omega) e he); omega⟩
end Go.Proofs.Ytbjpoamnglfjeaa
