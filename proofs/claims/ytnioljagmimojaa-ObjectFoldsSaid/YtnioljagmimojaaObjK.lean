/- Walks of package object: Fields. -/
import Derived.Test.YtnioljagmimojaaLayK
import Derived.Test.YtnioljagmimojaaLawP
set_option linter.unusedVariables false
set_option linter.unusedSimpArgs false
namespace Go.Proofs.Ytnioljagmimojaa
open Go.RowKit Go.Maps Go.Sort Go.Shelf

theorem sortsA (m : Nat) : AnyZI.SortsIn Try.prog sortedA_ren Fence.wide m :=
  ⟨fun blk off cap ss W hH hblk hsz => callsIn_wide.2 (AnyM.slices_Sort_int sortA blk off cap ss W hH hblk hsz),
   fun p cap W => callsIn_wide.2 (AnyM.slices_Sort_int_none sortA p cap W)⟩
set_option maxRecDepth 100000 in
set_option maxHeartbeats 1000000 in
theorem fields_own {H : Type} (p b nn : Nat) (D0 : DataW H) (R : Value → Option (DataW H × List MemPlace)) (w : World) (hc : w.cell? ⟨p, 0, none⟩ = some (.map (some b))) (hown : w.ownsMap Try.prog 3 R b nn D0) (hmax : Maps.size D0 ≤ maxLen) (hbytes : Maps.size D0 * 8 ≤ 140737488355328) :
    Calls Try.prog 32 #[.pointer (some ⟨p, 0, none⟩)] w fun e w' => ∃ (v : Value) (ss : List Int), e = .returned v ∧ ss.Perm (intKeys D0) ∧
      w'.ownsRow w.heap.size 3 1 v ss.length ((ss.mergeSort (fun x y => decide (x ≤ y))).map encZ) ∧ (v = .slice none 0 0 ↔ ss = []) ∧ Below w.heap.size w w' := by
  refine (callsIn_wide (n := 6)).1 ?_
  have hbl := hown.lt
  have hseq : SeqGives Fence.wide 2 Try.prog 70 #[.pointer (some ⟨w.heap.size, 0, none⟩)] encZ (fun ss => ss.Perm (intKeys D0)) (Maps.size D0) (w.alloc (.cells #[.map (some b)] 103)) :=
    AnyZI.keys_gives (ρ := keysA_ren) { keysA with } Fence.wide _ trivial rfl (by omega) w.heap.size b nn D0 _ (by simp) (by simp) (by
      obtain ⟨es, clock, hb, Ft, hs, hD⟩ := hown
      exact ⟨es, clock, (Below.heap_alloc _ _ b hbl).trans hb, Ft, hs, hD⟩)
  have cK : ∀ mb W, CallsIn Fence.wide 5 Try.prog 59 #[.map mb] W fun e w' => e = .returned (.func (.func 70) #[] #[.pointer (some ⟨W.heap.size, 0, none⟩)]) ∧ w' = W.alloc (.cells #[.map mb] 103) := fun mb W => AnyZI.keys_in keysA Fence.wide 5 trivial rfl mb W
  have cS := AnyZI.sorted_in sortedA Fence.wide 5 trivial trivial trivial trivial rfl (by omega) (sortsA _) (enters_of Try.func69 (by kernel_rfl) rfl) 70 #[.pointer (some ⟨w.heap.size, 0, none⟩)] trivial (enters_of Try.func70 (by kernel_rfl) rfl) _ _ hmax hbytes _ hseq
  change CallsIn _ _ Try.prog 58 _ _ _ at cS
  have hfK : Fence.wide.fn 59 := trivial
  have hfS : Fence.wide.fn 58 := trivial
  refine callsIn_of_wp Try.func32 rfl trivial ?_ rfl
  simp only [Try.ntmps32, List.size_toArray, List.length_cons, List.length_nil, Nat.reduceAdd, Nat.reduceSub, Array.replicate_succ, Array.replicate_zero, List.push_toArray, List.append_toArray, List.nil_append, List.cons_append]
  gi_wp2_with (first
    | (gi_at_call 59; refine (cK _ _).mono ?_; rintro e w' ⟨rfl, rfl⟩)
    | (gi_at_call 58; refine cS.mono ?_; rintro e w' ⟨v, ss, rfl, hS, hrow, hnil, hb⟩))
  go_ret
  exact ⟨v, ss, rfl, hS, ownsRow_base_a hrow (by simp), hnil, ((Below.refl _ w).alloc (Nat.le_refl _) _).trans (hb.mono (by simp))⟩
open Cb
structure KS (N : Nat) (s : Store) : Prop where
  nodup : (s.cs.map (·.1)).Nodup
  rng : ∀ x ∈ s.cs, 0 ≤ x.1 ∧ x.1 ≤ 1073741824
  len : s.cs.length ≤ N
theorem mset_keys {β : Type} (m : List (Int × β)) (k : Int) (b : β) : (mset m k b).map (·.1) = if k ∈ m.map (·.1) then m.map (·.1) else m.map (·.1) ++ [k] := by
  induction m with
  | nil => simp [mset]
  | cons x r ih =>
    unfold mset
    by_cases h : x.1 = k
    · simp [h]
    · have h' : ¬ k = x.1 := fun e => h e.symm
      simp only [if_neg h, List.map_cons, ih, List.mem_cons, h', false_or]
      split <;> simp
theorem KS.put {N : Nat} {s : Store} {f : Int} {c : ByteArray × Int} {ids : List (Int × Bool)} {n : Int} (h : KS N s) (hf : 0 ≤ f ∧ f ≤ 1073741824) : KS (N + 1) ⟨mset s.cs f c, ids, n⟩ := by
  have hk := mset_keys s.cs f c
  have hl : ((mset s.cs f c).map (·.1)).length ≤ N + 1 := by
    rw [hk]; have := h.len; split <;> simp <;> omega
  refine ⟨?_, fun x hx => ?_, by simpa using hl⟩
  · show ((mset s.cs f c).map (·.1)).Nodup
    rw [hk]
    split
    · exact h.nodup
    · rename_i hn
      rw [List.nodup_append]
      exact ⟨h.nodup, by simp, fun a ha b hb e => by simp at hb; subst hb; subst e; exact hn ha⟩
  · have hx' : x.1 ∈ (mset s.cs f c).map (·.1) := List.mem_map.2 ⟨x, hx, rfl⟩
    rw [hk] at hx'
    have hold : x.1 ∈ s.cs.map (·.1) → 0 ≤ x.1 ∧ x.1 ≤ 1073741824 := fun hm => by
      obtain ⟨y, hy, e⟩ := List.mem_map.1 hm; rw [← e]; exact h.rng y hy
    split at hx'
    · exact hold hx'
    · rcases List.mem_append.1 hx' with hm | hm
      · exact hold hm
      · simp at hm; rw [hm]; exact hf
theorem KS.le {N M : Nat} {s : Store} (h : KS N s) (hm : N ≤ M) : KS M s := ⟨h.nodup, h.rng, by have := h.len; omega⟩
theorem KS.ids {N : Nat} {s : Store} (h : KS N s) (ids : List (Int × Bool)) (n : Int) : KS N ⟨s.cs, ids, n⟩ := ⟨h.nodup, h.rng, h.len⟩
theorem KS.writes {N : Nat} {s : Store} {ws : List (Int × ByteArray)} {ids : List (Int × Bool)} {n : Int} (h : KS N s) (hw : ∀ x ∈ ws, 0 ≤ x.1 ∧ x.1 ≤ 1073741824) : KS (N + ws.length) ⟨writeS s.cs ws, ids, n⟩ := by
  induction ws generalizing N s with
  | nil => exact h.ids ids n
  | cons x r ih =>
    have h1 := h.put (c := (x.2, verC s.cs x.1 + 1)) (ids := ids) (n := n) (hw x (by simp))
    have := ih h1 (fun y hy => hw y (by simp [hy]))
    simp only [writeS, List.foldl_cons] at this ⊢
    exact this.le (by simp; omega)
theorem KS.add {N : Nat} {s : Store} {t : Tx} (h : KS N s) (ht : rightB t.1 t.2.1 t.2.2 = true) : KS (N + 16) (addS s t).1 := by
  obtain ⟨_, _, _, hw, hwl⟩ := rightB_iff ht
  unfold addS
  split
  · exact h.le (by omega)
  · split
    · exact (h.ids _ _).le (by omega)
    · exact (h.writes (fun x hx => (hw x hx).1)).le (by omega)
theorem KS.addD {N : Nat} {s : Store} {d : ByteArray} (h : KS N s) : KS (N + 16) (addD s d).1 := by
  unfold Go.Proofs.Ytnioljagmimojaa.addD
  cases hp : parseR d.data.toList with
  | none => exact h.le (by omega)
  | some t => exact h.add (parseR_right hp)
theorem KS.start : KS 0 s0 := ⟨by simp [s0], by simp [s0], by simp [s0]⟩
theorem KS.all (xs : List ByteArray) : ∀ k, k ≤ xs.length → KS (16 * k) (addAll s0 (xs.take k))
  | 0, _ => by simpa [addAll] using KS.start
  | k + 1, h => by
    rw [addAll_snoc s0 xs k (by omega), show 16 * (k + 1) = 16 * k + 16 by omega]
    exact (KS.all xs k (by omega)).addD
def fieldsS (s : Store) : List Int := (s.cs.map (·.1)).mergeSort (fun x y => decide (x ≤ y))
theorem sort_eq {l l' : List Int} (h : l.Perm l') : l.mergeSort (fun x y => decide (x ≤ y)) = l'.mergeSort (fun x y => decide (x ≤ y)) := by
  have tr : ∀ a b c : Int, decide (a ≤ b) = true → decide (b ≤ c) = true → decide (a ≤ c) = true := fun a b c h1 h2 => by simp only [decide_eq_true_eq] at *; omega
  have to : ∀ a b : Int, (decide (a ≤ b) || decide (b ≤ a)) = true := fun a b => by simp; omega
  exact List.Perm.eq_of_pairwise (le := fun a b => decide (a ≤ b) = true) (fun a b _ _ h1 h2 => by simp only [decide_eq_true_eq] at h1 h2; omega) (List.pairwise_mergeSort tr to l) (List.pairwise_mergeSort tr to l') (((List.mergeSort_perm l _).trans h).trans (List.mergeSort_perm l' _).symm)
theorem fieldsS_len (s : Store) : (fieldsS s).length = s.cs.length := by
  unfold fieldsS; rw [List.length_mergeSort, List.length_map]
theorem wf_field {n : Int} (h : 0 ≤ n ∧ n ≤ 1073741824) : (Lit.int .i64 n).wf = true := by
  simp only [Lit.wf, IntKind.min, IntKind.max, IntKind.signed, IntKind.bits, Bool.and_eq_true, decide_eq_true_eq, if_true]; omega
set_option maxRecDepth 100000 in
theorem fields_any {N : Nat} (p rc ri : Nat) (s : Store) (w : World) (h : Sto w p rc ri s) (hk : KS N s) (hN : N ≤ 100000) :
    Calls Try.prog 32 #[.pointer (some ⟨p, 0, none⟩)] w fun e w' => ∃ v, e = .returned v ∧ Chg No w w' ∧ Sl (Lt w.heap.size) w' v (fieldsS s) := by
  have hc := cell_obj (i := 0) h.1 rfl
  obtain ⟨es, clk, hh, hm, hp, hb⟩ := h.2.1
  have hlen : es.size = s.cs.length := by have := congrArg List.length hm; simpa using this
  have hl := hk.len
  obtain ⟨R, hR⟩ : ∃ R : Value → Option (DataW Unit × List MemPlace), R = fun _ => some (.nil, []) := ⟨_, rfl⟩
  have hkeys : es.toList.map (·.key) = s.cs.map (fun x => Value.int .i64 x.1) := by
    have := congrArg (List.map Prod.fst) hm
    simpa [List.map_map, Function.comp_def] using this
  have hread : ∀ x ∈ es.toList, ∃ f : Int, x.key = .int .i64 f ∧ (0 ≤ f ∧ f ≤ 1073741824) ∧ WideElems.rd Try.prog 3 R x = some (.int .i64 f, .nil) := fun x hx => by
    have hx' : x.key ∈ s.cs.map (fun x => Value.int .i64 x.1) := by rw [← hkeys]; exact List.mem_map.2 ⟨x, hx, rfl⟩
    obtain ⟨y, hy, e⟩ := List.mem_map.1 hx'
    have hr := hk.rng y hy
    refine ⟨y.1, e.symm, hr, ?_⟩
    unfold WideElems.rd
    rw [← e, Maps.keyOf_int_mk Try.underlying3 (wf_field hr), hR]; rfl
  have hinj : ∀ a b : Int × (ByteArray × Int), a.1 ≠ b.1 → Value.int .i64 a.1 ≠ Value.int .i64 b.1 := fun a b h e => h (by simpa using e)
  have hFit : WideElems.Fit Try.prog 3 R es clk := by
    refine ⟨by simp only [maxLen]; omega, ⟨hb, ?_, ?_⟩, fun x hx => ?_⟩
    · rw [List.Nodup, List.pairwise_map]
      exact hp.imp (fun h => by omega)
    · rw [hkeys, List.Nodup, List.pairwise_map]
      have := hk.nodup
      rw [List.Nodup, List.pairwise_map] at this
      exact this.imp (fun h => hinj _ _ h)
    · obtain ⟨f, _, _, h⟩ := hread x hx
      exact ⟨_, h⟩
  have hown : w.ownsMap Try.prog 3 R rc es.size (.map ((es.toList.map (WideElems.rg Try.prog 3 R)).foldr DataW.insert [])) := ⟨es, clk, hh, hFit, Nat.le_refl _, rfl⟩
  have hsize : Maps.size (.map ((es.toList.map (WideElems.rg Try.prog 3 R)).foldr DataW.insert []) : DataW Unit) = es.size := by
    rw [Maps.size_eq, (WideShapes.sorted_perm _).length_eq, List.length_map, Array.length_toList]
  have hperm : (intKeys (.map ((es.toList.map (WideElems.rg Try.prog 3 R)).foldr DataW.insert []) : DataW Unit)).Perm (s.cs.map (·.1)) := by
    refine ((WideShapes.sorted_perm _).map _).trans (List.Perm.of_eq ?_)
    obtain ⟨g, hg⟩ : ∃ g : Value → Lit, ∀ f : Int, g (.int .i64 f) = .int .i64 f := ⟨fun v => match v with | .int k a => .int k a | _ => .bool false, fun _ => rfl⟩
    have e1 : es.toList.map (fun x => (WideElems.rg Try.prog 3 R x).1) = (es.toList.map (·.key)).map g := by
      rw [List.map_map]
      exact List.map_congr_left (fun x hx => by
        obtain ⟨f, e, _, h⟩ := hread x hx
        simp only [Function.comp_apply, WideElems.rg_of h, e, hg])
    rw [hkeys, List.map_map] at e1
    have e2 := congrArg (List.map fun l : Lit => match l with | .int _ a => a | _ => 0) e1
    rw [List.map_map, List.map_map] at e2
    rw [List.map_map]
    refine Eq.trans ?_ (e2.trans ?_)
    · exact List.map_congr_left (fun x hx => by
        obtain ⟨f, e, _, h⟩ := hread x hx
        simp only [Function.comp_apply, WideElems.rg_of h]; rfl)
    · exact List.map_congr_left (fun x _ => by simp only [Function.comp_apply, hg])
  refine (fields_own p rc es.size _ R w hc hown (by rw [hsize]; simp only [maxLen]; omega) (by rw [hsize]; omega)).mono ?_
  rintro e w' ⟨v, ss, rfl, hS, hrow, _, hbl⟩
  have hs2 : ss.mergeSort (fun x y => decide (x ≤ y)) = fieldsS s := sort_eq (hS.trans hperm)
  refine ⟨v, rfl, Chg.of_below hbl, ?_⟩
  have hown' : Own No w' w.heap.size 3 v (fieldsS s) := by
    refine ⟨(fieldsS s).map (fun x => [Value.int .i64 x]), by simp, fun i hi hi' => by simp only [List.getElem_map]; rfl, ?_⟩
    rw [flatten_single, ← hs2, List.length_mergeSort]
    exact hrow
  exact hown'.slFlat (fun k hk f => by have := (hown'.lt k hk).1; simp only [Lt] at f; omega)
end Go.Proofs.Ytnioljagmimojaa
