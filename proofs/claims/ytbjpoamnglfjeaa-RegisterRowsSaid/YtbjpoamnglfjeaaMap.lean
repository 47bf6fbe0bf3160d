/- Maps: what a map holds, in the order in which its keys came; lookup, store, delete, len. They speak of no program. -/
import Derived.Test.YtbjpoamnglfjeaaAux
set_option linter.unusedVariables false
set_option linter.unusedSimpArgs false
namespace Cb
open Go
variable {κ : Type} {β : Type} {P : Program} {w : World}

/-- Block r is a map that holds these keys and values. -/
def MapAt (w : World) (r : Nat) (kv : κ → Value) (vv : β → Value) (m : List (κ × β)) : Prop :=
  ∃ (es : Array MapEntry) (clk : Nat), w.heap[r]? = some (.map es clk) ∧ es.toList.map (fun e => (e.key, e.val)) = m.map (fun x => (kv x.1, vv x.2)) ∧
    es.toList.Pairwise (fun a b => a.born < b.born) ∧ ∀ e ∈ es.toList, e.born < clk
theorem MapAt.keep {kv : κ → Value} {vv : β → Value} {m : List (κ × β)} {F : Nat → Prop} {w' : World} {r : Nat} (h : MapAt w r kv vv m) (hc : Chg F w w') (hF : ¬ F r) : MapAt w' r kv vv m := by
  obtain ⟨es, clk, hh, h⟩ := h
  exact ⟨es, clk, hc.obj hh hF, h⟩
theorem MapAt.lt {kv : κ → Value} {vv : β → Value} {m : List (κ × β)} {r : Nat} (h : MapAt w r kv vv m) : r < w.heap.size := by
  obtain ⟨es, clk, hh, _⟩ := h; exact lt_of_heap hh
theorem MapAt.made (w : World) (kv : κ → Value) (vv : β → Value) : MapAt (w.alloc (.map #[] 0)) w.heap.size kv vv [] :=
  ⟨#[], 0, alloc_obj _ _, rfl, List.Pairwise.nil, fun _ h => by simp at h⟩

/-- What the model asks of keys of one type, all answered. -/
structure KeyLaw [DecidableEq κ] (P : Program) (K : TypeId) (kv : κ → Value) : Prop where
  check : ∀ b k w, (Instr.checkKey b 10000 K (kv k)).run P w = .ok () w
  same : ∀ k, Instr.sameBits 10000 (kv k) (kv k) = true
  find : ∀ k (ks : List κ) (es : List MapEntry) w, es.map (·.key) = ks.map kv → (Instr.findKey K (kv k) es).run P w = .ok ((ks.findIdx? (fun x => decide (x = k))).map (fun i => (i, (es.getD i default).val))) w

def mget [DecidableEq κ] (m : List (κ × β)) (k : κ) : Option β := (m.find? (fun x => decide (x.1 = k))).map (·.2)
def mset [DecidableEq κ] : List (κ × β) → κ → β → List (κ × β)
  | [], k, b => [(k, b)]
  | x :: m, k, b => if x.1 = k then (k, b) :: m else x :: mset m k b
theorem mget_mset [DecidableEq κ] (m : List (κ × β)) (k k' : κ) (b : β) : mget (mset m k b) k' = if k' = k then some b else mget m k' := by
  induction m with
  | nil => simp only [mset, mget, List.find?_cons, List.find?_nil]; by_cases h : k = k'; subst h; simp; rw [if_neg (fun e => h e.symm)]; simp [h]
  | cons x m ih =>
    obtain ⟨a, c⟩ := x
    simp only [mset]
    by_cases h : a = k
    · subst h
      rw [if_pos rfl]
      simp only [mget, List.find?_cons]
      by_cases h' : a = k'
      · subst h'; simp
      · rw [if_neg (fun e => h' e.symm)]; simp [h']
    · rw [if_neg h]
      simp only [mget, List.find?_cons] at ih ⊢
      by_cases h' : a = k'
      · subst h'; simp [h]
      · simpa [h'] using ih

theorem findIdx_mget [DecidableEq κ] (m : List (κ × β)) (k : κ) : ((m.map (·.1)).findIdx? (fun x => decide (x = k))) = none ∧ mget m k = none ∨
    ∃ i b, (m.map (·.1)).findIdx? (fun x => decide (x = k)) = some i ∧ m[i]? = some (k, b) ∧ mget m k = some b ∧ mset m k = fun c => m.set i (k, c) := by
  induction m with
  | nil => left; simp [mget]
  | cons x m ih =>
    obtain ⟨a, c⟩ := x
    by_cases h : a = k
    · right
      subst h
      exact ⟨0, c, by simp [List.findIdx?_cons], rfl, by simp [mget], by funext d; simp [mset]⟩
    · rcases ih with ⟨h1, h2⟩ | ⟨i, b, h1, h2, h3, h4⟩
      · left
        simp only [List.map_cons, List.findIdx?_cons, h, decide_false, Bool.false_eq_true, if_false, h1, mget, List.find?_cons] at h2 ⊢
        exact ⟨rfl, h2⟩
      · right
        refine ⟨i + 1, b, ?_, by simpa using h2, ?_, ?_⟩
        · simp only [List.map_cons, List.findIdx?_cons, h, decide_false, Bool.false_eq_true, if_false, h1]; rfl
        · simp only [mget, List.find?_cons, h, decide_false] at h3 ⊢; exact h3
        · funext d; simp only [mset, h, if_false, List.set_cons_succ, h4]
theorem mset_new [DecidableEq κ] (m : List (κ × β)) (k : κ) (b : β) (h : mget m k = none) : mset m k b = m ++ [(k, b)] := by
  induction m with
  | nil => rfl
  | cons x m ih =>
    obtain ⟨a, c⟩ := x
    by_cases h' : a = k
    · subst h'; simp [mget] at h
    · simp only [mget, List.find?_cons, h', decide_false] at h
      simp only [mset, h', if_false, List.cons_append]; rw [ih h]

theorem keyLaw_int {K : TypeId} {q : IntKind} (hK : P.underlying K = some (.int q)) : KeyLaw P K (Value.int q) where
  check b k w := by rw [show (10000 : Nat) = 9999 + 1 from rfl, Instr.checkKey]; simp only [Sem.run_bind, run_underlying hK, Result.andThen_ok, Sem.run_pure]
  same k := by rw [show (10000 : Nat) = 9999 + 1 from rfl]; simp only [Instr.sameBits, beq_self_eq_true, Bool.and_self]
  find k ks es w he := by
    have key : ∀ (es : List MapEntry) (ks : List Int) (i : Nat), es.map (·.key) = ks.map (Value.int q) →
        Instr.findNow (.int q) (.int q k) es i = some ((ks.findIdx? (fun x => decide (x = k))).map (fun j => (i + j, (es.getD j default).val))) := by
      intro es
      induction es with
      | nil => intro ks i h; obtain rfl : ks = [] := by simpa using h.symm
               simp [Instr.findNow]
      | cons e es ih =>
        intro ks i h
        cases ks with
        | nil => simp at h
        | cons x ks =>
          simp only [List.map_cons, List.cons.injEq] at h
          simp only [Instr.findNow, h.1, Instr.sameNow, if_true]
          by_cases hx : x = k
          · subst hx; simp [List.findIdx?_cons]
          · have : (k == x) = false := by simp; exact fun h => hx h.symm
            rw [this]; simp only
            rw [ih ks (i + 1) h.2]
            simp only [List.findIdx?_cons, hx, decide_false, Bool.false_eq_true, if_false, Option.map_map]
            congr 1
            cases ks.findIdx? (fun x => decide (x = k)) with
            | none => rfl
            | some j => simp; omega
    simp only [Instr.findKey, Sem.run_bind, run_underlying hK, Result.andThen_ok, key es ks 0 he]
    simp

theorem run_getObj {r : Nat} {es : Array MapEntry} {clk : Nat} (h : w.heap[r]? = some (.map es clk)) : (getObj r).run P w = .ok (.map es clk) w := by
  unfold getObj; simp only [Sem.run, h]
theorem run_setObj {r : Nat} {es : Array MapEntry} {clk : Nat} (h : w.heap[r]? = some (.map es clk)) (o : Obj) : (setObj r o).run P w = .ok () { w with heap := w.heap.setIfInBounds r o } := by
  unfold setObj; simp only [Sem.run, h]
/-- v, ok := m[k] and v := m[k]. -/
theorem run_lookup [DecidableEq κ] {T K E : TypeId} {kv : κ → Value} {vv : β → Value} {m : List (κ × β)} {r : Nat} {z : Value} (KL : KeyLaw P K kv) (hT : P.underlying T = some (.map K E)) (hz : (P.info? E).bind (·.zero) = some z)
    (h : MapAt w r kv vv m) (k : κ) (ok : Bool) :
    (Instr.lookup T (.map (some r)) (kv k) ok).run P w = .ok (if ok then .tuple #[((mget m k).map vv).getD z, .bool (mget m k).isSome] else ((mget m k).map vv).getD z) w := by
  obtain ⟨es, clk, hh, hm, _⟩ := h
  have hk : es.toList.map (·.key) = (m.map (·.1)).map kv := by
    have := congrArg (List.map (·.1)) hm; simpa [List.map_map, Function.comp_def] using this
  have hf := KL.find k (m.map (·.1)) es.toList w hk
  have hzero : (zeroValue E).run P w = .ok z w := by
    cases hi : P.info? E with
    | none => simp [hi] at hz
    | some i => simp [hi] at hz; simp [zeroValue, typeInfo, hi, hz]
  rcases findIdx_mget m k with ⟨h1, h2⟩ | ⟨i, b, h1, h2, h3, _⟩
  · rw [h1] at hf
    cases ok <;> simp only [Instr.lookup, Sem.run_bind, run_underlying hT, Result.andThen_ok, run_getObj hh, Sem.run_pure, KL.check, hf, hzero, h2, Option.map_none, Option.getD_none, Option.isSome_none, if_true, Bool.false_eq_true, if_false]
  · rw [h1] at hf
    have hv : (es.toList.getD i default).val = vv b := by
      have := congrArg (fun l => l[i]?) hm
      simp only [List.getElem?_map, h2, Option.map_some] at this
      cases he : es.toList[i]? with
      | none => rw [he] at this; simp at this
      | some e =>
        rw [he] at this
        simp only [Option.map_some, Option.some.injEq, Prod.mk.injEq] at this
        rw [List.getD_eq_getElem?_getD, he]; exact this.2
    rw [Option.map_some, hv] at hf
    cases ok <;> simp only [Instr.lookup, Sem.run_bind, run_underlying hT, Result.andThen_ok, run_getObj hh, Sem.run_pure, KL.check, hf, h3, Option.map_some, Option.getD_some, Option.isSome_some, if_true, Bool.false_eq_true, if_false]

/-- m[k] = v. -/
theorem run_update [DecidableEq κ] {T K E : TypeId} {kv : κ → Value} {vv : β → Value} {m : List (κ × β)} {r : Nat} (KL : KeyLaw P K kv) (hT : P.underlying T = some (.map K E))
    (h : MapAt w r kv vv m) (k : κ) (b : β) :
    ∃ w', (Instr.mapUpdate T (.map (some r)) (kv k) (vv b)).run P w = .ok () w' ∧ MapAt w' r kv vv (mset m k b) ∧ Chg (At r) w w' := by
  obtain ⟨es, clk, hh, hm, hb, hc⟩ := h
  have hk : es.toList.map (·.key) = (m.map (·.1)).map kv := by
    have := congrArg (List.map (·.1)) hm; simpa [List.map_map, Function.comp_def] using this
  have hf := KL.find k (m.map (·.1)) es.toList w hk
  have hlt := lt_of_heap hh
  have hchg : ∀ o, Chg (At r) w { w with heap := w.heap.setIfInBounds r o } := fun o =>
    ⟨rfl, rfl, rfl, by simp, fun i _ hn => by simp only [Array.getElem?_setIfInBounds]; rw [if_neg (fun e => hn e.symm)]⟩
  have hat : ∀ o, ({ w with heap := w.heap.setIfInBounds r o } : World).heap[r]? = some o := fun o => by
    simp [hlt]
  rcases findIdx_mget m k with ⟨h1, h2⟩ | ⟨i, c, h1, h2, h3, h4⟩
  · rw [h1] at hf
    refine ⟨_, by simp only [Instr.mapUpdate, Sem.run_bind, run_underlying hT, Result.andThen_ok, run_getObj hh, KL.check, hf, Option.map_none, run_setObj hh]; rfl, ⟨_, _, hat _, ?_, ?_, ?_⟩, hchg _⟩
    · rw [mset_new m k b h2]; simp [hm]
    · simp only [Array.toList_push, List.pairwise_append, List.pairwise_cons, List.mem_singleton]
      exact ⟨hb, ⟨by simp, List.Pairwise.nil⟩, fun a ha x hx => by subst hx; exact hc a ha⟩
    · intro e he
      simp only [Array.toList_push, List.mem_append, List.mem_singleton] at he
      rcases he with he | rfl
      · have := hc e he; omega
      · simp
  · rw [h1] at hf
    have hei : ∃ e, es.toList[i]? = some e ∧ e.key = kv k := by
      have := congrArg (fun l => l[i]?) hm
      simp only [List.getElem?_map, h2, Option.map_some] at this
      cases he : es.toList[i]? with
      | none => rw [he] at this; simp at this
      | some e =>
        rw [he] at this
        simp only [Option.map_some, Option.some.injEq, Prod.mk.injEq] at this
        exact ⟨e, rfl, this.1⟩
    obtain ⟨e, he, hek⟩ := hei
    have hea : es[i]? = some e := by simpa using he
    refine ⟨_, by simp only [Instr.mapUpdate, Sem.run_bind, run_underlying hT, Result.andThen_ok, run_getObj hh, KL.check, hf, Option.map_some, Instr.keyThatStays, hea, hek, Option.getD_some, KL.same, if_true, Sem.run_pure, run_setObj hh]; rfl, ⟨_, _, hat _, ?_, ?_, ?_⟩, hchg _⟩
    · rw [h4]
      have hset : (es.modify i fun e => { e with key := kv k, val := vv b }).toList = es.toList.set i { e with key := kv k, val := vv b } := by
        apply List.ext_getElem?
        intro j
        simp only [Array.getElem?_toList, Array.getElem?_modify, List.getElem?_set]
        by_cases hij : i = j
        · subst hij
          have : i < es.toList.length := (List.getElem?_eq_some_iff.1 he).1
          simp [hea, this]
          simpa using this
        · simp [hij]
      rw [hset, List.map_set, hm, List.map_set]
    · have hset : (es.modify i fun e => { e with key := kv k, val := vv b }).toList.map (·.born) = es.toList.map (·.born) := by
        apply List.ext_getElem?
        intro j
        simp only [List.getElem?_map, Array.getElem?_toList, Array.getElem?_modify]
        split <;> simp
        cases es[j]? <;> rfl
      have h' : ∀ (l : List MapEntry), l.Pairwise (fun a b => a.born < b.born) ↔ (l.map (·.born)).Pairwise (· < ·) := fun l => by rw [List.pairwise_map]
      rw [h', hset, ← h']; exact hb
    · intro x hx
      have hmem : x.born ∈ (es.modify i fun e => { e with key := kv k, val := vv b }).toList.map (·.born) := List.mem_map.2 ⟨x, hx, rfl⟩
      have hset : (es.modify i fun e => { e with key := kv k, val := vv b }).toList.map (·.born) = es.toList.map (·.born) := by
        apply List.ext_getElem?
        intro j
        simp only [List.getElem?_map, Array.getElem?_toList, Array.getElem?_modify]
        split <;> simp
        cases es[j]? <;> rfl
      rw [hset] at hmem
      obtain ⟨y, hy, e⟩ := List.mem_map.1 hmem
      rw [← e]; exact hc y hy

section
variable {Q : Exit → Act → World → Prop} {a : Act} {OPS : Array Oper} {rest : List Oper}
theorem step_unit {o : Oper} {w' : World} (hg : o.guard = none) (hr : (execOp a.eval o).run P w = .ok .skip w')
    (h : wpList P OPS Q rest (a.put o.dst undef) w') : wpList P OPS Q (o :: rest) a w :=
  wpList_plain hg fun K hK => by unfold Oper.wp; rw [hr]; exact hK _ _ h
theorem step_lookup [DecidableEq κ] {d : Option Tmp} {x y : Operand} {ty T K E : TypeId} {p : String} {af : Array Edge} {kv : κ → Value} {vv : β → Value} {m : List (κ × β)} {r : Nat} {z : Value} {ok : Bool}
    (KL : KeyLaw P K kv) (hT : P.underlying T = some (.map K E)) (hz : (P.info? E).bind (·.zero) = some z) (h : MapAt w r kv vv m) (k : κ) (hx : a.eval x = .map (some r)) (hy : a.eval y = kv k)
    (hk : wpList P OPS Q rest (a.put d (if ok then .tuple #[((mget m k).map vv).getD z, .bool (mget m k).isSome] else ((mget m k).map vv).getD z)) w) :
    Stop (wpList P OPS Q (⟨d, .lookup T x y ok, ty, p, af, none⟩ :: rest) a w) := by
  refine step_run rfl ?_ hk
  simp only [execOp, hx, hy, Sem.run_bind, run_lookup KL hT hz h k ok, Result.andThen_ok, Sem.run_pure]
theorem run_update_op [DecidableEq κ] {o : Oper} {x y v : Operand} {T K E : TypeId} {kv : κ → Value} {vv : β → Value} {m : List (κ × β)} {r : Nat} (ho : o.op = .mapUpdate T x y v)
    (KL : KeyLaw P K kv) (hT : P.underlying T = some (.map K E)) (h : MapAt w r kv vv m) (k : κ) (b : β) (hx : a.eval x = .map (some r)) (hy : a.eval y = kv k) (hv : a.eval v = vv b) :
    ∃ w', (execOp a.eval o).run P w = .ok .skip w' ∧ MapAt w' r kv vv (mset m k b) ∧ Chg (At r) w w' := by
  obtain ⟨w', hr, h1, h2⟩ := run_update KL hT h k b
  exact ⟨w', by simp only [execOp, ho, hx, hy, hv, Sem.run_bind, hr, Result.andThen_ok, Sem.run_pure], h1, h2⟩
theorem step_update [DecidableEq κ] {d : Option Tmp} {x y v : Operand} {ty T K E : TypeId} {p : String} {af : Array Edge} {kv : κ → Value} {vv : β → Value} {m : List (κ × β)} {r : Nat}
    (KL : KeyLaw P K kv) (hT : P.underlying T = some (.map K E)) (h : MapAt w r kv vv m) (k : κ) (b : β) (hx : a.eval x = .map (some r)) (hy : a.eval y = kv k) (hv : a.eval v = vv b)
    (hk : ∀ w', MapAt w' r kv vv (mset m k b) → Chg (At r) w w' → wpList P OPS Q rest (a.put d undef) w') :
    Stop (wpList P OPS Q (⟨d, .mapUpdate T x y v, ty, p, af, none⟩ :: rest) a w) := by
  obtain ⟨w', hr, h1, h2⟩ := run_update_op (a := a) (o := ⟨d, .mapUpdate T x y v, ty, p, af, none⟩) rfl KL hT h k b hx hy hv
  exact step_unit rfl hr (hk w' h1 h2)
end
section
variable {ops : Array Oper} {Q : Exit → Act → World → Prop} {S : World → Prop} {fuel : Nat} {listed : Array Bool} {a : Act}
theorem rt_unit (S' : World → Prop) {i : Nat} {oi : Oper} {w' : World} (hr : Region.ready .any ops listed = [i]) (hS : S w) (hSS : ∀ w, S' w → S w) (hi : ops[i]? = some oi) (hw : Region.wanted oi (yielded ops a.tmps) = true)
    (hrun : (execOp a.eval oi).run P w = .ok .skip w') (h : RT P ops Q S' fuel (listed.setIfInBounds i true) (a.put oi.dst undef) w') : RT P ops Q S (fuel + 1) listed a w :=
  rt_e S' hr hS hSS hi hw (by unfold Oper.wp; rw [hrun]; exact h)
theorem rt_update [DecidableEq κ] (S' : World → Prop) {i : Nat} {d : Option Tmp} {x y v : Operand} {ty T K E : TypeId} {p : String} {af : Array Edge} {gd : Option (Nat × Bool)} {kv : κ → Value} {vv : β → Value} {m : List (κ × β)} {r : Nat}
    (hr : Region.ready .any ops listed = [i]) (hS : S w) (hSS : ∀ w, S' w → S w) (hi : ops[i]? = some ⟨d, .mapUpdate T x y v, ty, p, af, gd⟩) (hw : Region.wanted ⟨d, .mapUpdate T x y v, ty, p, af, gd⟩ (yielded ops a.tmps) = true)
    (KL : KeyLaw P K kv) (hT : P.underlying T = some (.map K E)) (h : MapAt w r kv vv m) (k : κ) (b : β) (hx : a.eval x = .map (some r)) (hy : a.eval y = kv k) (hv : a.eval v = vv b)
    (hk : ∀ w', MapAt w' r kv vv (mset m k b) → Chg (At r) w w' → RT P ops Q S' fuel (listed.setIfInBounds i true) (a.put d undef) w') : RT P ops Q S (fuel + 1) listed a w := by
  obtain ⟨w', hrun, h1, h2⟩ := run_update_op (a := a) (o := ⟨d, .mapUpdate T x y v, ty, p, af, gd⟩) rfl KL hT h k b hx hy hv
  exact rt_unit S' hr hS hSS hi hw hrun (hk w' h1 h2)
end
end Cb
