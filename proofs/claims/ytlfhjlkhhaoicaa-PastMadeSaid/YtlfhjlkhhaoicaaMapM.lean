/- Maps whose keys are marks, made by the call itself: what a look-up, a new key's store, a delete and len do. -/
import Derived.Test.YtlfhjlkhhaoicaaEqs
import Derived.Maps.OwnSet
import Derived.Maps.OwnOps
namespace Go.Proofs.Ytlfhjlkhhaoicaa
set_option linter.unusedVariables false
set_option linter.unusedSimpArgs false
open Go.RowKit Go.Maps Go.ChangeMaps

/-- The entries of a map's block, in their order. -/
def mapAt (w : World) (b : Nat) (ms : List (Mk × Value)) : Prop :=
  ∃ arr clock, w.heap[b]? = some (.map arr clock) ∧ arr.toList.map (fun e : MapEntry => (e.key, e.val)) = ms.map fun p => (.agg #[.int .i64 p.1.r, .int .i64 p.1.n], p.2)
def findM (m : Mk) : List (Mk × Value) → Nat → Option (Nat × Value)
  | [], _ => none
  | p :: r, i => if m = p.1 then some (i, p.2) else findM m r (i + 1)
/-- What a map holds of a mark. -/
def lookM (ms : List (Mk × Value)) (m : Mk) : Option Value := (ms.find? fun p => decide (m = p.1)).map (·.2)
def delM (ms : List (Mk × Value)) (m : Mk) : List (Mk × Value) := ms.eraseP fun p => decide (m = p.1)
theorem findM_look (m : Mk) : ∀ (ms : List (Mk × Value)) (i : Nat), (findM m ms i).map (·.2) = lookM ms m
  | [], _ => rfl
  | p :: r, i => by
    by_cases h : m = p.1
    · simp [findM, lookM, List.find?_cons, h]
    · rw [findM, if_neg h, findM_look m r (i + 1)]
      simp [lookM, List.find?_cons, h]
theorem findM_at (m : Mk) : ∀ (ms : List (Mk × Value)) (i : Nat) {j : Nat} {v : Value}, findM m ms i = some (j, v) → i ≤ j ∧ ms.eraseIdx (j - i) = delM ms m ∧ j - i < ms.length
  | [], _, _, _, h => by simp [findM] at h
  | p :: r, i, j, v, h => by
    by_cases e : m = p.1
    · rw [findM, if_pos e] at h
      simp only [Option.some.injEq, Prod.mk.injEq] at h
      obtain ⟨rfl, _⟩ := h
      simp [delM, List.eraseP_cons, e]
    · rw [findM, if_neg e] at h
      obtain ⟨h1, h2, h3⟩ := findM_at m r (i + 1) h
      refine ⟨by omega, ?_, by simp; omega⟩
      have e1 : j - i = (j - (i + 1)) + 1 := by omega
      rw [e1, List.eraseIdx_cons_succ, h2]
      simp [delM, List.eraseP_cons, e]

section
variable {w w' : World} {b : Nat} {ms : List (Mk × Value)}
theorem mapAt.lt (h : mapAt w b ms) : b < w.heap.size := by
  obtain ⟨arr, c, h, _⟩ := h
  rcases Nat.lt_or_ge b w.heap.size with h' | h'
  · exact h'
  · simp [Array.getElem?_eq_none h'] at h
theorem mapAt.alloc (h : mapAt w b ms) (o : Obj) : mapAt (w.alloc o) b ms := by
  have hlt := h.lt
  obtain ⟨arr, c, h, r⟩ := h
  exact ⟨arr, c, by rw [Below.heap_alloc _ _ _ hlt]; exact h, r⟩
theorem mapAt.set_ne (h : mapAt w b ms) {a : Addr} (hne : b ≠ a.block) (v : Value) : mapAt (w.setCell a v) b ms := by
  obtain ⟨arr, c, h, r⟩ := h
  exact ⟨arr, c, by rw [Below.heap_setCell _ _ _ _ hne]; exact h, r⟩
theorem mapAt.below {B : Nat} (h : mapAt w b ms) (hb : Below B w w') (hlt : b < B) : mapAt w' b ms := by
  obtain ⟨arr, c, h, r⟩ := h
  exact ⟨arr, c, by rw [hb.block b hlt]; exact h, r⟩
theorem mapAt.grown {row : Option Nat} (h : mapAt w b ms) (hg : w.grownBy w' row) (hne : some b ≠ row) : mapAt w' b ms := by
  have hlt := h.lt
  obtain ⟨arr, c, h, r⟩ := h
  exact ⟨arr, c, by rw [hg.block b hlt hne]; exact h, r⟩
theorem mapAt.drewN (h : mapAt w b ms) (n : Nat) : mapAt (w.drewN n) b ms := h
theorem mapAt.drew (h : mapAt w b ms) : mapAt w.drew b ms := h
theorem mapAt_new {w : World} {b : Nat} (hb : b = w.heap.size) : mapAt (w.alloc (.map #[] 0)) b [] := by
  subst hb
  exact ⟨#[], 0, heap_alloc_new _ _, rfl⟩
end

theorem run_checkInt (e : Bool) (n : Nat) (x : Int) (w : World) : (Instr.checkKey e (n + 1) 3 (.int .i64 x)).run Try.prog w = .ok () w := by
  unfold Instr.checkKey
  go_simp
theorem run_checkKey (e : Bool) (n : Nat) (m : Mk) (w : World) : (Instr.checkKey e (n + 2) 70 (.agg #[.int .i64 m.r, .int .i64 m.n])).run Try.prog w = .ok () w := by
  unfold Instr.checkKey
  go_simp
  rw [run_checkInt e n]
  go_simp
  rw [run_checkInt e n]
theorem run_equalMk (a b : Mk) (w : World) : (Op.equal 70 (.agg #[.int .i64 a.r, .int .i64 a.n]) (.agg #[.int .i64 b.r, .int .i64 b.n])).run Try.prog w = .ok (decide (a = b)) w := eqMk 9998 w a b
theorem run_findAsking (m : Mk) (w : World) : ∀ (es : List MapEntry) (ms : List (Mk × Value)) (i : Nat), es.map (fun e : MapEntry => (e.key, e.val)) = ms.map (fun p => (.agg #[.int .i64 p.1.r, .int .i64 p.1.n], p.2)) →
    (Instr.findAsking 70 (.agg #[.int .i64 m.r, .int .i64 m.n]) es i).run Try.prog w = .ok (findM m ms i) w
  | [], [], i, _ => rfl
  | [], _ :: _, i, h => by simp at h
  | _ :: _, [], i, h => by simp at h
  | e :: es, p :: ms, i, h => by
    simp only [List.map_cons, List.cons.injEq, Prod.mk.injEq] at h
    obtain ⟨⟨h1, h2⟩, h3⟩ := h
    rw [Instr.findAsking, h1]
    simp only [Sem.run_bind, run_equalMk, Result.andThen_ok]
    by_cases hm : m = p.1
    · simp [hm, findM, h2]
    · simp only [hm, decide_false, Bool.false_eq_true, if_false, findM]
      exact run_findAsking m w es ms (i + 1) h3
theorem run_findKey (m : Mk) (w : World) (es : List MapEntry) (ms : List (Mk × Value)) (h : es.map (fun e : MapEntry => (e.key, e.val)) = ms.map (fun p => (.agg #[.int .i64 p.1.r, .int .i64 p.1.n], p.2))) :
    (Instr.findKey 70 (.agg #[.int .i64 m.r, .int .i64 m.n]) es).run Try.prog w = .ok (findM m ms 0) w := by
  have hf := run_findAsking m w es ms 0 h
  unfold Instr.findKey
  cases es with
  | nil =>
    cases ms with
    | nil => go_simp; simp [Instr.findNow, findM]
    | cons p r => simp at h
  | cons e r =>
    go_simp
    simp [Instr.findNow, Instr.sameNow, hf]

section
variable {w : World} {b : Nat} {ms : List (Mk × Value)} {T E : TypeId}
theorem run_lookM (hT : Try.prog.underlying T = some (.map 70 E)) {z : Value} (hz : (zeroValue E).run Try.prog w = .ok z w) (h : mapAt w b ms) (m : Mk) :
    (Instr.lookup T (.map (some b)) (.agg #[.int .i64 m.r, .int .i64 m.n]) true).run Try.prog w = .ok (.tuple #[(lookM ms m).getD z, .bool (lookM ms m).isSome]) w := by
  obtain ⟨arr, clock, hb, harr⟩ := h
  have hf := run_findKey m w arr.toList ms harr
  have hl := findM_look m ms 0
  rw [← hl]
  cases hx : findM m ms 0 with
  | none => simp [Instr.lookup, run_underlying hT, MapKept.run_getObj_map hb, run_checkKey, hf, hx, hz, Result.andThen]
  | some x => simp [Instr.lookup, run_underlying hT, MapKept.run_getObj_map hb, run_checkKey, hf, hx, Result.andThen]
theorem run_putM (hT : Try.prog.underlying T = some (.map 70 E)) (h : mapAt w b ms) (m : Mk) (v : Value) (hno : lookM ms m = none) :
    ∃ w', (Instr.mapUpdate T (.map (some b)) (.agg #[.int .i64 m.r, .int .i64 m.n]) v).run Try.prog w = .ok () w' ∧ mapAt w' b (ms ++ [(m, v)]) ∧ w.mapTurned w' b := by
  obtain ⟨arr, clock, hb, harr⟩ := h
  have hf := run_findKey m w arr.toList ms harr
  have hl := findM_look m ms 0
  have hx : findM m ms 0 = none := by
    rw [hno] at hl
    cases hy : findM m ms 0 with
    | none => rfl
    | some x => rw [hy] at hl; simp at hl
  refine ⟨setBlock w b (.map (arr.push { key := .agg #[.int .i64 m.r, .int .i64 m.n], val := v, born := clock }) (clock + 1)), ?_, ⟨_, _, heap_setBlock_same hb _, by simp [harr]⟩, ⟨arr, clock, _, _, hb, rfl⟩⟩
  simp [Instr.mapUpdate, run_underlying hT, MapKept.run_getObj_map hb, run_checkKey, hf, hx, Result.andThen, MapKept.run_setObj_map _ hb, setBlock]
theorem run_delM (hT : Try.prog.underlying T = some (.map 70 E)) (h : mapAt w b ms) (m : Mk) (ty : TypeId) :
    ∃ w', (Builtin.delete_ #[T, 70] ty #[.map (some b), .agg #[.int .i64 m.r, .int .i64 m.n]]).run Try.prog w = .ok (.tuple #[]) w' ∧ mapAt w' b (delM ms m) ∧ w.mapTurned w' b := by
  obtain ⟨arr, clock, hb, harr⟩ := h
  have hf := run_findKey m w arr.toList ms harr
  cases hx : findM m ms 0 with
  | none =>
    refine ⟨setBlock w b (.map arr clock), by simp [Builtin.delete_, run_underlying hT, MapKept.run_getObj_map hb, run_checkKey, hf, hx, Result.andThen, MapKept.run_setObj_map _ hb, setBlock], ⟨_, _, heap_setBlock_same hb _, ?_⟩, ⟨arr, clock, _, _, hb, rfl⟩⟩
    have hl := findM_look m ms 0
    rw [hx] at hl
    have : delM ms m = ms := by
      unfold delM
      refine List.eraseP_of_forall_not fun p hp => ?_
      intro hc
      have hn : ms.find? (fun p => decide (m = p.1)) = none := by
        cases hy : ms.find? (fun p => decide (m = p.1)) with
        | none => rfl
        | some x => simp [lookM, hy] at hl
      exact List.find?_eq_none.1 hn p hp hc
    rw [this]
    exact harr
  | some x =>
    obtain ⟨j, v⟩ := x
    obtain ⟨_, h2, _⟩ := findM_at m ms 0 hx
    refine ⟨setBlock w b (.map (arr.eraseIdxIfInBounds j) clock), by simp [Builtin.delete_, run_underlying hT, MapKept.run_getObj_map hb, run_checkKey, hf, hx, Result.andThen, MapKept.run_setObj_map _ hb, setBlock], ⟨_, _, heap_setBlock_same hb _, ?_⟩, ⟨arr, clock, _, _, hb, rfl⟩⟩
    rw [← h2, Nat.sub_zero, Array.toList_eraseIdxIfInBounds, map_eraseIdx, harr, map_eraseIdx]
theorem run_lenM (hT : Try.prog.underlying T = some (.map 70 E)) (h : mapAt w b ms) (ty : TypeId) : (Builtin.len_ #[T] ty #[.map (some b)]).run Try.prog w = .ok (.int .i64 (ms.length : Nat)) w := by
  obtain ⟨arr, clock, hb, harr⟩ := h
  have e : arr.size = ms.length := by
    have := congrArg List.length harr
    simpa using this
  simp [Builtin.len_, run_underlying hT, MapKept.run_getObj_map hb, goInt, Result.andThen, e]
end

/-! At the operation, for the walk. -/
section
variable (w : World) {ops : Array Oper} {rest : List Oper} {o : Oper} {a : Act} {Q : Exit → Act → World → Prop}
theorem wpL_look (hg : o.guard = none) (m x : Operand) (T E : TypeId) (hop : o.op = Op.lookup T m x true) (hT : Try.prog.underlying T = some (.map 70 E)) (z : Value) (hz : (zeroValue E).run Try.prog w = .ok z w)
    (b : Nat) (ms : List (Mk × Value)) (hm : a.eval m = .map (some b)) (h : mapAt w b ms) (k : Mk) (hx : a.eval x = .agg #[.int .i64 k.r, .int .i64 k.n])
    (hK : wpList Try.prog ops Q rest (a.put o.dst (.tuple #[(lookM ms k).getD z, .bool (lookM ms k).isSome])) w) : wpList Try.prog ops Q (o :: rest) a w := by
  refine wpList_plain hg fun K' hK' => ?_
  have hrun := run_lookM hT hz h k
  unfold Oper.wp
  simp [execOp, hop, hm, hx, hrun, Result.andThen]
  exact hK' _ _ hK
theorem wpL_put (hg : o.guard = none) (m x v : Operand) (T E : TypeId) (hop : o.op = Op.mapUpdate T m x v) (hT : Try.prog.underlying T = some (.map 70 E))
    (b : Nat) (ms : List (Mk × Value)) (hm : a.eval m = .map (some b)) (h : mapAt w b ms) (k : Mk) (hx : a.eval x = .agg #[.int .i64 k.r, .int .i64 k.n]) (val : Value) (hv : a.eval v = val) (hno : lookM ms k = none)
    (hK : ∀ w', mapAt w' b (ms ++ [(k, val)]) → w.mapTurned w' b → wpList Try.prog ops Q rest (a.put o.dst undef) w') : wpList Try.prog ops Q (o :: rest) a w := by
  refine wpList_plain hg fun K' hK' => ?_
  obtain ⟨w', hrun, h1, h2⟩ := run_putM hT h k val hno
  unfold Oper.wp
  simp [execOp, hop, hm, hx, hv, hrun, Result.andThen]
  exact hK' _ _ (hK w' h1 h2)
theorem wpL_del (hg : o.guard = none) (m x : Operand) (T E : TypeId) (hop : o.op = Op.call { callee := Callee.builtin Builtin.delete, args := #[m, x], argTypes := #[T, 70] }) (hT : Try.prog.underlying T = some (.map 70 E))
    (b : Nat) (ms : List (Mk × Value)) (hm : a.eval m = .map (some b)) (h : mapAt w b ms) (k : Mk) (hx : a.eval x = .agg #[.int .i64 k.r, .int .i64 k.n])
    (hK : ∀ w', mapAt w' b (delM ms k) → w.mapTurned w' b → wpList Try.prog ops Q rest (a.put o.dst (.tuple #[])) w') : wpList Try.prog ops Q (o :: rest) a w := by
  refine wpList_plain hg fun K' hK' => ?_
  obtain ⟨w', hrun, h1, h2⟩ := run_delM hT h k o.type
  unfold Oper.wp
  simp [execOp, hop, resolve, invoke, builtin, hm, hx, hrun, Result.andThen]
  exact hK' _ _ (hK w' h1 h2)
end
end Go.Proofs.Ytlfhjlkhhaoicaa
