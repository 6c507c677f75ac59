/- What ready.Drain computes, in plain Lean: the events that are kept by their marks, those that are done, one by one, and what is left. -/
import Derived.Test.YtlfhjlkhhaoicaaPlain
namespace Go.Proofs.Ytlfhjlkhhaoicaa
set_option linter.unusedVariables false
set_option linter.unusedSimpArgs false

/-- int's sum, rounded to 64 bits. -/
def w64 (x : Int) : Int := (x + 9223372036854775808) % 18446744073709551616 - 9223372036854775808

def lookE (W : List (Mk × Ev)) (m : Mk) : Option Ev := (W.find? fun p => decide (m = p.1)).map (·.2)
def delE (W : List (Mk × Ev)) (m : Mk) : List (Mk × Ev) := W.eraseP fun p => decide (m = p.1)
/-- One event more is kept, if it is new. -/
def freshStep (c : Ck) (W : List (Mk × Ev)) (e : Ev) : List (Mk × Ev) := if (lookE W e.mk').isSome || hasB c e.r e.n then W else W ++ [(e.mk', e)]
def freshW (c : Ck) (l : List Ev) : List (Mk × Ev) := l.foldl (freshStep c) []
theorem freshW_succ (c : Ck) (l : List Ev) {k : Nat} {e : Ev} (h : l[k]? = some e) : freshW c (l.take (k + 1)) = freshStep c (freshW c (l.take k)) e := by
  rw [List.take_add_one, h]
  simp [freshW, List.foldl_append]
theorem freshStep_len (c : Ck) (W : List (Mk × Ev)) (e : Ev) : (freshStep c W e).length ≤ W.length + 1 := by
  unfold freshStep
  split <;> simp
theorem foldl_fresh_len (c : Ck) : ∀ (l : List Ev) (W : List (Mk × Ev)), (l.foldl (freshStep c) W).length ≤ W.length + l.length
  | [], W => by simp
  | e :: r, W => by
    have h1 := foldl_fresh_len c r (freshStep c W e)
    have h2 := freshStep_len c W e
    simp only [List.foldl_cons, List.length_cons]
    omega
theorem freshW_len (c : Ck) (l : List Ev) : (freshW c l).length ≤ l.length := by simpa [freshW] using foldl_fresh_len c l []

/-- One mark of the next turn: which event is ready there? -/
def nextM (c : Ck) (r : Nat) : Mk := ⟨r, w64 (c.get r + 1)⟩
def readyAt (c : Ck) (W : List (Mk × Ev)) (r : Nat) : Option Ev :=
  match lookE W (nextM c r) with
  | some e => if (nextM c r).n < 1 ∨ leB e.c c = false then none else some e
  | none => none
/-- The loop over the replicas: f rounds at most. -/
def drainL : Nat → Ck → List (Mk × Ev) → List Ev → Nat → Ck × List (Mk × Ev) × List Ev
  | 0, c, W, d, _ => (c, W, d)
  | f + 1, c, W, d, r =>
    if r < 5 then
      match readyAt c W r with
      | some e => drainL f (c.set r (nextM c r).n) (delE W (nextM c r)) (d ++ [e]) 0
      | none => drainL f c W d (r + 1)
    else (c, W, d)
theorem delE_len {W : List (Mk × Ev)} {m : Mk} {e : Ev} (h : lookE W m = some e) : (delE W m).length + 1 = W.length := by
  unfold lookE at h
  unfold delE
  obtain ⟨p, hp, _⟩ := Option.map_eq_some_iff.1 h
  have hmem := List.mem_of_find?_eq_some hp
  have hpp := List.find?_some hp
  rw [List.length_eraseP_of_mem hmem hpp]
  have : 0 < W.length := List.length_pos_of_mem hmem
  omega
theorem readyAt_look {c : Ck} {W : List (Mk × Ev)} {r : Nat} {e : Ev} (h : readyAt c W r = some e) : lookE W (nextM c r) = some e ∧ 1 ≤ (nextM c r).n ∧ leB e.c c = true := by
  unfold readyAt at h
  split at h
  · rename_i e' he
    split at h
    · simp at h
    · rename_i hn
      simp only [Option.some.injEq] at h
      subst h
      refine ⟨he, by omega, ?_⟩
      cases hl : leB e'.c c
      · exact absurd (Or.inr hl) hn
      · rfl
  · simp at h
/-- The rounds that are enough. -/
def drainM (W : List (Mk × Ev)) (r : Nat) : Nat := W.length * 6 + (5 - r) + 1
/-- What is done, left, and the clock then. -/
def drain (c : Ck) (l : List Ev) : List Ev × List Ev × Ck :=
  let x := drainL (drainM (freshW c l) 0) c (freshW c l) [] 0
  (x.2.2, (freshW c l).filterMap fun p => lookE x.2.1 p.1, x.1)

end Go.Proofs.Ytlfhjlkhhaoicaa
