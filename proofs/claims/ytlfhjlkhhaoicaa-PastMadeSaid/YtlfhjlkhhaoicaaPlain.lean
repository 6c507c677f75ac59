/- The plain data of the replicas: clocks, marks, events, and what the small functions on them answer. No program in sight. -/
namespace Go.Proofs.Ytlfhjlkhhaoicaa
set_option linter.unusedVariables false
set_option linter.unusedSimpArgs false

/-- A clock: five numbers. -/
structure Ck where
  (x0 x1 x2 x3 x4 : Int)
def Ck.get (c : Ck) : Nat → Int
  | 0 => c.x0 | 1 => c.x1 | 2 => c.x2 | 3 => c.x3 | 4 => c.x4 | _ => 0
def Ck.set (c : Ck) (i : Nat) (v : Int) : Ck :=
  match i with
  | 0 => { c with x0 := v } | 1 => { c with x1 := v } | 2 => { c with x2 := v } | 3 => { c with x3 := v } | 4 => { c with x4 := v } | _ => c
def Ck.zero : Ck := ⟨0, 0, 0, 0, 0⟩
theorem lt5 {i : Nat} (h : i < 5) : i = 0 ∨ i = 1 ∨ i = 2 ∨ i = 3 ∨ i = 4 := by omega
theorem Ck.get_set_same (c : Ck) {i : Nat} (h : i < 5) (v : Int) : (c.set i v).get i = v := by
  rcases lt5 h with rfl | rfl | rfl | rfl | rfl <;> rfl
theorem Ck.get_set_ne (c : Ck) {i j : Nat} (h : i ≠ j) (v : Int) : (c.set i v).get j = c.get j := by
  match i, j with
  | 0, 0 | 1, 1 | 2, 2 | 3, 3 | 4, 4 => exact absurd rfl h
  | 0, 1 | 0, 2 | 0, 3 | 0, 4 | 1, 0 | 1, 2 | 1, 3 | 1, 4 | 2, 0 | 2, 1 | 2, 3 | 2, 4 | 3, 0 | 3, 1 | 3, 2 | 3, 4 | 4, 0 | 4, 1 | 4, 2 | 4, 3 => rfl
  | 0, _ + 5 | 1, _ + 5 | 2, _ + 5 | 3, _ + 5 | 4, _ + 5 | _ + 5, 0 | _ + 5, 1 | _ + 5, 2 | _ + 5, 3 | _ + 5, 4 | _ + 5, _ + 5 => rfl
theorem Ck.ext' {a b : Ck} (h : ∀ i, i < 5 → a.get i = b.get i) : a = b := by
  cases a; cases b
  have h0 := h 0 (by omega); have h1 := h 1 (by omega); have h2 := h 2 (by omega); have h3 := h 3 (by omega); have h4 := h 4 (by omega)
  simp only [Ck.get] at h0 h1 h2 h3 h4
  subst h0 h1 h2 h3 h4
  rfl
instance : DecidableEq Ck := fun a b =>
  decidable_of_iff (a.x0 = b.x0 ∧ a.x1 = b.x1 ∧ a.x2 = b.x2 ∧ a.x3 = b.x3 ∧ a.x4 = b.x4) (by
    constructor
    · rintro ⟨h0, h1, h2, h3, h4⟩; cases a; cases b; simp_all
    · rintro rfl; exact ⟨rfl, rfl, rfl, rfl, rfl⟩)

/-- An event's name. -/
structure Mk where
  (r n : Int)
instance : DecidableEq Mk := fun a b =>
  decidable_of_iff (a.r = b.r ∧ a.n = b.n) (by
    constructor
    · rintro ⟨h0, h1⟩; cases a; cases b; simp_all
    · rintro rfl; exact ⟨rfl, rfl⟩)

/-- An event. -/
structure Ev where
  (r n : Int) (c : Ck) (h k : Int) (key : ByteArray) (lab : Int) (val : ByteArray)
instance : DecidableEq Ev := fun a b =>
  decidable_of_iff (a.r = b.r ∧ a.n = b.n ∧ a.c = b.c ∧ a.h = b.h ∧ a.k = b.k ∧ a.key = b.key ∧ a.lab = b.lab ∧ a.val = b.val) (by
    constructor
    · rintro ⟨h0, h1, h2, h3, h4, h5, h6, h7⟩; cases a; cases b; simp_all
    · rintro rfl; exact ⟨rfl, rfl, rfl, rfl, rfl, rfl, rfl, rfl⟩)
def Ev.zero : Ev := ⟨0, 0, Ck.zero, 0, 0, ByteArray.empty, 0, ByteArray.empty⟩
instance : Inhabited Ev := ⟨Ev.zero⟩
def Ev.mk' (e : Ev) : Mk := ⟨e.r, e.n⟩

def isB (r : Int) : Bool := decide (0 ≤ r ∧ r < 5)
/-- Was it seen? -/
def hasB (c : Ck) (r n : Int) : Bool := decide (0 ≤ r ∧ r < 5 ∧ 1 ≤ n ∧ n ≤ c.get r.toNat)
/-- Has the second one seen all that the first one has? -/
def leB (a b : Ck) : Bool := decide (a.x0 ≤ b.x0 ∧ a.x1 ≤ b.x1 ∧ a.x2 ≤ b.x2 ∧ a.x3 ≤ b.x3 ∧ a.x4 ≤ b.x4)
def leTo (a b : Ck) (k : Nat) : Prop := ∀ i, i < k → a.get i ≤ b.get i
theorem leB_iff {a b : Ck} : leB a b = true ↔ leTo a b 5 := by
  unfold leB leTo
  rw [decide_eq_true_iff]
  constructor
  · rintro ⟨h0, h1, h2, h3, h4⟩ i hi
    rcases lt5 hi with rfl | rfl | rfl | rfl | rfl <;> assumption
  · intro h
    exact ⟨h 0 (by omega), h 1 (by omega), h 2 (by omega), h 3 (by omega), h 4 (by omega)⟩
theorem leB_false {a b : Ck} {i : Nat} (hi : i < 5) (h : b.get i < a.get i) : leB a b = false := by
  rw [Bool.eq_false_iff]
  intro hh
  have := leB_iff.1 hh i hi
  omega
theorem leTo_succ {a b : Ck} {k : Nat} (h : leTo a b k) (hk : a.get k ≤ b.get k) : leTo a b (k + 1) := fun i hi => by
  by_cases e : i = k
  · subst e; exact hk
  · exact h i (by omega)
/-- What one of two has seen. -/
def joinC (a b : Ck) : Ck := ⟨max a.x0 b.x0, max a.x1 b.x1, max a.x2 b.x2, max a.x3 b.x3, max a.x4 b.x4⟩
theorem joinC_get {a b : Ck} {i : Nat} (h : i < 5) : (joinC a b).get i = max (a.get i) (b.get i) := by
  rcases lt5 h with rfl | rfl | rfl | rfl | rfl <;> rfl
theorem joinC_le {a b : Ck} : decide (joinC a b = b) = leB a b := by
  rw [Bool.eq_iff_iff, decide_eq_true_iff, leB_iff]
  constructor
  · intro h i hi
    have := joinC_get (a := a) (b := b) hi
    rw [h] at this
    omega
  · intro h
    refine Ck.ext' fun i hi => ?_
    rw [joinC_get hi]
    have := h i hi
    omega

end Go.Proofs.Ytlfhjlkhhaoicaa
