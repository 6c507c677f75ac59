/- Stamps: which one is earlier, in plain Lean. -/
namespace Go.Proofs.Ytlfhjlkhhaoicaa
set_option linter.unusedVariables false
set_option linter.unusedSimpArgs false

/-- A stamp: a height, and a replica. -/
structure St where
  (h r : Int)
instance : DecidableEq St := fun a b =>
  decidable_of_iff (a.h = b.h ∧ a.r = b.r) (by
    constructor
    · rintro ⟨h0, h1⟩; cases a; cases b; simp_all
    · rintro rfl; exact ⟨rfl, rfl⟩)
def St.zero : St := ⟨0, 0⟩
instance : Inhabited St := ⟨St.zero⟩
/-- The earlier one. -/
def lessS (a b : St) : Bool := decide (a.h < b.h ∨ a.h = b.h ∧ a.r < b.r)
theorem lessS_iff {a b : St} : lessS a b = true ↔ a.h < b.h ∨ a.h = b.h ∧ a.r < b.r := by unfold lessS; rw [decide_eq_true_iff]
theorem st_ext {a b : St} : a = b ↔ a.h = b.h ∧ a.r = b.r := by
  constructor
  · rintro rfl; exact ⟨rfl, rfl⟩
  · rintro ⟨h0, h1⟩; cases a; cases b; simp_all
theorem lessS_false {a b : St} : lessS a b = false ↔ ¬ (a.h < b.h ∨ a.h = b.h ∧ a.r < b.r) := by rw [← lessS_iff]; simp
theorem lessS_irr (a : St) : lessS a a = false := lessS_false.2 (by omega)
theorem lessS_trans {a b c : St} (h : lessS a b = true) (h' : lessS b c = true) : lessS a c = true := by
  rw [lessS_iff] at *
  omega
theorem lessS_tot {a b : St} (h : lessS a b = false) : lessS b a = true ∨ b = a := by
  rw [lessS_false] at h
  rw [lessS_iff, st_ext]
  omega
theorem lessS_asym {a b : St} (h : lessS a b = true) : lessS b a = false := by
  rw [lessS_iff] at h
  rw [lessS_false]
  omega
/-- The place of the latest one of the first k. -/
def lastTo (l : List St) : Nat → Int
  | 0 => -1
  | k + 1 => if lastTo l k < 0 ∨ lessS (l.getD (lastTo l k).toNat St.zero) (l.getD k St.zero) = true then k else lastTo l k
def lastI (l : List St) : Int := lastTo l l.length
/-- j is the place of the first one of the first k that is less than none of them. -/
def LastAt (l : List St) (k j : Nat) : Prop := j < k ∧ (∀ i, i < k → lessS (l.getD j St.zero) (l.getD i St.zero) = false) ∧ ∀ i, i < j → lessS (l.getD i St.zero) (l.getD j St.zero) = true
theorem lastTo_at (l : List St) : ∀ k, (k = 0 ∧ lastTo l k = -1) ∨ ∃ j : Nat, lastTo l k = j ∧ LastAt l k j
  | 0 => .inl ⟨rfl, rfl⟩
  | k + 1 => by
    right
    rcases lastTo_at l k with ⟨rfl, h⟩ | ⟨j, hj, h1, h2, h3⟩
    · refine ⟨0, by simp [lastTo], by omega, fun i hi => ?_, fun i hi => by omega⟩
      obtain rfl : i = 0 := by omega
      exact lessS_irr _
    · unfold lastTo
      rw [hj]
      by_cases hl : lessS (l.getD j St.zero) (l.getD k St.zero) = true
      · refine ⟨k, if_pos (.inr (by simpa using hl)), by omega, fun i hi => ?_, fun i hi => ?_⟩
        · by_cases e : i = k
          · subst e; exact lessS_irr _
          · have := h2 i (by omega)
            cases hc : lessS (l.getD k St.zero) (l.getD i St.zero) with
            | false => rfl
            | true => rw [lessS_trans hl hc] at this; cases this
        · rcases lessS_tot (h2 i hi) with h | h
          · exact lessS_trans h hl
          · rw [h]; exact hl
      · refine ⟨j, if_neg (by rw [Int.toNat_natCast]; rintro (h | h); exact absurd h (by omega); exact hl h), by omega, fun i hi => ?_, h3⟩
        by_cases e : i = k
        · subst e; simpa using hl
        · exact h2 i (by omega)
theorem lastI_at (l : List St) : (l.length = 0 ∧ lastI l = -1) ∨ ∃ j : Nat, lastI l = j ∧ LastAt l l.length j := lastTo_at l l.length
theorem lastAt_eq {l : List St} {k i j : Nat} (h : LastAt l k i) (h' : LastAt l k j) : i = j := by
  rcases Nat.lt_trichotomy i j with e | e | e
  · have h1 := h'.2.2 i e
    have h2 := h.2.1 j h'.1
    rw [h1] at h2; cases h2
  · exact e
  · have h1 := h.2.2 j e
    have h2 := h'.2.1 i h.1
    rw [h1] at h2; cases h2
/-- No one of the first k is behind i. -/
def topTo (l : List St) (i k : Nat) : Bool := decide (∀ j, j < k → lessS (l.getD i St.zero) (l.getD j St.zero) = false)
theorem topTo_succ (l : List St) (i k : Nat) : topTo l i (k + 1) = (topTo l i k && !lessS (l.getD i St.zero) (l.getD k St.zero)) := by
  unfold topTo
  rw [Bool.eq_iff_iff]
  simp only [decide_eq_true_iff, Bool.and_eq_true, Bool.not_eq_true']
  constructor
  · intro h; exact ⟨fun j hj => h j (by omega), h k (by omega)⟩
  · rintro ⟨h, h'⟩ j hj
    by_cases e : j = k
    · subst e; exact h'
    · exact h j (by omega)
theorem first_top {l : List St} {i : Nat} (hi : i < l.length) (ht : topTo l i l.length = true) (hf : ∀ j, j < i → topTo l j l.length = false) : lastI l = i := by
  rcases lastI_at l with ⟨h0, _⟩ | ⟨j, hj, hA⟩
  · omega
  · rw [hj]
    have ht' : ∀ j, j < l.length → lessS (l.getD i St.zero) (l.getD j St.zero) = false := by simpa [topTo] using ht
    have hj' : topTo l j l.length = true := by simpa [topTo] using hA.2.1
    rcases Nat.lt_trichotomy j i with e | e | e
    · rw [hf j e] at hj'; cases hj'
    · rw [e]
    · have h1 := hA.2.2 i e
      have h2 := ht' j hA.1
      rw [h1] at h2; cases h2
theorem no_top {l : List St} (hf : ∀ j, j < l.length → topTo l j l.length = false) : lastI l = -1 := by
  rcases lastI_at l with ⟨_, h⟩ | ⟨j, hj, hA⟩
  · exact h
  · have hj' : topTo l j l.length = true := by simpa [topTo] using hA.2.1
    rw [hf j hA.1] at hj'; cases hj'
def cmpI (x y : Int) : Int := if x < y then -1 else if y < x then 1 else 0
def orI : List Int → Int
  | [] => 0
  | x :: l => if x = 0 then orI l else x

end Go.Proofs.Ytlfhjlkhhaoicaa
