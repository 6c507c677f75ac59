/- The walks of past.has with the closures of Ordered and Right, of past.Ordered, past.Clock. -/
import Derived.Test.YtlfhjlkhhaoicaaPastA
namespace Go.Proofs.Ytlfhjlkhhaoicaa
set_option linter.unusedVariables false
set_option linter.unusedSimpArgs false
open Go.RowKit Go.Maps Go.ChangeMaps
attribute [local go_sem] ck_get ck_get? q_le0 q_le1 q_le2 q_le3 q_le4 q_le5 q_lt1 q_lt2 q_lt3 q_lt4 q_lt5

def allHas (c : Ck) (many : Nat) (so : Nat → Int → Bool) (i : Nat) : Prop := ∀ q, q < i → c.get q ≤ many ∧ ∀ k : Int, 1 ≤ k → k ≤ c.get q → so q k = true
set_option maxRecDepth 100000 in
set_option maxHeartbeats 1000000 in
theorem has_ord_any (c : Ck) (many : Nat) (hmany : many ≤ 1000000) (so : Nat → Int → Bool) (P1 P2 : Nat) (w : World)
    (hso : ∀ (i : Nat) (k : Int) (w' : World), i < 5 → 1 ≤ k → k ≤ many → Below w.heap.size w w' → Calls Try.prog 53 #[.agg #[.int .i64 i, .int .i64 k], .pointer (some ⟨P1, 0, none⟩), .pointer (some ⟨P2, 0, none⟩)] w' fun e w'' => e = .returned (.bool (so i k)) ∧ Below w'.heap.size w' w'') :
    Calls Try.prog 52 #[.agg #[.int .i64 c.x0, .int .i64 c.x1, .int .i64 c.x2, .int .i64 c.x3, .int .i64 c.x4], .int .i64 many, .func (.func 53) #[] #[.pointer (some ⟨P1, 0, none⟩), .pointer (some ⟨P2, 0, none⟩)]] w fun e w' => e = .returned (.bool (pB (allHas c many so 5))) ∧ Below w.heap.size w w' := by
  have HSO := Lib.hid hso
  clear hso
  go_enter Try.func52, Try.ntmps52
  go_wp2
  go_loopw [11] (fun v11 wr => ∃ i : Nat, i ≤ 5 ∧ v11 = .int .i64 i ∧ Hid (allHas c many so i) ∧ Below w.heap.size w wr) (fun v11 _ => 5 - (intOf v11).toNat)
  case atStart => exact ⟨0, by omega, rfl, fun q hq => by omega, (Below.refl _ _).alloc (Nat.le_refl _) _⟩
  case round =>
    obtain ⟨i, hi, rfl, hA, hB⟩ := hrel
    by_cases hlt : i < 5
    · have hix := run_indexCk c i hlt
      by_cases hm : c.get i > many
      · have HF := Lib.hid (pB_false (p := allHas c many so 5) fun h => by have := (h i hlt).1; omega)
        go_wp2
        go_ret
        exact ⟨ret_bool HF.out.symm, hB⟩
      · have hm' : c.get i ≤ many := by omega
        by_cases h0 : c.get i < 0
        ·
          go_wp2
          obtain ⟨W0, rfl⟩ : ∃ W0 : World, W0 = wr := ⟨_, rfl⟩
          obtain ⟨N, hN, hN2⟩ : ∃ N : Nat, Hid ((0 : Int) = (N : Int)) ∧ N ≤ many := ⟨((0 : Int)).toNat, by show _ = _; omega, by omega⟩
          have hNe := hN.out
          have HN := hN
          have hN0 : (0 : Int) ≤ (N : Int) ∧ (N : Int) ≤ (0 : Int) := by omega
          obtain ⟨hNa, hNb⟩ := hN0
          clear hNe
          go_loopg [20, 9] (N + 1) (fun f v20 v9 wr => ∃ j : Nat, j ≤ N ∧ N - j + 1 ≤ f ∧ v20 = .int .i64 j ∧ Hid (∀ k : Int, 1 ≤ k → k ≤ j → so i k = true) ∧ Below w.heap.size w wr)
          case atStart => exact ⟨0, by omega, by omega, rfl, fun k h1 h2 => by omega, hB⟩
          case round =>
            clear hB
            obtain ⟨j, hj, hf, rfl, hS, hB⟩ := hrel
            obtain ⟨f, rfl⟩ : ∃ f, gk = f + 1 := ⟨gk - 1, by omega⟩
            by_cases hjn : j < N
            · omega
            · obtain rfl : j = N := by omega
              have hmx : ¬ (j : Int) < (0 : Int) := by omega
              go_wp2
              go_roundw
              case measure => simp [intOf]; omega
              case rel => exact ⟨i + 1, by omega, by go_num, fun q hq => if e : q = i then (by subst e; exact ⟨by omega, fun k h1 h2 => hS.out k h1 (by have := HN.out; omega)⟩) else hA.out q (by omega), hB⟩
        · have h0' : (0 : Int) ≤ c.get i := by omega
          go_wp2
          obtain ⟨W0, rfl⟩ : ∃ W0 : World, W0 = wr := ⟨_, rfl⟩
          obtain ⟨N, hN, hN2⟩ : ∃ N : Nat, Hid (c.get i = (N : Int)) ∧ N ≤ many := ⟨(c.get i).toNat, by show _ = _; omega, by omega⟩
          have hNe := hN.out
          have HN := hN
          have hN0 : c.get i ≤ (N : Int) ∧ (N : Int) ≤ c.get i := by omega
          obtain ⟨hNa, hNb⟩ := hN0
          clear hNe
          go_loopg [20, 9] (N + 1) (fun f v20 v9 wr => ∃ j : Nat, j ≤ N ∧ N - j + 1 ≤ f ∧ v20 = .int .i64 j ∧ Hid (∀ k : Int, 1 ≤ k → k ≤ j → so i k = true) ∧ Below w.heap.size w wr)
          case atStart => exact ⟨0, by omega, by omega, rfl, fun k h1 h2 => by omega, hB⟩
          case round =>
            clear hB
            obtain ⟨j, hj, hf, rfl, hS, hB⟩ := hrel
            obtain ⟨f, rfl⟩ : ∃ f, gk = f + 1 := ⟨gk - 1, by omega⟩
            by_cases hjn : j < N
            · have hmx : (j : Int) < c.get i := by omega
              go_wp2_with fail
              refine (HSO.out i (j + 1) _ hlt (by omega) (by omega) (by first | exact hB | exact hB.drew)).mono ?_
              rintro e w1 ⟨rfl, hb1⟩
              have hB1 := hB.trans (hb1.mono hB.size)
              cases hs : so i (j + 1) with
              | true =>
                have HS1 := Lib.hid hs
                clear hs
                go_wp2
                go_roundg f
                case measure => omega
                case rel => exact ⟨j + 1, by omega, by omega, by go_num, fun k h1 h2 => if e : k = j + 1 then (by subst e; exact HS1.out) else hS.out k h1 (by omega), hB1⟩
              | false =>
                have HF := Lib.hid (pB_false (p := allHas c many so 5) fun h => by have := (h i hlt).2 (j + 1) (by omega) (by omega); rw [hs] at this; simp at this)
                clear hs
                go_wp2
                go_ret
                exact ⟨ret_bool HF.out.symm, hB1⟩
            · obtain rfl : j = N := by omega
              have hmx : ¬ (j : Int) < c.get i := by omega
              go_wp2
              go_roundw
              case measure => simp [intOf]; omega
              case rel => exact ⟨i + 1, by omega, by go_num, fun q hq => if e : q = i then (by subst e; exact ⟨by omega, fun k h1 h2 => hS.out k h1 (by have := HN.out; omega)⟩) else hA.out q (by omega), hB⟩
    · obtain rfl : i = 5 := by omega
      have HT := Lib.hid (pB_true hA.out)
      go_wp2
      go_ret
      exact ⟨ret_bool HT.out.symm, hB⟩
set_option maxRecDepth 100000 in
set_option maxHeartbeats 1000000 in
theorem has_right_any (c : Ck) (many : Nat) (hmany : many ≤ 1000000) (so : Nat → Int → Bool) (P1 P2 P3 : Nat) (w : World)
    (hso : ∀ (i : Nat) (k : Int) (w' : World), i < 5 → 1 ≤ k → k ≤ many → Below w.heap.size w w' → Calls Try.prog 57 #[.agg #[.int .i64 i, .int .i64 k], .pointer (some ⟨P1, 0, none⟩), .pointer (some ⟨P2, 0, none⟩), .pointer (some ⟨P3, 0, none⟩)] w' fun e w'' => e = .returned (.bool (so i k)) ∧ Below w'.heap.size w' w'') :
    Calls Try.prog 52 #[.agg #[.int .i64 c.x0, .int .i64 c.x1, .int .i64 c.x2, .int .i64 c.x3, .int .i64 c.x4], .int .i64 many, .func (.func 57) #[] #[.pointer (some ⟨P1, 0, none⟩), .pointer (some ⟨P2, 0, none⟩), .pointer (some ⟨P3, 0, none⟩)]] w fun e w' => e = .returned (.bool (pB (allHas c many so 5))) ∧ Below w.heap.size w w' := by
  have HSO := Lib.hid hso
  clear hso
  go_enter Try.func52, Try.ntmps52
  go_wp2
  go_loopw [11] (fun v11 wr => ∃ i : Nat, i ≤ 5 ∧ v11 = .int .i64 i ∧ Hid (allHas c many so i) ∧ Below w.heap.size w wr) (fun v11 _ => 5 - (intOf v11).toNat)
  case atStart => exact ⟨0, by omega, rfl, fun q hq => by omega, (Below.refl _ _).alloc (Nat.le_refl _) _⟩
  case round =>
    obtain ⟨i, hi, rfl, hA, hB⟩ := hrel
    by_cases hlt : i < 5
    · have hix := run_indexCk c i hlt
      by_cases hm : c.get i > many
      · have HF := Lib.hid (pB_false (p := allHas c many so 5) fun h => by have := (h i hlt).1; omega)
        go_wp2
        go_ret
        exact ⟨ret_bool HF.out.symm, hB⟩
      · have hm' : c.get i ≤ many := by omega
        by_cases h0 : c.get i < 0
        ·
          go_wp2
          obtain ⟨W0, rfl⟩ : ∃ W0 : World, W0 = wr := ⟨_, rfl⟩
          obtain ⟨N, hN, hN2⟩ : ∃ N : Nat, Hid ((0 : Int) = (N : Int)) ∧ N ≤ many := ⟨((0 : Int)).toNat, by show _ = _; omega, by omega⟩
          have hNe := hN.out
          have HN := hN
          have hN0 : (0 : Int) ≤ (N : Int) ∧ (N : Int) ≤ (0 : Int) := by omega
          obtain ⟨hNa, hNb⟩ := hN0
          clear hNe
          go_loopg [20, 9] (N + 1) (fun f v20 v9 wr => ∃ j : Nat, j ≤ N ∧ N - j + 1 ≤ f ∧ v20 = .int .i64 j ∧ Hid (∀ k : Int, 1 ≤ k → k ≤ j → so i k = true) ∧ Below w.heap.size w wr)
          case atStart => exact ⟨0, by omega, by omega, rfl, fun k h1 h2 => by omega, hB⟩
          case round =>
            clear hB
            obtain ⟨j, hj, hf, rfl, hS, hB⟩ := hrel
            obtain ⟨f, rfl⟩ : ∃ f, gk = f + 1 := ⟨gk - 1, by omega⟩
            by_cases hjn : j < N
            · omega
            · obtain rfl : j = N := by omega
              have hmx : ¬ (j : Int) < (0 : Int) := by omega
              go_wp2
              go_roundw
              case measure => simp [intOf]; omega
              case rel => exact ⟨i + 1, by omega, by go_num, fun q hq => if e : q = i then (by subst e; exact ⟨by omega, fun k h1 h2 => hS.out k h1 (by have := HN.out; omega)⟩) else hA.out q (by omega), hB⟩
        · have h0' : (0 : Int) ≤ c.get i := by omega
          go_wp2
          obtain ⟨W0, rfl⟩ : ∃ W0 : World, W0 = wr := ⟨_, rfl⟩
          obtain ⟨N, hN, hN2⟩ : ∃ N : Nat, Hid (c.get i = (N : Int)) ∧ N ≤ many := ⟨(c.get i).toNat, by show _ = _; omega, by omega⟩
          have hNe := hN.out
          have HN := hN
          have hN0 : c.get i ≤ (N : Int) ∧ (N : Int) ≤ c.get i := by omega
          obtain ⟨hNa, hNb⟩ := hN0
          clear hNe
          go_loopg [20, 9] (N + 1) (fun f v20 v9 wr => ∃ j : Nat, j ≤ N ∧ N - j + 1 ≤ f ∧ v20 = .int .i64 j ∧ Hid (∀ k : Int, 1 ≤ k → k ≤ j → so i k = true) ∧ Below w.heap.size w wr)
          case atStart => exact ⟨0, by omega, by omega, rfl, fun k h1 h2 => by omega, hB⟩
          case round =>
            clear hB
            obtain ⟨j, hj, hf, rfl, hS, hB⟩ := hrel
            obtain ⟨f, rfl⟩ : ∃ f, gk = f + 1 := ⟨gk - 1, by omega⟩
            by_cases hjn : j < N
            · have hmx : (j : Int) < c.get i := by omega
              go_wp2_with fail
              refine (HSO.out i (j + 1) _ hlt (by omega) (by omega) (by first | exact hB | exact hB.drew)).mono ?_
              rintro e w1 ⟨rfl, hb1⟩
              have hB1 := hB.trans (hb1.mono hB.size)
              cases hs : so i (j + 1) with
              | true =>
                have HS1 := Lib.hid hs
                clear hs
                go_wp2
                go_roundg f
                case measure => omega
                case rel => exact ⟨j + 1, by omega, by omega, by go_num, fun k h1 h2 => if e : k = j + 1 then (by subst e; exact HS1.out) else hS.out k h1 (by omega), hB1⟩
              | false =>
                have HF := Lib.hid (pB_false (p := allHas c many so 5) fun h => by have := (h i hlt).2 (j + 1) (by omega) (by omega); rw [hs] at this; simp at this)
                clear hs
                go_wp2
                go_ret
                exact ⟨ret_bool HF.out.symm, hB1⟩
            · obtain rfl : j = N := by omega
              have hmx : ¬ (j : Int) < c.get i := by omega
              go_wp2
              go_roundw
              case measure => simp [intOf]; omega
              case rel => exact ⟨i + 1, by omega, by go_num, fun q hq => if e : q = i then (by subst e; exact ⟨by omega, fun k h1 h2 => hS.out k h1 (by have := HN.out; omega)⟩) else hA.out q (by omega), hB⟩
    · obtain rfl : i = 5 := by omega
      have HT := Lib.hid (pB_true hA.out)
      go_wp2
      go_ret
      exact ⟨ret_bool HT.out.symm, hB⟩
end Go.Proofs.Ytlfhjlkhhaoicaa
