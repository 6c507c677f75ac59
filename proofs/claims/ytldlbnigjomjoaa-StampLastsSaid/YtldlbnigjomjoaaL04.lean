/- The walks of kithlaw04's small functions and of the reference for stamps. -/
import Derived.Test.YtldlbnigjomjoaaLast
namespace Go.Proofs.Ytldlbnigjomjoaa
set_option linter.unusedVariables false
set_option linter.unusedSimpArgs false
open Go.RowKit
attribute [local go_sem] q_le0 q_le1 q_le2 q_le3 q_lt1 q_lt2 q_lt3
attribute [local go_sem high] eqSt

set_option maxRecDepth 100000 in
set_option maxHeartbeats 400000 in
theorem refLess_any (a b : St) (w : World) : Calls Try.prog 10 #[.agg #[.int .i64 a.h, .int .i64 a.r], .agg #[.int .i64 b.h, .int .i64 b.r]] w fun e w' => e = .returned (.bool (lessS a b)) ∧ Below w.heap.size w w' := by
  have hX : ∀ v, lessS a b = v → Calls Try.prog 10 #[.agg #[.int .i64 a.h, .int .i64 a.r], .agg #[.int .i64 b.h, .int .i64 b.r]] w fun e w' => e = .returned (.bool v) ∧ Below w.heap.size w w' := fun v hv => by
    have HV := Lib.hid hv
    clear hv
    by_cases h1 : a.h < b.h
    · obtain rfl : true = v := by rw [← HV.out]; exact (lessS_iff.2 (.inl h1)).symm
      go_enter Try.func10, Try.ntmps10
      go_wp2
      go_ret
      exact ⟨rfl, ((Below.refl _ _).alloc (Nat.le_refl _) _).alloc (by simp) _⟩
    · by_cases h2 : a.h = b.h
      · have h2b : (a.h == b.h) = true := beq_iff_eq.2 h2
        have hvv : Hid (decide (a.r < b.r) = v) := by show decide (a.r < b.r) = v; rw [← HV.out]; unfold lessS; rw [decide_eq_decide]; omega
        clear h2
        go_enter Try.func10, Try.ntmps10
        go_wp2
        go_ret
        exact ⟨ret_bool hvv.out, ((Below.refl _ _).alloc (Nat.le_refl _) _).alloc (by simp) _⟩
      · have h2b : (a.h == b.h) = false := beq_eq_false_iff_ne.2 h2
        obtain rfl : false = v := by rw [← HV.out]; exact (lessS_false.2 (by omega)).symm
        clear h2
        go_enter Try.func10, Try.ntmps10
        go_wp2
        go_ret
        exact ⟨rfl, ((Below.refl _ _).alloc (Nat.le_refl _) _).alloc (by simp) _⟩
  exact hX _ rfl
set_option maxRecDepth 100000 in
set_option maxHeartbeats 400000 in
theorem few04_any (A : Option Addr) (n ca : Nat) (w : World) (hc : n ≤ ca) (hm : ca ≤ maxLen) :
    Calls Try.prog 12 #[.slice A n ca] w fun e w' => e = .returned (.slice A (min n 30) ca) ∧ w = w' := by
  unfold maxLen at hm
  by_cases h : n ≤ 30
  · go_enter Try.func12, Try.ntmps12
    go_wp2
    go_ret
    exact ⟨ret_slice (Nat.min_eq_left h).symm, rfl⟩
  · go_enter Try.func12, Try.ntmps12
    go_wp2
    go_ret
    exact ⟨ret_slice (Nat.min_eq_right (by omega)).symm, rfl⟩
set_option maxRecDepth 100000 in
set_option maxHeartbeats 1000000 in
theorem refLast_any (A : Option Addr) (ca : Nat) (l : List St) (w : World) (hl : stK.row w A l) (hm : l.length ≤ maxLen) :
    Calls Try.prog 13 #[.slice A l.length ca] w fun e w' => e = .returned (.int .i64 (lastI l)) ∧ Below w.heap.size w w' := by
  unfold maxLen at hm
  generalize hn : l.length = n at *
  have HN := Lib.hid hn
  clear hn
  go_enter Try.func13, Try.ntmps13
  go_wp2
  go_loopg [3] (n + 1) (fun f v3 wr => ∃ k : Nat, k ≤ n ∧ n - k + 1 ≤ f ∧ v3 = .int .i64 k ∧ Hid (∀ j, j < k → topTo l j n = false) ∧ Below w.heap.size w wr)
  case atStart => exact ⟨0, by omega, by omega, rfl, fun j hj => by omega, Below.refl _ _⟩
  case round =>
    obtain ⟨k, hk, hf, rfl, hT, hB⟩ := hrel
    obtain ⟨f, rfl⟩ : ∃ f, gk = f + 1 := ⟨gk - 1, by omega⟩
    by_cases hlt : k < n
    · obtain ⟨e, he⟩ : ∃ e, l[k]? = some e := ⟨_, List.getElem?_eq_getElem (by rw [HN.out]; exact hlt)⟩
      have HE := Lib.hid he
      clear he
      go_wp2
      go_loopg [4, 5] (n + 1) (fun g v4 v5 wr => ∃ q : Nat, q ≤ n ∧ n - q + 1 ≤ g ∧ v5 = .int .i64 q ∧ v4 = .bool (topTo l k q) ∧ Below w.heap.size w wr)
      case atStart => exact ⟨0, by omega, by omega, rfl, by simp [topTo], hB⟩
      case round =>
        clear hB
        obtain ⟨q, hq, hg, rfl, rfl, hB⟩ := hrel
        obtain ⟨g, rfl⟩ : ∃ g, gk = g + 1 := ⟨gk - 1, by omega⟩
        by_cases hqn : q < n
        · obtain ⟨x, hx⟩ : ∃ x, l[q]? = some x := ⟨_, List.getElem?_eq_getElem (by rw [HN.out]; exact hqn)⟩
          obtain ⟨b, off, rfl, hb, hat⟩ := hl.get hx
          have hatr := hat.below hB hb
          obtain ⟨c0, c1⟩ := stAt_get hatr HE.out
          obtain ⟨d0, d1⟩ := stAt_get hatr hx
          have hbr : b < wr.heap.size := by have := hB.size; omega
          have hs := topTo_succ l k q
          rw [getD_of HE.out, getD_of hx] at hs
          have HS := Lib.hid hs
          clear hs hx
          have hk0 : (0 : Int) ≤ (k : Int) := by omega
          have hk1 : (k : Int) < (n : Int) := by omega
          have hq0 : (0 : Int) ≤ (q : Int) := by omega
          have hq1 : (q : Int) < (n : Int) := by omega
          have hX : ∀ t, topTo l k q = t → ∀ s, lessS e x = s → Hid (topTo l k (q + 1) = (t && !s)) := fun t ht s hs' => by rw [← ht, ← hs']; exact HS.out
          clear HS
          generalize topTo l k q = t at *
          generalize hLS : lessS e x = s at *
          have HLS := Lib.hid hLS
          have HX := hX t rfl s rfl
          clear hLS hX
          go_wp2
          go_region_held3 (fun w' => w'.cell? ⟨b, off + k * 2, none⟩ = some (.int .i64 e.h) ∧ w'.cell? ⟨b, off + k * 2 + 1, none⟩ = some (.int .i64 e.r) ∧ w'.cell? ⟨b, off + q * 2, none⟩ = some (.int .i64 x.h) ∧ w'.cell? ⟨b, off + q * 2 + 1, none⟩ = some (.int .i64 x.r)) (first | exact ⟨c0, c1, d0, d1⟩ | exact ⟨(hb1.cell (p := ⟨b, _, none⟩) (by simp; omega)).trans c0, (hb1.cell (p := ⟨b, _, none⟩) (by simp; omega)).trans c1, (hb1.cell (p := ⟨b, _, none⟩) (by simp; omega)).trans d0, (hb1.cell (p := ⟨b, _, none⟩) (by simp; omega)).trans d1⟩) (first | (go_at_call 10; refine (refLess_any e x _).mono ?_; rintro e1 w1 ⟨rfl, hb1⟩; rw [HLS.out]))
          cases t with
          | true =>
            go_wp2
            go_roundg g
            case measure => omega
            case rel => exact ⟨q + 1, by omega, by omega, by go_num, by rw [HX.out]; simp, hB.drew.trans (hb1.mono (by have := hB.size; simp; omega))⟩
          | false =>
            go_wp2
            go_roundg g
            case measure => omega
            case rel => exact ⟨q + 1, by omega, by omega, by go_num, by rw [HX.out]; simp, hB.drew.trans (hb1.mono (by have := hB.size; simp; omega))⟩
        · obtain rfl : q = n := by omega
          cases hT2 : topTo l k q with
          | true =>
            have HT2 := Lib.hid hT2
            clear hT2
            go_wp2
            go_ret
            exact ⟨ret_int (first_top (l := l) (i := k) (by rw [HN.out]; exact hlt) (by rw [HN.out]; exact HT2.out) (by rw [HN.out]; exact hT.out)).symm, hB⟩
          | false =>
            have HT2 := Lib.hid hT2
            clear hT2
            go_wp2
            go_roundg f
            case measure => omega
            case rel =>
              refine ⟨k + 1, by omega, by omega, by go_num, fun j hj => ?_, hB⟩
              by_cases e1 : j = k
              · rw [e1]; exact HT2.out
              · exact hT.out j (by omega)
    · obtain rfl : k = n := by omega
      go_wp2
      go_ret
      exact ⟨ret_int (no_top (by rw [HN.out]; exact hT.out)).symm, hB⟩
def exS : List St := [⟨3, 1⟩, ⟨4, 0⟩, ⟨4, 2⟩, ⟨1, 4⟩]
theorem exS_last : lastI exS = 2 := by rfl
set_option maxRecDepth 100000 in
set_option maxHeartbeats 1000000 in
theorem shown04_any (w : World) :
    Calls Try.prog 8 #[] w fun e w' => e = .returned (.bool true) ∧ Below w.heap.size w w' := by
  go_enter Try.func8, Try.ntmps8
  go_wp2_with fail
  refine (last_any _ _ exS _ (Kn.row_of (blk_new w (exS.flatMap stK.enc) 23)) (by decide)).mono ?_
  rintro e w1 ⟨rfl, hb1⟩
  rw [exS_last]
  have hB1 := ((Below.refl w.heap.size w).alloc (Nat.le_refl _) (Obj.cells (exS.flatMap stK.enc).toArray 23)).trans (hb1.mono (by simp))
  clear hb1
  go_wp2_with fail
  refine (less_any ⟨3, 1⟩ ⟨4, 0⟩ _).mono ?_
  rintro e w2 ⟨rfl, hb2⟩
  have hB2 := hB1.trans (hb2.mono hB1.size)
  rw [show lessS ⟨3, 1⟩ ⟨4, 0⟩ = true from rfl]
  clear hb2 hB1
  go_wp2_with fail
  refine (last_any none 0 [] _ (.inl rfl) (by decide)).mono ?_
  rintro e w3 ⟨rfl, hb3⟩
  have hB3 := hB2.trans (hb3.mono hB2.size)
  rw [show lastI [] = -1 from rfl]
  clear hb3 hB2
  go_wp2
  go_ret
  exact ⟨rfl, hB3⟩
end Go.Proofs.Ytldlbnigjomjoaa
