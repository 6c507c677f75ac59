/- The walk of StampHeights. (Printed by wip/tools/heights.py.) -/
import Derived.Test.YtldlbnigjomjoaaL04
namespace Go.Proofs.Ytldlbnigjomjoaa
set_option linter.unusedVariables false
set_option linter.unusedSimpArgs false
open Go.RowKit
attribute [local go_sem] q_le0 q_le1 q_le2 q_le3 q_le4 q_le5 q_lt1 q_lt2 q_lt3 q_lt4 q_lt5
attribute [local go_sem high] eqSt

theorem bsz {a w : World} (h : Below a.heap.size a w) : a.heap.size ≤ w.heap.size := h.size
theorem blk_al {w : World} {b : Nat} {l : List Value} {t : TypeId} (h : blk w b l t) (o : Obj) : blk (w.alloc o) b l t ∧ ∀ o', (w.alloc o).cell? ⟨b, o', none⟩ = l[o']? := ⟨h.alloc o, (h.alloc o).cell⟩
theorem blk_be {w w' : World} {b : Nat} {l : List Value} {t : TypeId} (h : blk w b l t) (hb : Below w.heap.size w w') : blk w' b l t ∧ ∀ o', w'.cell? ⟨b, o', none⟩ = l[o']? := ⟨h.below hb h.lt, (h.below hb h.lt).cell⟩
theorem last_hi {a b : St} (h : lessS b a = true) : lastI [a, b] = 0 := by
  have h2 := lessS_asym h
  simp [lastI, lastTo, h2]
theorem last_lo {a b : St} (h : lessS a b = true) : lastI [a, b] = 1 := by
  simp [lastI, lastTo, h]

set_option maxRecDepth 100000 in
set_option maxHeartbeats 4000000 in
theorem heights_alt (t x y : Int) (more : Nat) (w : World) (h0 : -9223372036854775808 ≤ t) (h1 : t ≤ 9223372036854775807) (hm : more ≤ 65535) (hh : 4611686018427387904 < t) (hxy : x < y) :
    Calls Try.prog 7 #[.int .i64 t, .agg #[.int .i64 x, .int .i64 y], .int .u16 more] w fun e w' => e = .returned (.bool true) ∧ Below w.heap.size w w' := by
  have hnb := (blk_new w [.int .i64 x, .int .i64 y] 33)
  have HLH := Lib.hid (lessS_iff.2 (.inl (by show (4611686018427387904 : Int) < (4611686018427387905 + ↑more); omega)) : lessS ⟨4611686018427387904, x⟩ ⟨(4611686018427387905 + ↑more), y⟩ = true)
  have HHL := Lib.hid (lessS_asym HLH.out)
  have HAB := Lib.hid ((by rw [lessS_iff]; right; exact ⟨rfl, by show x < y; omega⟩) : lessS ⟨t, x⟩ ⟨t, y⟩ = true)
  have H0 := Lib.hid (last_hi HLH.out)
  have H1 := Lib.hid (last_lo HLH.out)
  have hne : (x != y) = true := bne_iff_ne.2 (by omega)
  go_enter Try.func7, Try.ntmps7
  go_wp2_with fail
  refine (shown04_any _).mono ?_
  rintro e w1 ⟨rfl, hb1⟩
  have kR := hnb.below hb1 (by first | omega | (simp; done) | (simp; omega))
  have lR := kR.lt
  have cR := kR.cell
  have hB := ((Below.refl w.heap.size w).alloc (Nat.le_refl _) (Obj.cells #[.int .i64 x, .int .i64 y] 33)).trans (hb1.mono (by first | omega | (simp; done) | (simp; omega)))
  clear hb1 hnb
  go_wp2
  generalize (4611686018427387905 + ↑more : Int) = hi at *
  generalize (4611686018427387904 : Int) = lo at *
  have g0 := ((((blk_at (w := w1) (b := w1.heap.size) (by simp) [.int .i64 lo, .int .i64 x] 23).alloc (Obj.cells #[.int .i64 hi, .int .i64 y] 23)).alloc (Obj.cells #[.int .i64 t, .int .i64 x] 23)).alloc (Obj.cells #[.int .i64 t, .int .i64 y] 23)).drew
  have g1 := (((blk_at (w := (w1.alloc (Obj.cells #[.int .i64 lo, .int .i64 x] 23))) (b := w1.heap.size + 1) (by simp) [.int .i64 hi, .int .i64 y] 23).alloc (Obj.cells #[.int .i64 t, .int .i64 x] 23)).alloc (Obj.cells #[.int .i64 t, .int .i64 y] 23)).drew
  have g2 := ((blk_at (w := ((w1.alloc (Obj.cells #[.int .i64 lo, .int .i64 x] 23)).alloc (Obj.cells #[.int .i64 hi, .int .i64 y] 23))) (b := w1.heap.size + 1 + 1) (by simp) [.int .i64 t, .int .i64 x] 23).alloc (Obj.cells #[.int .i64 t, .int .i64 y] 23)).drew
  have g3 := (blk_at (w := (((w1.alloc (Obj.cells #[.int .i64 lo, .int .i64 x] 23)).alloc (Obj.cells #[.int .i64 hi, .int .i64 y] 23)).alloc (Obj.cells #[.int .i64 t, .int .i64 x] 23))) (b := w1.heap.size + 1 + 1 + 1) (by simp) [.int .i64 t, .int .i64 y] 23).drew
  have g4 := (((((kR).alloc (Obj.cells #[.int .i64 lo, .int .i64 x] 23)).alloc (Obj.cells #[.int .i64 hi, .int .i64 y] 23)).alloc (Obj.cells #[.int .i64 t, .int .i64 x] 23)).alloc (Obj.cells #[.int .i64 t, .int .i64 y] 23)).drew
  have gB := (((((Below.refl w1.heap.size w1).alloc (by first | omega | (simp; done) | (simp; omega)) (Obj.cells #[.int .i64 lo, .int .i64 x] 23)).alloc (by first | omega | (simp; done) | (simp; omega)) (Obj.cells #[.int .i64 hi, .int .i64 y] 23)).alloc (by first | omega | (simp; done) | (simp; omega)) (Obj.cells #[.int .i64 t, .int .i64 x] 23)).alloc (by first | omega | (simp; done) | (simp; omega)) (Obj.cells #[.int .i64 t, .int .i64 y] 23)).drew
  first | (go_region_held3 (fun w' => (blk w' (w1.heap.size) [.int .i64 lo, .int .i64 x] 23 ∧ ∀ o, w'.cell? ⟨w1.heap.size, o, none⟩ = ([.int .i64 lo, .int .i64 x] : List Value)[o]?) ∧ (blk w' (w1.heap.size + 1) [.int .i64 hi, .int .i64 y] 23 ∧ ∀ o, w'.cell? ⟨w1.heap.size + 1, o, none⟩ = ([.int .i64 hi, .int .i64 y] : List Value)[o]?) ∧ (blk w' (w1.heap.size + 1 + 1) [.int .i64 t, .int .i64 x] 23 ∧ ∀ o, w'.cell? ⟨w1.heap.size + 1 + 1, o, none⟩ = ([.int .i64 t, .int .i64 x] : List Value)[o]?) ∧ (blk w' (w1.heap.size + 1 + 1 + 1) [.int .i64 t, .int .i64 y] 23 ∧ ∀ o, w'.cell? ⟨w1.heap.size + 1 + 1 + 1, o, none⟩ = ([.int .i64 t, .int .i64 y] : List Value)[o]?) ∧ (blk w' (w.heap.size) [.int .i64 x, .int .i64 y] 33 ∧ ∀ o, w'.cell? ⟨w.heap.size, o, none⟩ = ([.int .i64 x, .int .i64 y] : List Value)[o]?) ∧ Below w1.heap.size w1 w') (first | exact ⟨⟨g0, g0.cell⟩, ⟨g1, g1.cell⟩, ⟨g2, g2.cell⟩, ⟨g3, g3.cell⟩, ⟨g4, g4.cell⟩, gB⟩ | assumption | (go_split_ands; exact ⟨⟨by assumption, by assumption⟩, ⟨by assumption, by assumption⟩, ⟨by assumption, by assumption⟩, ⟨by assumption, by assumption⟩, ⟨by assumption, by assumption⟩, by assumption⟩) | (go_split_ands; exact ⟨blk_al (by assumption) _, blk_al (by assumption) _, blk_al (by assumption) _, blk_al (by assumption) _, blk_al (by assumption) _, Below.alloc (by assumption) (bsz (by assumption)) _⟩) | (go_split_ands; exact ⟨blk_be (by assumption) hb2, blk_be (by assumption) hb2, blk_be (by assumption) hb2, blk_be (by assumption) hb2, blk_be (by assumption) hb2, Below.trans (by assumption) (hb2.mono (bsz (by assumption)))⟩)) (first | (go_at_call 9; refine (less_any ⟨_, _⟩ ⟨_, _⟩ _).mono ?_; rintro e1 w2 ⟨rfl, hb2⟩; first | rw [HLH.out] | rw [HHL.out] | rw [HAB.out]) | (go_at_call 11; refine (last_any _ _ [⟨hi, y⟩, ⟨lo, x⟩] _ (Kn.row_of (blk_new _ _ _)) (show 2 ≤ maxLen by decide)).mono ?_; rintro e1 w2 ⟨rfl, hb2⟩; rw [H0.out]) | (go_at_call 11; refine (last_any _ _ [⟨lo, x⟩, ⟨hi, y⟩] _ (Kn.row_of (blk_new _ _ _)) (show 2 ≤ maxLen by decide)).mono ?_; rintro e1 w2 ⟨rfl, hb2⟩; rw [H1.out]))) | fail
  go_wp2
  go_ret
  exact ⟨rfl, by go_split_ands; exact hB.trans (Below.mono (by assumption) hB.size)⟩

set_option maxRecDepth 100000 in
set_option maxHeartbeats 4000000 in
theorem heights_agt (t x y : Int) (more : Nat) (w : World) (h0 : -9223372036854775808 ≤ t) (h1 : t ≤ 9223372036854775807) (hm : more ≤ 65535) (hh : 4611686018427387904 < t) (hxy : y < x) :
    Calls Try.prog 7 #[.int .i64 t, .agg #[.int .i64 x, .int .i64 y], .int .u16 more] w fun e w' => e = .returned (.bool true) ∧ Below w.heap.size w w' := by
  have hnb := (blk_new w [.int .i64 x, .int .i64 y] 33)
  have HLH := Lib.hid (lessS_iff.2 (.inl (by show (4611686018427387904 : Int) < (4611686018427387905 + ↑more); omega)) : lessS ⟨4611686018427387904, x⟩ ⟨(4611686018427387905 + ↑more), y⟩ = true)
  have HHL := Lib.hid (lessS_asym HLH.out)
  have HAB := Lib.hid ((by rw [lessS_iff]; right; exact ⟨rfl, by show y < x; omega⟩) : lessS ⟨t, y⟩ ⟨t, x⟩ = true)
  have H0 := Lib.hid (last_hi HLH.out)
  have H1 := Lib.hid (last_lo HLH.out)
  have hne : (x != y) = true := bne_iff_ne.2 (by omega)
  go_enter Try.func7, Try.ntmps7
  go_wp2_with fail
  refine (shown04_any _).mono ?_
  rintro e w1 ⟨rfl, hb1⟩
  have kR := hnb.below hb1 (by first | omega | (simp; done) | (simp; omega))
  have lR := kR.lt
  have cR := kR.cell
  have hB := ((Below.refl w.heap.size w).alloc (Nat.le_refl _) (Obj.cells #[.int .i64 x, .int .i64 y] 33)).trans (hb1.mono (by first | omega | (simp; done) | (simp; omega)))
  clear hb1 hnb
  go_wp2
  generalize (4611686018427387905 + ↑more : Int) = hi at *
  generalize (4611686018427387904 : Int) = lo at *
  have g0 := ((((blk_at (w := w1) (b := w1.heap.size) (by simp) [.int .i64 lo, .int .i64 x] 23).alloc (Obj.cells #[.int .i64 hi, .int .i64 y] 23)).alloc (Obj.cells #[.int .i64 t, .int .i64 y] 23)).alloc (Obj.cells #[.int .i64 t, .int .i64 x] 23)).drew
  have g1 := (((blk_at (w := (w1.alloc (Obj.cells #[.int .i64 lo, .int .i64 x] 23))) (b := w1.heap.size + 1) (by simp) [.int .i64 hi, .int .i64 y] 23).alloc (Obj.cells #[.int .i64 t, .int .i64 y] 23)).alloc (Obj.cells #[.int .i64 t, .int .i64 x] 23)).drew
  have g2 := ((blk_at (w := ((w1.alloc (Obj.cells #[.int .i64 lo, .int .i64 x] 23)).alloc (Obj.cells #[.int .i64 hi, .int .i64 y] 23))) (b := w1.heap.size + 1 + 1) (by simp) [.int .i64 t, .int .i64 y] 23).alloc (Obj.cells #[.int .i64 t, .int .i64 x] 23)).drew
  have g3 := (blk_at (w := (((w1.alloc (Obj.cells #[.int .i64 lo, .int .i64 x] 23)).alloc (Obj.cells #[.int .i64 hi, .int .i64 y] 23)).alloc (Obj.cells #[.int .i64 t, .int .i64 y] 23))) (b := w1.heap.size + 1 + 1 + 1) (by simp) [.int .i64 t, .int .i64 x] 23).drew
  have g4 := (((((kR).alloc (Obj.cells #[.int .i64 lo, .int .i64 x] 23)).alloc (Obj.cells #[.int .i64 hi, .int .i64 y] 23)).alloc (Obj.cells #[.int .i64 t, .int .i64 y] 23)).alloc (Obj.cells #[.int .i64 t, .int .i64 x] 23)).drew
  have gB := (((((Below.refl w1.heap.size w1).alloc (by first | omega | (simp; done) | (simp; omega)) (Obj.cells #[.int .i64 lo, .int .i64 x] 23)).alloc (by first | omega | (simp; done) | (simp; omega)) (Obj.cells #[.int .i64 hi, .int .i64 y] 23)).alloc (by first | omega | (simp; done) | (simp; omega)) (Obj.cells #[.int .i64 t, .int .i64 y] 23)).alloc (by first | omega | (simp; done) | (simp; omega)) (Obj.cells #[.int .i64 t, .int .i64 x] 23)).drew
  first | (go_region_held3 (fun w' => (blk w' (w1.heap.size) [.int .i64 lo, .int .i64 x] 23 ∧ ∀ o, w'.cell? ⟨w1.heap.size, o, none⟩ = ([.int .i64 lo, .int .i64 x] : List Value)[o]?) ∧ (blk w' (w1.heap.size + 1) [.int .i64 hi, .int .i64 y] 23 ∧ ∀ o, w'.cell? ⟨w1.heap.size + 1, o, none⟩ = ([.int .i64 hi, .int .i64 y] : List Value)[o]?) ∧ (blk w' (w1.heap.size + 1 + 1) [.int .i64 t, .int .i64 y] 23 ∧ ∀ o, w'.cell? ⟨w1.heap.size + 1 + 1, o, none⟩ = ([.int .i64 t, .int .i64 y] : List Value)[o]?) ∧ (blk w' (w1.heap.size + 1 + 1 + 1) [.int .i64 t, .int .i64 x] 23 ∧ ∀ o, w'.cell? ⟨w1.heap.size + 1 + 1 + 1, o, none⟩ = ([.int .i64 t, .int .i64 x] : List Value)[o]?) ∧ (blk w' (w.heap.size) [.int .i64 x, .int .i64 y] 33 ∧ ∀ o, w'.cell? ⟨w.heap.size, o, none⟩ = ([.int .i64 x, .int .i64 y] : List Value)[o]?) ∧ Below w1.heap.size w1 w') (first | exact ⟨⟨g0, g0.cell⟩, ⟨g1, g1.cell⟩, ⟨g2, g2.cell⟩, ⟨g3, g3.cell⟩, ⟨g4, g4.cell⟩, gB⟩ | assumption | (go_split_ands; exact ⟨⟨by assumption, by assumption⟩, ⟨by assumption, by assumption⟩, ⟨by assumption, by assumption⟩, ⟨by assumption, by assumption⟩, ⟨by assumption, by assumption⟩, by assumption⟩) | (go_split_ands; exact ⟨blk_al (by assumption) _, blk_al (by assumption) _, blk_al (by assumption) _, blk_al (by assumption) _, blk_al (by assumption) _, Below.alloc (by assumption) (bsz (by assumption)) _⟩) | (go_split_ands; exact ⟨blk_be (by assumption) hb2, blk_be (by assumption) hb2, blk_be (by assumption) hb2, blk_be (by assumption) hb2, blk_be (by assumption) hb2, Below.trans (by assumption) (hb2.mono (bsz (by assumption)))⟩)) (first | (go_at_call 9; refine (less_any ⟨_, _⟩ ⟨_, _⟩ _).mono ?_; rintro e1 w2 ⟨rfl, hb2⟩; first | rw [HLH.out] | rw [HHL.out] | rw [HAB.out]) | (go_at_call 11; refine (last_any _ _ [⟨hi, y⟩, ⟨lo, x⟩] _ (Kn.row_of (blk_new _ _ _)) (show 2 ≤ maxLen by decide)).mono ?_; rintro e1 w2 ⟨rfl, hb2⟩; rw [H0.out]) | (go_at_call 11; refine (last_any _ _ [⟨lo, x⟩, ⟨hi, y⟩] _ (Kn.row_of (blk_new _ _ _)) (show 2 ≤ maxLen by decide)).mono ?_; rintro e1 w2 ⟨rfl, hb2⟩; rw [H1.out]))) | fail
  go_wp2
  go_ret
  exact ⟨rfl, by go_split_ands; exact hB.trans (Below.mono (by assumption) hB.size)⟩

set_option maxRecDepth 100000 in
set_option maxHeartbeats 4000000 in
theorem heights_aeq (t x y : Int) (more : Nat) (w : World) (h0 : -9223372036854775808 ≤ t) (h1 : t ≤ 9223372036854775807) (hm : more ≤ 65535) (hh : 4611686018427387904 < t) :
    Calls Try.prog 7 #[.int .i64 t, .agg #[.int .i64 x, .int .i64 x], .int .u16 more] w fun e w' => e = .returned (.bool true) ∧ Below w.heap.size w w' := by
  have hnb := (blk_new w [.int .i64 x, .int .i64 x] 33)
  have HLH := Lib.hid (lessS_iff.2 (.inl (by show (4611686018427387904 : Int) < (4611686018427387905 + ↑more); omega)) : lessS ⟨4611686018427387904, x⟩ ⟨(4611686018427387905 + ↑more), x⟩ = true)
  have HHL := Lib.hid (lessS_asym HLH.out)
  have HAB := Lib.hid ((by exact lessS_irr _) : lessS ⟨t, x⟩ ⟨t, x⟩ = false)
  have H0 := Lib.hid (last_hi HLH.out)
  have H1 := Lib.hid (last_lo HLH.out)
  skip
  go_enter Try.func7, Try.ntmps7
  go_wp2_with fail
  refine (shown04_any _).mono ?_
  rintro e w1 ⟨rfl, hb1⟩
  have kR := hnb.below hb1 (by first | omega | (simp; done) | (simp; omega))
  have lR := kR.lt
  have cR := kR.cell
  have hB := ((Below.refl w.heap.size w).alloc (Nat.le_refl _) (Obj.cells #[.int .i64 x, .int .i64 x] 33)).trans (hb1.mono (by first | omega | (simp; done) | (simp; omega)))
  clear hb1 hnb
  go_wp2
  generalize (4611686018427387905 + ↑more : Int) = hi at *
  generalize (4611686018427387904 : Int) = lo at *
  have g0 := ((((blk_at (w := w1) (b := w1.heap.size) (by simp) [.int .i64 lo, .int .i64 x] 23).alloc (Obj.cells #[.int .i64 hi, .int .i64 x] 23)).alloc (Obj.cells #[.int .i64 t, .int .i64 x] 23)).alloc (Obj.cells #[.int .i64 t, .int .i64 x] 23)).drew
  have g1 := (((blk_at (w := (w1.alloc (Obj.cells #[.int .i64 lo, .int .i64 x] 23))) (b := w1.heap.size + 1) (by simp) [.int .i64 hi, .int .i64 x] 23).alloc (Obj.cells #[.int .i64 t, .int .i64 x] 23)).alloc (Obj.cells #[.int .i64 t, .int .i64 x] 23)).drew
  have g2 := ((blk_at (w := ((w1.alloc (Obj.cells #[.int .i64 lo, .int .i64 x] 23)).alloc (Obj.cells #[.int .i64 hi, .int .i64 x] 23))) (b := w1.heap.size + 1 + 1) (by simp) [.int .i64 t, .int .i64 x] 23).alloc (Obj.cells #[.int .i64 t, .int .i64 x] 23)).drew
  have g3 := (blk_at (w := (((w1.alloc (Obj.cells #[.int .i64 lo, .int .i64 x] 23)).alloc (Obj.cells #[.int .i64 hi, .int .i64 x] 23)).alloc (Obj.cells #[.int .i64 t, .int .i64 x] 23))) (b := w1.heap.size + 1 + 1 + 1) (by simp) [.int .i64 t, .int .i64 x] 23).drew
  have g4 := (((((kR).alloc (Obj.cells #[.int .i64 lo, .int .i64 x] 23)).alloc (Obj.cells #[.int .i64 hi, .int .i64 x] 23)).alloc (Obj.cells #[.int .i64 t, .int .i64 x] 23)).alloc (Obj.cells #[.int .i64 t, .int .i64 x] 23)).drew
  have gB := (((((Below.refl w1.heap.size w1).alloc (by first | omega | (simp; done) | (simp; omega)) (Obj.cells #[.int .i64 lo, .int .i64 x] 23)).alloc (by first | omega | (simp; done) | (simp; omega)) (Obj.cells #[.int .i64 hi, .int .i64 x] 23)).alloc (by first | omega | (simp; done) | (simp; omega)) (Obj.cells #[.int .i64 t, .int .i64 x] 23)).alloc (by first | omega | (simp; done) | (simp; omega)) (Obj.cells #[.int .i64 t, .int .i64 x] 23)).drew
  first | (go_region_held3 (fun w' => (blk w' (w1.heap.size) [.int .i64 lo, .int .i64 x] 23 ∧ ∀ o, w'.cell? ⟨w1.heap.size, o, none⟩ = ([.int .i64 lo, .int .i64 x] : List Value)[o]?) ∧ (blk w' (w1.heap.size + 1) [.int .i64 hi, .int .i64 x] 23 ∧ ∀ o, w'.cell? ⟨w1.heap.size + 1, o, none⟩ = ([.int .i64 hi, .int .i64 x] : List Value)[o]?) ∧ (blk w' (w1.heap.size + 1 + 1) [.int .i64 t, .int .i64 x] 23 ∧ ∀ o, w'.cell? ⟨w1.heap.size + 1 + 1, o, none⟩ = ([.int .i64 t, .int .i64 x] : List Value)[o]?) ∧ (blk w' (w1.heap.size + 1 + 1 + 1) [.int .i64 t, .int .i64 x] 23 ∧ ∀ o, w'.cell? ⟨w1.heap.size + 1 + 1 + 1, o, none⟩ = ([.int .i64 t, .int .i64 x] : List Value)[o]?) ∧ (blk w' (w.heap.size) [.int .i64 x, .int .i64 x] 33 ∧ ∀ o, w'.cell? ⟨w.heap.size, o, none⟩ = ([.int .i64 x, .int .i64 x] : List Value)[o]?) ∧ Below w1.heap.size w1 w') (first | exact ⟨⟨g0, g0.cell⟩, ⟨g1, g1.cell⟩, ⟨g2, g2.cell⟩, ⟨g3, g3.cell⟩, ⟨g4, g4.cell⟩, gB⟩ | assumption | (go_split_ands; exact ⟨⟨by assumption, by assumption⟩, ⟨by assumption, by assumption⟩, ⟨by assumption, by assumption⟩, ⟨by assumption, by assumption⟩, ⟨by assumption, by assumption⟩, by assumption⟩) | (go_split_ands; exact ⟨blk_al (by assumption) _, blk_al (by assumption) _, blk_al (by assumption) _, blk_al (by assumption) _, blk_al (by assumption) _, Below.alloc (by assumption) (bsz (by assumption)) _⟩) | (go_split_ands; exact ⟨blk_be (by assumption) hb2, blk_be (by assumption) hb2, blk_be (by assumption) hb2, blk_be (by assumption) hb2, blk_be (by assumption) hb2, Below.trans (by assumption) (hb2.mono (bsz (by assumption)))⟩)) (first | (go_at_call 9; refine (less_any ⟨_, _⟩ ⟨_, _⟩ _).mono ?_; rintro e1 w2 ⟨rfl, hb2⟩; first | rw [HLH.out] | rw [HHL.out] | rw [HAB.out]) | (go_at_call 11; refine (last_any _ _ [⟨hi, x⟩, ⟨lo, x⟩] _ (Kn.row_of (blk_new _ _ _)) (show 2 ≤ maxLen by decide)).mono ?_; rintro e1 w2 ⟨rfl, hb2⟩; rw [H0.out]) | (go_at_call 11; refine (last_any _ _ [⟨lo, x⟩, ⟨hi, x⟩] _ (Kn.row_of (blk_new _ _ _)) (show 2 ≤ maxLen by decide)).mono ?_; rintro e1 w2 ⟨rfl, hb2⟩; rw [H1.out]))) | fail
  go_wp2
  go_ret
  exact ⟨rfl, by go_split_ands; exact hB.trans (Below.mono (by assumption) hB.size)⟩

set_option maxRecDepth 100000 in
set_option maxHeartbeats 4000000 in
theorem heights_blt (t x y : Int) (more : Nat) (w : World) (h0 : -9223372036854775808 ≤ t) (h1 : t ≤ 9223372036854775807) (hm : more ≤ 65535) (hh : t ≤ 4611686018427387904) (hxy : x < y) :
    Calls Try.prog 7 #[.int .i64 t, .agg #[.int .i64 x, .int .i64 y], .int .u16 more] w fun e w' => e = .returned (.bool true) ∧ Below w.heap.size w w' := by
  have hnb := (blk_new w [.int .i64 x, .int .i64 y] 33)
  have HLH := Lib.hid (lessS_iff.2 (.inl (by show (t : Int) < (t + 1 + ↑more); omega)) : lessS ⟨t, x⟩ ⟨(t + 1 + ↑more), y⟩ = true)
  have HHL := Lib.hid (lessS_asym HLH.out)
  have HAB := Lib.hid ((by rw [lessS_iff]; right; exact ⟨rfl, by show x < y; omega⟩) : lessS ⟨t, x⟩ ⟨t, y⟩ = true)
  have H0 := Lib.hid (last_hi HLH.out)
  have H1 := Lib.hid (last_lo HLH.out)
  have hne : (x != y) = true := bne_iff_ne.2 (by omega)
  go_enter Try.func7, Try.ntmps7
  go_wp2_with fail
  refine (shown04_any _).mono ?_
  rintro e w1 ⟨rfl, hb1⟩
  have kR := hnb.below hb1 (by first | omega | (simp; done) | (simp; omega))
  have lR := kR.lt
  have cR := kR.cell
  have hB := ((Below.refl w.heap.size w).alloc (Nat.le_refl _) (Obj.cells #[.int .i64 x, .int .i64 y] 33)).trans (hb1.mono (by first | omega | (simp; done) | (simp; omega)))
  clear hb1 hnb
  go_wp2
  skip
  have g0 := ((((blk_at (w := w1) (b := w1.heap.size) (by simp) [.int .i64 t, .int .i64 x] 23).alloc (Obj.cells #[.int .i64 (t + 1 + ↑more), .int .i64 y] 23)).alloc (Obj.cells #[.int .i64 t, .int .i64 x] 23)).alloc (Obj.cells #[.int .i64 t, .int .i64 y] 23)).drew
  have g1 := (((blk_at (w := (w1.alloc (Obj.cells #[.int .i64 t, .int .i64 x] 23))) (b := w1.heap.size + 1) (by simp) [.int .i64 (t + 1 + ↑more), .int .i64 y] 23).alloc (Obj.cells #[.int .i64 t, .int .i64 x] 23)).alloc (Obj.cells #[.int .i64 t, .int .i64 y] 23)).drew
  have g2 := ((blk_at (w := ((w1.alloc (Obj.cells #[.int .i64 t, .int .i64 x] 23)).alloc (Obj.cells #[.int .i64 (t + 1 + ↑more), .int .i64 y] 23))) (b := w1.heap.size + 1 + 1) (by simp) [.int .i64 t, .int .i64 x] 23).alloc (Obj.cells #[.int .i64 t, .int .i64 y] 23)).drew
  have g3 := (blk_at (w := (((w1.alloc (Obj.cells #[.int .i64 t, .int .i64 x] 23)).alloc (Obj.cells #[.int .i64 (t + 1 + ↑more), .int .i64 y] 23)).alloc (Obj.cells #[.int .i64 t, .int .i64 x] 23))) (b := w1.heap.size + 1 + 1 + 1) (by simp) [.int .i64 t, .int .i64 y] 23).drew
  have g4 := (((((kR).alloc (Obj.cells #[.int .i64 t, .int .i64 x] 23)).alloc (Obj.cells #[.int .i64 (t + 1 + ↑more), .int .i64 y] 23)).alloc (Obj.cells #[.int .i64 t, .int .i64 x] 23)).alloc (Obj.cells #[.int .i64 t, .int .i64 y] 23)).drew
  have gB := (((((Below.refl w1.heap.size w1).alloc (by first | omega | (simp; done) | (simp; omega)) (Obj.cells #[.int .i64 t, .int .i64 x] 23)).alloc (by first | omega | (simp; done) | (simp; omega)) (Obj.cells #[.int .i64 (t + 1 + ↑more), .int .i64 y] 23)).alloc (by first | omega | (simp; done) | (simp; omega)) (Obj.cells #[.int .i64 t, .int .i64 x] 23)).alloc (by first | omega | (simp; done) | (simp; omega)) (Obj.cells #[.int .i64 t, .int .i64 y] 23)).drew
  first | (go_region_held3 (fun w' => (blk w' (w1.heap.size) [.int .i64 t, .int .i64 x] 23 ∧ ∀ o, w'.cell? ⟨w1.heap.size, o, none⟩ = ([.int .i64 t, .int .i64 x] : List Value)[o]?) ∧ (blk w' (w1.heap.size + 1) [.int .i64 (t + 1 + ↑more), .int .i64 y] 23 ∧ ∀ o, w'.cell? ⟨w1.heap.size + 1, o, none⟩ = ([.int .i64 (t + 1 + ↑more), .int .i64 y] : List Value)[o]?) ∧ (blk w' (w1.heap.size + 1 + 1) [.int .i64 t, .int .i64 x] 23 ∧ ∀ o, w'.cell? ⟨w1.heap.size + 1 + 1, o, none⟩ = ([.int .i64 t, .int .i64 x] : List Value)[o]?) ∧ (blk w' (w1.heap.size + 1 + 1 + 1) [.int .i64 t, .int .i64 y] 23 ∧ ∀ o, w'.cell? ⟨w1.heap.size + 1 + 1 + 1, o, none⟩ = ([.int .i64 t, .int .i64 y] : List Value)[o]?) ∧ (blk w' (w.heap.size) [.int .i64 x, .int .i64 y] 33 ∧ ∀ o, w'.cell? ⟨w.heap.size, o, none⟩ = ([.int .i64 x, .int .i64 y] : List Value)[o]?) ∧ Below w1.heap.size w1 w') (first | exact ⟨⟨g0, g0.cell⟩, ⟨g1, g1.cell⟩, ⟨g2, g2.cell⟩, ⟨g3, g3.cell⟩, ⟨g4, g4.cell⟩, gB⟩ | assumption | (go_split_ands; exact ⟨⟨by assumption, by assumption⟩, ⟨by assumption, by assumption⟩, ⟨by assumption, by assumption⟩, ⟨by assumption, by assumption⟩, ⟨by assumption, by assumption⟩, by assumption⟩) | (go_split_ands; exact ⟨blk_al (by assumption) _, blk_al (by assumption) _, blk_al (by assumption) _, blk_al (by assumption) _, blk_al (by assumption) _, Below.alloc (by assumption) (bsz (by assumption)) _⟩) | (go_split_ands; exact ⟨blk_be (by assumption) hb2, blk_be (by assumption) hb2, blk_be (by assumption) hb2, blk_be (by assumption) hb2, blk_be (by assumption) hb2, Below.trans (by assumption) (hb2.mono (bsz (by assumption)))⟩)) (first | (go_at_call 9; refine (less_any ⟨_, _⟩ ⟨_, _⟩ _).mono ?_; rintro e1 w2 ⟨rfl, hb2⟩; first | rw [HLH.out] | rw [HHL.out] | rw [HAB.out]) | (go_at_call 11; refine (last_any _ _ [⟨(t + 1 + ↑more), y⟩, ⟨t, x⟩] _ (Kn.row_of (blk_new _ _ _)) (show 2 ≤ maxLen by decide)).mono ?_; rintro e1 w2 ⟨rfl, hb2⟩; rw [H0.out]) | (go_at_call 11; refine (last_any _ _ [⟨t, x⟩, ⟨(t + 1 + ↑more), y⟩] _ (Kn.row_of (blk_new _ _ _)) (show 2 ≤ maxLen by decide)).mono ?_; rintro e1 w2 ⟨rfl, hb2⟩; rw [H1.out]))) | fail
  go_wp2
  go_ret
  exact ⟨rfl, by go_split_ands; exact hB.trans (Below.mono (by assumption) hB.size)⟩

set_option maxRecDepth 100000 in
set_option maxHeartbeats 4000000 in
theorem heights_bgt (t x y : Int) (more : Nat) (w : World) (h0 : -9223372036854775808 ≤ t) (h1 : t ≤ 9223372036854775807) (hm : more ≤ 65535) (hh : t ≤ 4611686018427387904) (hxy : y < x) :
    Calls Try.prog 7 #[.int .i64 t, .agg #[.int .i64 x, .int .i64 y], .int .u16 more] w fun e w' => e = .returned (.bool true) ∧ Below w.heap.size w w' := by
  have hnb := (blk_new w [.int .i64 x, .int .i64 y] 33)
  have HLH := Lib.hid (lessS_iff.2 (.inl (by show (t : Int) < (t + 1 + ↑more); omega)) : lessS ⟨t, x⟩ ⟨(t + 1 + ↑more), y⟩ = true)
  have HHL := Lib.hid (lessS_asym HLH.out)
  have HAB := Lib.hid ((by rw [lessS_iff]; right; exact ⟨rfl, by show y < x; omega⟩) : lessS ⟨t, y⟩ ⟨t, x⟩ = true)
  have H0 := Lib.hid (last_hi HLH.out)
  have H1 := Lib.hid (last_lo HLH.out)
  have hne : (x != y) = true := bne_iff_ne.2 (by omega)
  go_enter Try.func7, Try.ntmps7
  go_wp2_with fail
  refine (shown04_any _).mono ?_
  rintro e w1 ⟨rfl, hb1⟩
  have kR := hnb.below hb1 (by first | omega | (simp; done) | (simp; omega))
  have lR := kR.lt
  have cR := kR.cell
  have hB := ((Below.refl w.heap.size w).alloc (Nat.le_refl _) (Obj.cells #[.int .i64 x, .int .i64 y] 33)).trans (hb1.mono (by first | omega | (simp; done) | (simp; omega)))
  clear hb1 hnb
  go_wp2
  skip
  have g0 := ((((blk_at (w := w1) (b := w1.heap.size) (by simp) [.int .i64 t, .int .i64 x] 23).alloc (Obj.cells #[.int .i64 (t + 1 + ↑more), .int .i64 y] 23)).alloc (Obj.cells #[.int .i64 t, .int .i64 y] 23)).alloc (Obj.cells #[.int .i64 t, .int .i64 x] 23)).drew
  have g1 := (((blk_at (w := (w1.alloc (Obj.cells #[.int .i64 t, .int .i64 x] 23))) (b := w1.heap.size + 1) (by simp) [.int .i64 (t + 1 + ↑more), .int .i64 y] 23).alloc (Obj.cells #[.int .i64 t, .int .i64 y] 23)).alloc (Obj.cells #[.int .i64 t, .int .i64 x] 23)).drew
  have g2 := ((blk_at (w := ((w1.alloc (Obj.cells #[.int .i64 t, .int .i64 x] 23)).alloc (Obj.cells #[.int .i64 (t + 1 + ↑more), .int .i64 y] 23))) (b := w1.heap.size + 1 + 1) (by simp) [.int .i64 t, .int .i64 y] 23).alloc (Obj.cells #[.int .i64 t, .int .i64 x] 23)).drew
  have g3 := (blk_at (w := (((w1.alloc (Obj.cells #[.int .i64 t, .int .i64 x] 23)).alloc (Obj.cells #[.int .i64 (t + 1 + ↑more), .int .i64 y] 23)).alloc (Obj.cells #[.int .i64 t, .int .i64 y] 23))) (b := w1.heap.size + 1 + 1 + 1) (by simp) [.int .i64 t, .int .i64 x] 23).drew
  have g4 := (((((kR).alloc (Obj.cells #[.int .i64 t, .int .i64 x] 23)).alloc (Obj.cells #[.int .i64 (t + 1 + ↑more), .int .i64 y] 23)).alloc (Obj.cells #[.int .i64 t, .int .i64 y] 23)).alloc (Obj.cells #[.int .i64 t, .int .i64 x] 23)).drew
  have gB := (((((Below.refl w1.heap.size w1).alloc (by first | omega | (simp; done) | (simp; omega)) (Obj.cells #[.int .i64 t, .int .i64 x] 23)).alloc (by first | omega | (simp; done) | (simp; omega)) (Obj.cells #[.int .i64 (t + 1 + ↑more), .int .i64 y] 23)).alloc (by first | omega | (simp; done) | (simp; omega)) (Obj.cells #[.int .i64 t, .int .i64 y] 23)).alloc (by first | omega | (simp; done) | (simp; omega)) (Obj.cells #[.int .i64 t, .int .i64 x] 23)).drew
  first | (go_region_held3 (fun w' => (blk w' (w1.heap.size) [.int .i64 t, .int .i64 x] 23 ∧ ∀ o, w'.cell? ⟨w1.heap.size, o, none⟩ = ([.int .i64 t, .int .i64 x] : List Value)[o]?) ∧ (blk w' (w1.heap.size + 1) [.int .i64 (t + 1 + ↑more), .int .i64 y] 23 ∧ ∀ o, w'.cell? ⟨w1.heap.size + 1, o, none⟩ = ([.int .i64 (t + 1 + ↑more), .int .i64 y] : List Value)[o]?) ∧ (blk w' (w1.heap.size + 1 + 1) [.int .i64 t, .int .i64 y] 23 ∧ ∀ o, w'.cell? ⟨w1.heap.size + 1 + 1, o, none⟩ = ([.int .i64 t, .int .i64 y] : List Value)[o]?) ∧ (blk w' (w1.heap.size + 1 + 1 + 1) [.int .i64 t, .int .i64 x] 23 ∧ ∀ o, w'.cell? ⟨w1.heap.size + 1 + 1 + 1, o, none⟩ = ([.int .i64 t, .int .i64 x] : List Value)[o]?) ∧ (blk w' (w.heap.size) [.int .i64 x, .int .i64 y] 33 ∧ ∀ o, w'.cell? ⟨w.heap.size, o, none⟩ = ([.int .i64 x, .int .i64 y] : List Value)[o]?) ∧ Below w1.heap.size w1 w') (first | exact ⟨⟨g0, g0.cell⟩, ⟨g1, g1.cell⟩, ⟨g2, g2.cell⟩, ⟨g3, g3.cell⟩, ⟨g4, g4.cell⟩, gB⟩ | assumption | (go_split_ands; exact ⟨⟨by assumption, by assumption⟩, ⟨by assumption, by assumption⟩, ⟨by assumption, by assumption⟩, ⟨by assumption, by assumption⟩, ⟨by assumption, by assumption⟩, by assumption⟩) | (go_split_ands; exact ⟨blk_al (by assumption) _, blk_al (by assumption) _, blk_al (by assumption) _, blk_al (by assumption) _, blk_al (by assumption) _, Below.alloc (by assumption) (bsz (by assumption)) _⟩) | (go_split_ands; exact ⟨blk_be (by assumption) hb2, blk_be (by assumption) hb2, blk_be (by assumption) hb2, blk_be (by assumption) hb2, blk_be (by assumption) hb2, Below.trans (by assumption) (hb2.mono (bsz (by assumption)))⟩)) (first | (go_at_call 9; refine (less_any ⟨_, _⟩ ⟨_, _⟩ _).mono ?_; rintro e1 w2 ⟨rfl, hb2⟩; first | rw [HLH.out] | rw [HHL.out] | rw [HAB.out]) | (go_at_call 11; refine (last_any _ _ [⟨(t + 1 + ↑more), y⟩, ⟨t, x⟩] _ (Kn.row_of (blk_new _ _ _)) (show 2 ≤ maxLen by decide)).mono ?_; rintro e1 w2 ⟨rfl, hb2⟩; rw [H0.out]) | (go_at_call 11; refine (last_any _ _ [⟨t, x⟩, ⟨(t + 1 + ↑more), y⟩] _ (Kn.row_of (blk_new _ _ _)) (show 2 ≤ maxLen by decide)).mono ?_; rintro e1 w2 ⟨rfl, hb2⟩; rw [H1.out]))) | fail
  go_wp2
  go_ret
  exact ⟨rfl, by go_split_ands; exact hB.trans (Below.mono (by assumption) hB.size)⟩

set_option maxRecDepth 100000 in
set_option maxHeartbeats 4000000 in
theorem heights_beq (t x y : Int) (more : Nat) (w : World) (h0 : -9223372036854775808 ≤ t) (h1 : t ≤ 9223372036854775807) (hm : more ≤ 65535) (hh : t ≤ 4611686018427387904) :
    Calls Try.prog 7 #[.int .i64 t, .agg #[.int .i64 x, .int .i64 x], .int .u16 more] w fun e w' => e = .returned (.bool true) ∧ Below w.heap.size w w' := by
  have hnb := (blk_new w [.int .i64 x, .int .i64 x] 33)
  have HLH := Lib.hid (lessS_iff.2 (.inl (by show (t : Int) < (t + 1 + ↑more); omega)) : lessS ⟨t, x⟩ ⟨(t + 1 + ↑more), x⟩ = true)
  have HHL := Lib.hid (lessS_asym HLH.out)
  have HAB := Lib.hid ((by exact lessS_irr _) : lessS ⟨t, x⟩ ⟨t, x⟩ = false)
  have H0 := Lib.hid (last_hi HLH.out)
  have H1 := Lib.hid (last_lo HLH.out)
  skip
  go_enter Try.func7, Try.ntmps7
  go_wp2_with fail
  refine (shown04_any _).mono ?_
  rintro e w1 ⟨rfl, hb1⟩
  have kR := hnb.below hb1 (by first | omega | (simp; done) | (simp; omega))
  have lR := kR.lt
  have cR := kR.cell
  have hB := ((Below.refl w.heap.size w).alloc (Nat.le_refl _) (Obj.cells #[.int .i64 x, .int .i64 x] 33)).trans (hb1.mono (by first | omega | (simp; done) | (simp; omega)))
  clear hb1 hnb
  go_wp2
  skip
  have g0 := ((((blk_at (w := w1) (b := w1.heap.size) (by simp) [.int .i64 t, .int .i64 x] 23).alloc (Obj.cells #[.int .i64 (t + 1 + ↑more), .int .i64 x] 23)).alloc (Obj.cells #[.int .i64 t, .int .i64 x] 23)).alloc (Obj.cells #[.int .i64 t, .int .i64 x] 23)).drew
  have g1 := (((blk_at (w := (w1.alloc (Obj.cells #[.int .i64 t, .int .i64 x] 23))) (b := w1.heap.size + 1) (by simp) [.int .i64 (t + 1 + ↑more), .int .i64 x] 23).alloc (Obj.cells #[.int .i64 t, .int .i64 x] 23)).alloc (Obj.cells #[.int .i64 t, .int .i64 x] 23)).drew
  have g2 := ((blk_at (w := ((w1.alloc (Obj.cells #[.int .i64 t, .int .i64 x] 23)).alloc (Obj.cells #[.int .i64 (t + 1 + ↑more), .int .i64 x] 23))) (b := w1.heap.size + 1 + 1) (by simp) [.int .i64 t, .int .i64 x] 23).alloc (Obj.cells #[.int .i64 t, .int .i64 x] 23)).drew
  have g3 := (blk_at (w := (((w1.alloc (Obj.cells #[.int .i64 t, .int .i64 x] 23)).alloc (Obj.cells #[.int .i64 (t + 1 + ↑more), .int .i64 x] 23)).alloc (Obj.cells #[.int .i64 t, .int .i64 x] 23))) (b := w1.heap.size + 1 + 1 + 1) (by simp) [.int .i64 t, .int .i64 x] 23).drew
  have g4 := (((((kR).alloc (Obj.cells #[.int .i64 t, .int .i64 x] 23)).alloc (Obj.cells #[.int .i64 (t + 1 + ↑more), .int .i64 x] 23)).alloc (Obj.cells #[.int .i64 t, .int .i64 x] 23)).alloc (Obj.cells #[.int .i64 t, .int .i64 x] 23)).drew
  have gB := (((((Below.refl w1.heap.size w1).alloc (by first | omega | (simp; done) | (simp; omega)) (Obj.cells #[.int .i64 t, .int .i64 x] 23)).alloc (by first | omega | (simp; done) | (simp; omega)) (Obj.cells #[.int .i64 (t + 1 + ↑more), .int .i64 x] 23)).alloc (by first | omega | (simp; done) | (simp; omega)) (Obj.cells #[.int .i64 t, .int .i64 x] 23)).alloc (by first | omega | (simp; done) | (simp; omega)) (Obj.cells #[.int .i64 t, .int .i64 x] 23)).drew
  first | (go_region_held3 (fun w' => (blk w' (w1.heap.size) [.int .i64 t, .int .i64 x] 23 ∧ ∀ o, w'.cell? ⟨w1.heap.size, o, none⟩ = ([.int .i64 t, .int .i64 x] : List Value)[o]?) ∧ (blk w' (w1.heap.size + 1) [.int .i64 (t + 1 + ↑more), .int .i64 x] 23 ∧ ∀ o, w'.cell? ⟨w1.heap.size + 1, o, none⟩ = ([.int .i64 (t + 1 + ↑more), .int .i64 x] : List Value)[o]?) ∧ (blk w' (w1.heap.size + 1 + 1) [.int .i64 t, .int .i64 x] 23 ∧ ∀ o, w'.cell? ⟨w1.heap.size + 1 + 1, o, none⟩ = ([.int .i64 t, .int .i64 x] : List Value)[o]?) ∧ (blk w' (w1.heap.size + 1 + 1 + 1) [.int .i64 t, .int .i64 x] 23 ∧ ∀ o, w'.cell? ⟨w1.heap.size + 1 + 1 + 1, o, none⟩ = ([.int .i64 t, .int .i64 x] : List Value)[o]?) ∧ (blk w' (w.heap.size) [.int .i64 x, .int .i64 x] 33 ∧ ∀ o, w'.cell? ⟨w.heap.size, o, none⟩ = ([.int .i64 x, .int .i64 x] : List Value)[o]?) ∧ Below w1.heap.size w1 w') (first | exact ⟨⟨g0, g0.cell⟩, ⟨g1, g1.cell⟩, ⟨g2, g2.cell⟩, ⟨g3, g3.cell⟩, ⟨g4, g4.cell⟩, gB⟩ | assumption | (go_split_ands; exact ⟨⟨by assumption, by assumption⟩, ⟨by assumption, by assumption⟩, ⟨by assumption, by assumption⟩, ⟨by assumption, by assumption⟩, ⟨by assumption, by assumption⟩, by assumption⟩) | (go_split_ands; exact ⟨blk_al (by assumption) _, blk_al (by assumption) _, blk_al (by assumption) _, blk_al (by assumption) _, blk_al (by assumption) _, Below.alloc (by assumption) (bsz (by assumption)) _⟩) | (go_split_ands; exact ⟨blk_be (by assumption) hb2, blk_be (by assumption) hb2, blk_be (by assumption) hb2, blk_be (by assumption) hb2, blk_be (by assumption) hb2, Below.trans (by assumption) (hb2.mono (bsz (by assumption)))⟩)) (first | (go_at_call 9; refine (less_any ⟨_, _⟩ ⟨_, _⟩ _).mono ?_; rintro e1 w2 ⟨rfl, hb2⟩; first | rw [HLH.out] | rw [HHL.out] | rw [HAB.out]) | (go_at_call 11; refine (last_any _ _ [⟨(t + 1 + ↑more), x⟩, ⟨t, x⟩] _ (Kn.row_of (blk_new _ _ _)) (show 2 ≤ maxLen by decide)).mono ?_; rintro e1 w2 ⟨rfl, hb2⟩; rw [H0.out]) | (go_at_call 11; refine (last_any _ _ [⟨t, x⟩, ⟨(t + 1 + ↑more), x⟩] _ (Kn.row_of (blk_new _ _ _)) (show 2 ≤ maxLen by decide)).mono ?_; rintro e1 w2 ⟨rfl, hb2⟩; rw [H1.out]))) | fail
  go_wp2
  go_ret
  exact ⟨rfl, by go_split_ands; exact hB.trans (Below.mono (by assumption) hB.size)⟩

theorem stampHeights_any (t x y : Int) (more : Nat) (w : World) (ht : -9223372036854775808 ≤ t ∧ t ≤ 9223372036854775807) (hm : more ≤ 65535) :
    Calls Try.prog 7 #[.int .i64 t, .agg #[.int .i64 x, .int .i64 y], .int .u16 more] w fun e w' => e = .returned (.bool true) ∧ Below w.heap.size w w' := by
  by_cases h : t ≤ 4611686018427387904
  · rcases Int.lt_trichotomy x y with hxy | rfl | hxy
    · exact heights_blt t x y more w ht.1 ht.2 hm h hxy
    · exact heights_beq t x x more w ht.1 ht.2 hm h
    · exact heights_bgt t x y more w ht.1 ht.2 hm h hxy
  · rcases Int.lt_trichotomy x y with hxy | rfl | hxy
    · exact heights_alt t x y more w ht.1 ht.2 hm (by omega) hxy
    · exact heights_aeq t x x more w ht.1 ht.2 hm (by omega)
    · exact heights_agt t x y more w ht.1 ht.2 hm (by omega) hxy
end Go.Proofs.Ytldlbnigjomjoaa
