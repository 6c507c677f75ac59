/- The walks of layer 5 (text) at edits that may be, and of event.May, event.Below. -/
import Derived.Test.YtlfhjlkhhaoicaaClock
import Derived.Test.YtlfhjlkhhaoicaaPastP
import Derived.LoopN
namespace Go.Proofs.Ytlfhjlkhhaoicaa
set_option linter.unusedVariables false
set_option linter.unusedSimpArgs false
open Go.RowKit
attribute [local go_sem] ck_get ck_get? q_le0 q_le1 q_le2 q_le3 q_le4 q_le5 q_lt1 q_lt2 q_lt3 q_lt4 q_lt5

theorem label_any (n : Int) (w : World) (h0 : 0 ≤ n) (h1 : n ≤ 1) :
    Calls Try.prog 75 #[.int .i64 n] w fun e w' => e = .returned (.int .i64 0) ∧ w = w' := by
  go_enter Try.func75, Try.ntmps75
  go_wp2
  go_ret
  exact ⟨rfl, rfl⟩
theorem value_any (s : ByteArray) (w : World) (h0 : 1 ≤ s.size) (h1 : s.size ≤ 12) :
    Calls Try.prog 76 #[.string s] w fun e w' => e = .returned (.int .i64 0) ∧ w = w' := by
  go_enter Try.func76, Try.ntmps76
  go_wp2
  go_ret
  exact ⟨rfl, rfl⟩
theorem bare_any (k : Int) (key : ByteArray) (w : World) :
    Calls Try.prog 74 #[.agg #[.int .i64 k, .string key, .int .i64 0, .string ByteArray.empty]] w fun e w' => e = .returned (.int .i64 0) ∧ Below w.heap.size w w' := by
  go_enter Try.func74, Try.ntmps74
  go_wp2
  go_ret
  exact ⟨rfl, (Below.refl _ _).alloc (Nat.le_refl _) _⟩
set_option maxRecDepth 100000 in
set_option maxHeartbeats 400000 in
theorem key_low (s : ByteArray) (w : World) (h0 : 1 ≤ s.size) (h1 : s.size ≤ 8) (hs : ∀ i (h : i < s.size), 97 ≤ (s[i]'h).toNat ∧ (s[i]'h).toNat ≤ 122) :
    Calls Try.prog 73 #[.string s] w fun e w' => e = .returned (.int .i64 0) ∧ Below w.heap.size w w' := by
  have HS := Lib.hid hs
  clear hs
  go_enter Try.func73, Try.ntmps73
  go_wp2
  go_loopg [4] (s.size + 1) (fun f v4 wr => ∃ p : Nat, p ≤ s.size ∧ s.size - p + 1 ≤ f ∧ wr = w.iter s p)
  case atStart => exact ⟨0, by omega, by omega, rfl⟩
  case round =>
    obtain ⟨p, hp, hf, rfl⟩ := hrel
    obtain ⟨f, rfl⟩ : ∃ f, gk = f + 1 := ⟨gk - 1, by omega⟩
    by_cases hlt : p < s.size
    · obtain ⟨g0, g1⟩ := HS.out p hlt
      have hnx := fun ty => run_next_ascii (P := Try.prog) w s p ty hlt (by omega)
      have e0 : (97 : Int) ≤ ((s[p]'hlt).toNat : Int) := by omega
      have e1 : ((s[p]'hlt).toNat : Int) ≤ 122 := by omega
      go_wp2
      go_roundg f
      case measure => omega
      case rel => exact ⟨p + 1, by omega, by omega, rfl⟩
    · have hnx := fun ty => run_next_end (P := Try.prog) w s p ty hlt
      go_wp2
      go_ret
      exact ⟨rfl, (Below.refl _ _).alloc (Nat.le_refl _) _⟩
theorem key_any (s : ByteArray) (w : World) (h : s = keyAnn ∨ s = keyBob ∨ s = keyCy) :
    Calls Try.prog 73 #[.string s] w fun e w' => e = .returned (.int .i64 0) ∧ Below w.heap.size w w' := by
  refine key_low s w ?_ ?_ ?_
  · rcases h with rfl | rfl | rfl <;> decide
  · rcases h with rfl | rfl | rfl <;> decide
  · rcases h with rfl | rfl | rfl <;> decide

set_option maxRecDepth 100000 in
set_option maxHeartbeats 400000 in
theorem edit_any (k : Int) (key : ByteArray) (lab : Int) (val : ByteArray) (w : World) (h : edOk k key lab val) :
    Calls Try.prog 67 #[.agg #[.int .i64 k, .string key, .int .i64 lab, .string val]] w fun e w' => e = .returned (.int .i64 0) ∧ Below w.heap.size w w' := by
  have hk := Lib.hid h.key
  have h1 := h.k1; have h5 := h.k5
  have hB0 : Below w.heap.size w (w.alloc (Obj.cells #[.int .i64 k, .string key, .int .i64 lab, .string val] 74)) := (Below.refl _ w).alloc (Nat.le_refl _) _
  have kb := blk_new w [.int .i64 k, .string key, .int .i64 lab, .string val] 74
  by_cases hl : k ≤ 2
  · obtain ⟨rfl, rfl⟩ := h.low hl
    clear h
    go_enter Try.func67, Try.ntmps67
    go_wp2_with fail
    refine (key_any _ _ hk.out).mono ?_
    rintro e w1 ⟨rfl, hb1⟩
    have kb1 := (kb.below hb1 (by simp)).cell
    have hb2 := hB0.trans (hb1.mono (by simp))
    clear kb hB0 hb1
    go_wp2_with fail
    refine (bare_any k key _).mono ?_
    rintro e w2 ⟨rfl, hb3⟩
    go_wp2
    go_ret
    exact ⟨rfl, hb2.trans (hb3.mono hb2.size)⟩
  · obtain ⟨⟨hl0, hl1⟩, hv0, hv1⟩ := h.high (by omega)
    clear h
    go_enter Try.func67, Try.ntmps67
    go_wp2_with fail
    refine (key_any _ _ hk.out).mono ?_
    rintro e w1 ⟨rfl, hb1⟩
    have kb1 := (kb.below hb1 (by simp)).cell
    have hb2 := hB0.trans (hb1.mono (by simp))
    clear kb hB0 hb1
    go_wp2_with fail
    refine (label_any lab _ hl0 hl1).mono ?_
    rintro e w2 ⟨rfl, rfl⟩
    go_wp2_with fail
    refine (value_any val _ hv0 hv1).mono ?_
    rintro e w3 ⟨rfl, rfl⟩
    go_wp2
    go_ret
    exact ⟨rfl, hb2⟩

theorem run_indexCk (c : Ck) (i : Nat) (h : i < 5) (w : World) : (Instr.index 23 (.agg #[.int .i64 c.x0, .int .i64 c.x1, .int .i64 c.x2, .int .i64 c.x3, .int .i64 c.x4]) (.int .i64 i)).run Try.prog w = .ok (.int .i64 (c.get i)) w := by
  rcases lt5 h with rfl | rfl | rfl | rfl | rfl <;> kernel_rfl
theorem ev_cget (e : Ev) (o : Nat) (h : o < 5) : ([.int .i64 e.r, .int .i64 e.n, .int .i64 e.c.x0, .int .i64 e.c.x1, .int .i64 e.c.x2, .int .i64 e.c.x3, .int .i64 e.c.x4, .int .i64 e.h, .int .i64 e.k, .string e.key, .int .i64 e.lab, .string e.val] : List Value)[2 + o]? = some (.int .i64 (e.c.get o)) := by
  rcases lt5 h with rfl | rfl | rfl | rfl | rfl <;> rfl
/-- The first checks of May, but its own number. -/
structure May0 (e : Ev) : Prop where
  r0 : 0 ≤ e.r
  r5 : e.r < 5
  n1 : 1 ≤ e.n
  nm : e.n ≤ 1048576
set_option maxRecDepth 100000 in
set_option maxHeartbeats 1000000 in
theorem may_yes (e : Ev) (w : World) (h : May e) (hed : e.ed) :
    Calls Try.prog 56 #[.agg #[.int .i64 e.r, .int .i64 e.n, .int .i64 e.c.x0, .int .i64 e.c.x1, .int .i64 e.c.x2, .int .i64 e.c.x3, .int .i64 e.c.x4, .int .i64 e.h, .int .i64 e.k, .string e.key, .int .i64 e.lab, .string e.val]] w fun x w' => x = .returned (.int .i64 0) ∧ Below w.heap.size w w' := by
  obtain ⟨q, hq⟩ : ∃ q : Nat, e.r = q := ⟨e.r.toNat, by have := h.r0; omega⟩
  have hq5 : q < 5 := by have := h.r5; omega
  have h1 := h.n1; have h2 := h.nm; have h3 := h.h1; have h4 := h.hm
  have ho := h.own
  rw [hq, Int.toNat_natCast] at ho
  have HC := Lib.hid (fun i (hi : i < 5) => And.intro (h.c0 i hi) (h.cm i hi))
  have hE := Lib.hid hed
  have c2 := ev_cget e q hq5
  rw [ho] at c2
  have kb := blk_new w [.int .i64 e.r, .int .i64 e.n, .int .i64 e.c.x0, .int .i64 e.c.x1, .int .i64 e.c.x2, .int .i64 e.c.x3, .int .i64 e.c.x4, .int .i64 e.h, .int .i64 e.k, .string e.key, .int .i64 e.lab, .string e.val] 31
  have kc := kb.cell
  have hcq := kc (2 + q)
  rw [c2] at hcq
  have hB0 : Below w.heap.size w (w.alloc (Obj.cells #[.int .i64 e.r, .int .i64 e.n, .int .i64 e.c.x0, .int .i64 e.c.x1, .int .i64 e.c.x2, .int .i64 e.c.x3, .int .i64 e.c.x4, .int .i64 e.h, .int .i64 e.k, .string e.key, .int .i64 e.lab, .string e.val] 31)) := (Below.refl _ w).alloc (Nat.le_refl _) _
  obtain ⟨er, en, ec, eh, ek, ekey, ela, evl⟩ := e
  simp only at hq h1 h2 h3 h4 ho HC hE hcq hB0 kb ⊢
  subst hq
  clear h hed kc c2 ho
  have i0 : (0 : Int) ≤ (q : Int) := by omega
  have i5 : (q : Int) < 5 := by omega
  have d0 : decide ((q : Int) < 0) = false := decide_eq_false (by omega)
  have d1 : decide ((q : Int) ≥ 5) = false := decide_eq_false (by omega)
  have d1' : decide ((5 : Int) ≤ (q : Int)) = false := decide_eq_false (by omega)
  have d1n : decide (5 ≤ q) = false := decide_eq_false (by omega)
  have d2 : decide (en < 1) = false := decide_eq_false (by omega)
  have d3 : decide (1048576 < en) = false := decide_eq_false (by omega)
  have d5 : decide (eh < 1) = false := decide_eq_false (by omega)
  have d6 : decide (16777216 < eh) = false := decide_eq_false (by omega)
  go_enter Try.func56, Try.ntmps56
  go_wp2
  go_quiet (fail)
  go_wp2
  have kN := kb.drewN nq
  have hBN := bdN hB0 nq
  generalize (w.alloc (Obj.cells (#[.int .i64 ((⟨q, en, ec, eh, ek, ekey, ela, evl⟩ : Ev)).r, .int .i64 ((⟨q, en, ec, eh, ek, ekey, ela, evl⟩ : Ev)).n, .int .i64 ((⟨q, en, ec, eh, ek, ekey, ela, evl⟩ : Ev)).c.x0, .int .i64 ((⟨q, en, ec, eh, ek, ekey, ela, evl⟩ : Ev)).c.x1, .int .i64 ((⟨q, en, ec, eh, ek, ekey, ela, evl⟩ : Ev)).c.x2, .int .i64 ((⟨q, en, ec, eh, ek, ekey, ela, evl⟩ : Ev)).c.x3, .int .i64 ((⟨q, en, ec, eh, ek, ekey, ela, evl⟩ : Ev)).c.x4, .int .i64 ((⟨q, en, ec, eh, ek, ekey, ela, evl⟩ : Ev)).h, .int .i64 ((⟨q, en, ec, eh, ek, ekey, ela, evl⟩ : Ev)).k, .string ((⟨q, en, ec, eh, ek, ekey, ela, evl⟩ : Ev)).key, .int .i64 ((⟨q, en, ec, eh, ek, ekey, ela, evl⟩ : Ev)).lab, .string ((⟨q, en, ec, eh, ek, ekey, ela, evl⟩ : Ev)).val]) 31)).drewN nq = wS at *
  go_loopw [46] (fun v46 wr => ∃ i : Nat, i ≤ 5 ∧ v46 = .int .i64 i ∧ wr = wS) (fun v46 _ => 5 - (intOf v46).toNat)
  case atStart => exact ⟨0, by omega, rfl, rfl⟩
  case round =>
    obtain ⟨i, hi, rfl, rfl⟩ := hrel
    have kc := kN.cell
    by_cases hlt : i < 5
    · obtain ⟨g0, g1⟩ := HC.out i hlt
      have hix := run_indexCk ec i hlt
      go_wp2
      go_roundw
      case rel => exact ⟨i + 1, by omega, by go_num, by first | rfl | trivial⟩
      case measure => simp [intOf]; omega
    · go_wp2_with fail
      refine (edit_any ek ekey ela evl _ hE.out).mono ?_
      rintro e' w2 ⟨rfl, hb3⟩
      go_wp2
      go_ret
      exact ⟨rfl, hBN.trans (hb3.mono hBN.size)⟩
set_option maxRecDepth 100000 in
set_option maxHeartbeats 1000000 in
theorem may_own (e : Ev) (w : World) (h : May0 e) (ho : e.c.get e.r.toNat ≠ e.n - 1) :
    Calls Try.prog 56 #[.agg #[.int .i64 e.r, .int .i64 e.n, .int .i64 e.c.x0, .int .i64 e.c.x1, .int .i64 e.c.x2, .int .i64 e.c.x3, .int .i64 e.c.x4, .int .i64 e.h, .int .i64 e.k, .string e.key, .int .i64 e.lab, .string e.val]] w fun x w' => x = .returned (.int .i64 1) ∧ Below w.heap.size w w' := by
  obtain ⟨q, hq⟩ : ∃ q : Nat, e.r = q := ⟨e.r.toNat, by have := h.r0; omega⟩
  have hq5 : q < 5 := by have := h.r5; omega
  have h1 := h.n1; have h2 := h.nm
  rw [hq, Int.toNat_natCast] at ho
  have hob : ((e.c.get q : Int) != e.n - 1) = true := bne_iff_ne.2 ho
  have c2 := ev_cget e q hq5
  generalize e.c.get q = g at *
  have kb := blk_new w [.int .i64 e.r, .int .i64 e.n, .int .i64 e.c.x0, .int .i64 e.c.x1, .int .i64 e.c.x2, .int .i64 e.c.x3, .int .i64 e.c.x4, .int .i64 e.h, .int .i64 e.k, .string e.key, .int .i64 e.lab, .string e.val] 31
  have hcq := kb.cell (2 + q)
  rw [c2] at hcq
  have hB0 : Below w.heap.size w (w.alloc (Obj.cells #[.int .i64 e.r, .int .i64 e.n, .int .i64 e.c.x0, .int .i64 e.c.x1, .int .i64 e.c.x2, .int .i64 e.c.x3, .int .i64 e.c.x4, .int .i64 e.h, .int .i64 e.k, .string e.key, .int .i64 e.lab, .string e.val] 31)) := (Below.refl _ w).alloc (Nat.le_refl _) _
  obtain ⟨er, en, ec, eh, ek, ekey, ela, evl⟩ := e
  simp only at hq h1 h2 ho hob hcq hB0 kb ⊢
  subst hq
  clear h c2 ho
  have i0 : (0 : Int) ≤ (q : Int) := by omega
  have i5 : (q : Int) < 5 := by omega
  have d0 : decide ((q : Int) < 0) = false := decide_eq_false (by omega)
  have d1 : decide ((q : Int) ≥ 5) = false := decide_eq_false (by omega)
  have d1' : decide ((5 : Int) ≤ (q : Int)) = false := decide_eq_false (by omega)
  have d1n : decide (5 ≤ q) = false := decide_eq_false (by omega)
  have d2 : decide (en < 1) = false := decide_eq_false (by omega)
  have d3 : decide (1048576 < en) = false := decide_eq_false (by omega)
  go_enter Try.func56, Try.ntmps56
  go_wp2
  go_quiet (fail)
  go_wp2
  go_ret
  exact ⟨rfl, bdN hB0 _⟩
set_option maxRecDepth 100000 in
set_option maxHeartbeats 400000 in
theorem below_any (a b : Ev) (w : World) :
    Calls Try.prog 37 #[.agg #[.int .i64 a.r, .int .i64 a.n, .int .i64 a.c.x0, .int .i64 a.c.x1, .int .i64 a.c.x2, .int .i64 a.c.x3, .int .i64 a.c.x4, .int .i64 a.h, .int .i64 a.k, .string a.key, .int .i64 a.lab, .string a.val], .agg #[.int .i64 b.r, .int .i64 b.n, .int .i64 b.c.x0, .int .i64 b.c.x1, .int .i64 b.c.x2, .int .i64 b.c.x3, .int .i64 b.c.x4, .int .i64 b.h, .int .i64 b.k, .string b.key, .int .i64 b.lab, .string b.val]] w fun x w' => x = .returned (.bool (hasB b.c a.r a.n)) ∧ Below w.heap.size w w' := by
  have hB0 : Below w.heap.size w ((w.alloc (Obj.cells #[.int .i64 a.r, .int .i64 a.n, .int .i64 a.c.x0, .int .i64 a.c.x1, .int .i64 a.c.x2, .int .i64 a.c.x3, .int .i64 a.c.x4, .int .i64 a.h, .int .i64 a.k, .string a.key, .int .i64 a.lab, .string a.val] 31)).alloc (Obj.cells #[.int .i64 b.r, .int .i64 b.n, .int .i64 b.c.x0, .int .i64 b.c.x1, .int .i64 b.c.x2, .int .i64 b.c.x3, .int .i64 b.c.x4, .int .i64 b.h, .int .i64 b.k, .string b.key, .int .i64 b.lab, .string b.val] 31)) := ((Below.refl _ w).alloc (Nat.le_refl _) _).alloc (by simp) _
  go_enter Try.func37, Try.ntmps37
  go_wp2_with fail
  refine (has_any b.c a.r a.n _).mono ?_
  rintro e w2 ⟨rfl, hb3⟩
  go_wp2
  go_ret
  exact ⟨rfl, hB0.trans (hb3.mono hB0.size)⟩
end Go.Proofs.Ytlfhjlkhhaoicaa
