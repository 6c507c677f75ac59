/- The inbox as one thing: what its calls do to it; kithlaw13's small functions. -/
import Derived.Test.YtlfhjlkhhaoicaaInboxB
import Derived.Test.YtlfhjlkhhaoicaaInboxP
import Derived.Test.YtlfhjlkhhaoicaaL08
namespace Go.Proofs.Ytlfhjlkhhaoicaa
set_option linter.unusedVariables false
set_option linter.unusedSimpArgs false
open Go.RowKit
attribute [local go_sem] ck_get ck_get? q_le0 q_le1 q_le2 q_le3 q_le4 q_le5 q_lt1 q_lt2 q_lt3 q_lt4 q_lt5
attribute [local go_sem high] eqCk eqMk eqEv

/-- An inbox at block b, whose held events lie from block B0 on. -/
def InbAt (w : World) (b B0 : Nat) (most : Int) (c : Ck) (l : List Ev) : Prop := ∃ vl, blk w b (inb most c vl) 86 ∧ evK.own 31 w B0 vl l
section
variable {w w' : World} {b B0 : Nat} {most : Int} {c : Ck} {l : List Ev}
theorem InbAt.lt (h : InbAt w b B0 most c l) : b < w.heap.size := by obtain ⟨vl, hb, _⟩ := h; exact hb.lt
theorem InbAt.below (h : InbAt w b B0 most c l) (hb : Below w.heap.size w w') : InbAt w' b B0 most c l := by
  obtain ⟨vl, h1, h2⟩ := h
  exact ⟨vl, h1.below hb h1.lt, h2.below hb (Nat.le_refl _)⟩
theorem InbAt.alloc (h : InbAt w b B0 most c l) (o : Obj) : InbAt (w.alloc o) b B0 most c l := h.below ((Below.refl _ _).alloc (Nat.le_refl _) _)
theorem InbAt.drew (h : InbAt w b B0 most c l) : InbAt w.drew b B0 most c l := h.below (Below.refl _ _).drew
end
theorem gb_below {w w' : World} {b B0 : Nat} (h : w.grownBy w' (some b)) (hb : B0 ≤ b) (hB : B0 ≤ w.heap.size) : Below B0 w w' := (Below.refl B0 w).grown h hB (fun x hx => by cases hx; exact hb)

/-- What Take does. -/
def TakeSt (b B0 : Nat) (most : Int) (l1 : List Ev) (c : Ck) (d dl : List Ev) (dn : Ck) (w : World) (e : Ending) (w' : World) : Prop :=
  (dl.length : Int) > most ∧ e = .returned (.tuple #[.slice none 0 0, .int .i64 22]) ∧ InbAt w' b B0 most c l1 ∧ Below w.heap.size w w' ∨
  ¬ (dl.length : Int) > most ∧ ∃ v, e = .returned (.tuple #[v, .int .i64 0]) ∧ evK.own 31 w' w.heap.size v d ∧ InbAt w' b B0 most dn dl ∧ w.grownBy w' (some b)
theorem take_st (b B0 : Nat) (most : Int) (c : Ck) (l1 : List Ev) (A2 : Option Addr) (c2 : Nat) (l2 : List Ev) (w : World) (h : InbAt w b B0 most c l1) (hl2 : evK.row w A2 l2) (h1 : l1.length ≤ 40000) (h2 : l2.length ≤ 40000)
    (hm0 : -9223372036854775808 ≤ most) (hm1 : most ≤ 9223372036854775807) (hB : B0 ≤ w.heap.size) :
    Calls Try.prog 29 #[.pointer (some ⟨b, 0, none⟩), .slice A2 l2.length c2] w (TakeSt b B0 most l1 c (drain c (l1 ++ l2)).1 (drain c (l1 ++ l2)).2.1 (drain c (l1 ++ l2)).2.2 w) := by
  obtain ⟨vl, hb, ho⟩ := h
  obtain ⟨A1, c1, rfl, hr, _⟩ := ho.form
  refine (take_any b most c A1 A2 c1 c2 l1 l2 w hb hr hl2 h1 h2 hm0 hm1).mono fun e w' hp => ?_
  by_cases hg : ((drain c (l1 ++ l2)).2.1.length : Int) > most
  · rw [if_pos hg] at hp
    obtain ⟨he, hbw⟩ := hp
    exact .inl ⟨hg, he, ⟨_, hb.below hbw hb.lt, ho.below hbw (Nat.le_refl _)⟩, hbw⟩
  · rw [if_neg hg] at hp
    obtain ⟨v, vl', he, h1', h2', h3', h4'⟩ := hp
    exact .inr ⟨hg, v, he, h1', ⟨vl', h3', h2'.mono hB⟩, h4'⟩
theorem held_st (b B0 : Nat) (most : Int) (c : Ck) (l : List Ev) (w : World) (h : InbAt w b B0 most c l) (hlen : l.length ≤ 100000) :
    Calls Try.prog 31 #[.pointer (some ⟨b, 0, none⟩)] w fun e w' => ∃ v, e = .returned v ∧ evK.own 31 w' w.heap.size v l ∧ Below w.heap.size w w' := by
  obtain ⟨vl, hb, ho⟩ := h
  obtain ⟨A1, c1, rfl, hr, _⟩ := ho.form
  exact held_any b most c A1 c1 l w hb hr hlen
theorem clock_st (b B0 : Nat) (most : Int) (c : Ck) (l : List Ev) (w : World) (h : InbAt w b B0 most c l) :
    Calls Try.prog 32 #[.pointer (some ⟨b, 0, none⟩)] w fun e w' => e = .returned (.agg #[.int .i64 c.x0, .int .i64 c.x1, .int .i64 c.x2, .int .i64 c.x3, .int .i64 c.x4]) ∧ Below w.heap.size w w' := by
  obtain ⟨vl, hb, ho⟩ := h
  exact inboxClock_any b most c vl w hb
theorem new_st (most : Int) (c : Ck) (w : World) :
    Calls Try.prog 28 #[.int .i64 most, .agg #[.int .i64 c.x0, .int .i64 c.x1, .int .i64 c.x2, .int .i64 c.x3, .int .i64 c.x4]] w fun e w' => ∃ b, e = .returned (.pointer (some ⟨b, 0, none⟩)) ∧ w.heap.size ≤ b ∧ InbAt w' b w.heap.size most c [] ∧ Below w.heap.size w w' :=
  (inboxNew_any most c w).mono fun e w' ⟨b, he, hb, hk, hB⟩ => ⟨b, he, hb, ⟨_, hk, Kn.own_nil⟩, hB⟩

set_option maxRecDepth 100000 in
set_option maxHeartbeats 400000 in
theorem made_any (n : Int) (w : World) (h0 : -1000 ≤ n) (h1 : n ≤ 1000) :
    Calls Try.prog 30 #[.int .i64 n] w fun e w' => e = .returned (.agg #[.int .i64 (madeE n).r, .int .i64 (madeE n).n, .int .i64 (madeE n).c.x0, .int .i64 (madeE n).c.x1, .int .i64 (madeE n).c.x2, .int .i64 (madeE n).c.x3, .int .i64 (madeE n).c.x4, .int .i64 (madeE n).h, .int .i64 (madeE n).k, .string (madeE n).key, .int .i64 (madeE n).lab, .string (madeE n).val]) ∧ Below w.heap.size w w' := by
  go_enter Try.func30, Try.ntmps30
  go_wp2
  refine bodyPost_ret (v := .agg #[.int .i64 (madeE n).r, .int .i64 (madeE n).n, .int .i64 (madeE n).c.x0, .int .i64 (madeE n).c.x1, .int .i64 (madeE n).c.x2, .int .i64 (madeE n).c.x3, .int .i64 (madeE n).c.x4, .int .i64 (madeE n).h, .int .i64 (madeE n).k, .string (madeE n).key, .int .i64 (madeE n).lab, .string (madeE n).val]) (by simp [results, Try.results30, go_sem]; exact ⟨rfl, rfl, rfl, rfl, rfl, rfl, rfl, rfl, rfl, rfl, rfl, rfl⟩) rfl ⟨rfl, ?_⟩
  exact (Below.refl _ _).alloc (Nat.le_refl _) _

set_option maxRecDepth 100000 in
set_option maxHeartbeats 1000000 in
theorem shown13_any (w : World) :
    Calls Try.prog 27 #[] w fun e w' => e = .returned (.bool true) ∧ Below w.heap.size w w' := by
  go_enter Try.func27, Try.ntmps27
  go_wp2_with fail
  refine (new_st 1 Ck.zero _).mono ?_
  rintro e w1 ⟨b, rfl, hbb, hI, hB1⟩
  go_wp2_with fail
  refine (made_any 2 _ (by omega) (by omega)).mono ?_
  rintro e w2 ⟨rfl, hb2⟩
  have hB2 := hB1.trans (hb2.mono hB1.size)
  have hI2 := hI.below hb2
  go_wp2_with fail
  refine (take_st b w.heap.size 1 Ck.zero [] (some ⟨w2.heap.size, 0, none⟩) 1 [madeE 2] _ (hI2.alloc _) (Kn.row_of (l := [madeE 2]) (blk_new w2 (evK.enc (madeE 2)) 31)) (by simp) (by simp) (by omega) (by omega) (by have := hB2.size; simp; omega)).mono ?_
  rw [show1]
  rintro e w3 (⟨hg, _⟩ | ⟨_, v, rfl, ho3, hI3, hg3⟩)
  · simp at hg
  have hB3 := (hB2.alloc hB2.size (Obj.cells (#[.int .i64 (madeE 2).r, .int .i64 (madeE 2).n, .int .i64 (madeE 2).c.x0, .int .i64 (madeE 2).c.x1, .int .i64 (madeE 2).c.x2, .int .i64 (madeE 2).c.x3, .int .i64 (madeE 2).c.x4, .int .i64 (madeE 2).h, .int .i64 (madeE 2).k, .string (madeE 2).key, .int .i64 (madeE 2).lab, .string (madeE 2).val]) 31)).trans (gb_below hg3 hbb (by have := hB2.size; simp; omega))
  obtain ⟨A3, c3, rfl, _, _⟩ := ho3.form
  clear hg3 ho3 hI2 hb2 hI
  go_wp2_with fail
  refine (made_any 3 _ (by omega) (by omega)).mono ?_
  rintro e w4 ⟨rfl, hb4⟩
  have hB4 := hB3.trans (hb4.mono hB3.size)
  have hI4 := hI3.below hb4
  go_wp2_with fail
  refine (take_st b w.heap.size 1 Ck.zero [madeE 2] (some ⟨w4.heap.size, 0, none⟩) 1 [madeE 3] _ (hI4.alloc _) (Kn.row_of (l := [madeE 3]) (blk_new w4 (evK.enc (madeE 3)) 31)) (by simp) (by simp) (by omega) (by omega) (by have := hB4.size; simp; omega)).mono ?_
  rw [show2]
  rintro e w5 (⟨_, rfl, hI5, hb5⟩ | ⟨hg, _⟩)
  rotate_left
  · simp at hg
  have hB5 := (hB4.alloc hB4.size (Obj.cells (#[.int .i64 (madeE 3).r, .int .i64 (madeE 3).n, .int .i64 (madeE 3).c.x0, .int .i64 (madeE 3).c.x1, .int .i64 (madeE 3).c.x2, .int .i64 (madeE 3).c.x3, .int .i64 (madeE 3).c.x4, .int .i64 (madeE 3).h, .int .i64 (madeE 3).k, .string (madeE 3).key, .int .i64 (madeE 3).lab, .string (madeE 3).val]) 31)).trans (hb5.mono (by have := hB4.size; simp; omega))
  clear hb5 hI4 hb4 hI3
  go_wp2_with fail
  refine (made_any 1 _ (by omega) (by omega)).mono ?_
  rintro e w6 ⟨rfl, hb6⟩
  have hB6 := hB5.trans (hb6.mono hB5.size)
  have hI6 := hI5.below hb6
  go_wp2_with fail
  refine (take_st b w.heap.size 1 Ck.zero [madeE 2] (some ⟨w6.heap.size, 0, none⟩) 1 [madeE 1] _ (hI6.alloc _) (Kn.row_of (l := [madeE 1]) (blk_new w6 (evK.enc (madeE 1)) 31)) (by simp) (by simp) (by omega) (by omega) (by have := hB6.size; simp; omega)).mono ?_
  rw [show3]
  rintro e w7 (⟨hg, _⟩ | ⟨_, v, rfl, ho7, hI7, hg7⟩)
  · simp at hg
  have hB7 := (hB6.alloc hB6.size (Obj.cells (#[.int .i64 (madeE 1).r, .int .i64 (madeE 1).n, .int .i64 (madeE 1).c.x0, .int .i64 (madeE 1).c.x1, .int .i64 (madeE 1).c.x2, .int .i64 (madeE 1).c.x3, .int .i64 (madeE 1).c.x4, .int .i64 (madeE 1).h, .int .i64 (madeE 1).k, .string (madeE 1).key, .int .i64 (madeE 1).lab, .string (madeE 1).val]) 31)).trans (gb_below hg7 hbb (by have := hB6.size; simp; omega))
  obtain ⟨A7, c7, rfl, _, _⟩ := ho7.form
  clear hg7 ho7 hI6 hb6 hI5
  go_wp2_with fail
  refine (clock_st b w.heap.size 1 (ck1 2) [] _ hI7).mono ?_
  rintro e w8 ⟨rfl, hb8⟩
  have hq : ∀ d w, (Op.equalIn (d + 2) 23 (.agg #[.int .i64 ((ck1 2)).x0, .int .i64 ((ck1 2)).x1, .int .i64 ((ck1 2)).x2, .int .i64 ((ck1 2)).x3, .int .i64 ((ck1 2)).x4]) (.agg #[.int .i64 2, .int .i64 0, .int .i64 0, .int .i64 0, .int .i64 0])).run Try.prog w = .ok true w := fun d w => eqCk d w (ck1 2) (ck1 2)
  go_wp2
  go_ret
  exact ⟨rfl, hB7.trans (hb8.mono hB7.size)⟩
end Go.Proofs.Ytlfhjlkhhaoicaa
