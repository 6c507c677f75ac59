/- The walk of kithlaw13.InboxFull. -/
import Derived.Test.YtlfhjlkhhaoicaaInboxC
namespace Go.Proofs.Ytlfhjlkhhaoicaa
set_option linter.unusedVariables false
set_option linter.unusedSimpArgs false
open Go.RowKit
attribute [local go_sem] ck_get ck_get? q_le0 q_le1 q_le2 q_le3 q_le4 q_le5 q_lt1 q_lt2 q_lt3 q_lt4 q_lt5
attribute [local go_sem high] eqCk eqMk eqEv

theorem drain_eq {c : Ck} {l d b : List Ev} {n : Ck} (h : drain c l = (d, b, n)) : (drain c l).1 = d ∧ (drain c l).2.1 = b ∧ (drain c l).2.2 = n := by rw [h]; exact ⟨rfl, rfl, rfl⟩
set_option maxRecDepth 100000 in
set_option maxHeartbeats 2000000 in
theorem inboxFull_any (n : Nat) (w : World) (hn : n ≤ 255) :
    Calls Try.prog 5 #[.int .u8 n] w fun e w' => e = .returned (.bool true) ∧ Below w.heap.size w w' := by
  obtain ⟨m, hm, hm16⟩ : ∃ m, n % 16 = m ∧ m < 16 := ⟨_, rfl, Nat.mod_lt _ (by omega)⟩
  have hmod : ((n : Int) % 16) = (m : Int) := by omega
  have hmodt : ((n : Int).tmod 16) = (m : Int) := by rw [Int.tmod_eq_emod_of_nonneg (by omega)]; exact hmod
  have F1 := Lib.hid full1
  have F2 := Lib.hid (full2 m hm16)
  have F3 := Lib.hid (full3 m hm16)
  have F4 := Lib.hid (full4 m hm16)
  clear hm
  go_enter Try.func5, Try.ntmps5
  go_wp2_with fail
  refine (shown13_any _).mono ?_
  rintro e w1 ⟨rfl, hb1⟩
  have hsz1 := hb1.size
  go_wp2_with fail
  refine (new_st m Ck.zero _).mono ?_
  rintro e w2 ⟨b, rfl, hbb, hI, hb2⟩
  have hB2 := hb1.trans (hb2.mono hsz1)
  have hI2 : InbAt w2 b w.heap.size m Ck.zero (heldM 0) := by
    obtain ⟨vl, x, y⟩ := hI
    exact ⟨vl, x, y.mono hsz1⟩
  have hb0 : w.heap.size ≤ b := Nat.le_trans hsz1 hbb
  clear hb1 hb2 hI hbb hsz1
  go_wp2
  go_loopg [6, 7, 8] (m + 1) (fun f v6 v7 v8 wr => ∃ k : Nat, k ≤ m ∧ m - k + 1 ≤ f ∧ v6 = .int .i64 k ∧ InbAt wr b w.heap.size m Ck.zero (heldM k) ∧ Below w.heap.size w wr)
  case atStart => exact ⟨0, by omega, by omega, rfl, hI2, hB2⟩
  case round =>
    clear hI2 hB2
    obtain ⟨k, hk, hf, rfl, hI, hB⟩ := hrel
    obtain ⟨f, rfl⟩ : ∃ f, gk = f + 1 := ⟨gk - 1, by omega⟩
    have HKL := Lib.hid (heldM_len k)
    by_cases hlt : k < m
    · have HK1 := Lib.hid (heldM_len (k + 1))
      have D := drain_eq (F1.out k (by omega))
      have HD := Lib.hid D
      clear D
      go_wp2_with fail
      refine (made_any (2 + k) _ (by omega) (by omega)).mono ?_
      rintro e w3 ⟨rfl, hb3⟩
      have hB3 := hB.trans (hb3.mono hB.size)
      have hI3 := hI.below hb3
      go_wp2_with fail
      refine (take_st b w.heap.size m Ck.zero (heldM k) (some ⟨w3.heap.size, 0, none⟩) 1 [madeE (2 + k)] _ (hI3.alloc _) (Kn.row_of (l := [madeE (2 + k)]) (blk_new w3 (evK.enc (madeE (2 + k))) 31)) (by rw [HKL.out]; omega) (by simp) (by omega) (by omega) (by have := hB3.size; simp; omega)).mono ?_
      rw [HD.out.1, HD.out.2.1, HD.out.2.2]
      rintro e w4 (⟨hg, _⟩ | ⟨_, v, rfl, ho4, hI4, hg4⟩)
      · rw [HK1.out] at hg; omega
      have hB4 := (hB3.alloc hB3.size (Obj.cells (#[.int .i64 (madeE (2 + k)).r, .int .i64 (madeE (2 + k)).n, .int .i64 (madeE (2 + k)).c.x0, .int .i64 (madeE (2 + k)).c.x1, .int .i64 (madeE (2 + k)).c.x2, .int .i64 (madeE (2 + k)).c.x3, .int .i64 (madeE (2 + k)).c.x4, .int .i64 (madeE (2 + k)).h, .int .i64 (madeE (2 + k)).k, .string (madeE (2 + k)).key, .int .i64 (madeE (2 + k)).lab, .string (madeE (2 + k)).val]) 31)).trans (gb_below hg4 hb0 (by have := hB3.size; simp; omega))
      obtain ⟨A4, c4, rfl, _, _⟩ := ho4.form
      clear hg4 ho4 hI3 hb3 hI
      go_wp2_with fail
      refine (held_st b w.heap.size m Ck.zero (heldM (k + 1)) _ hI4 (by rw [HK1.out]; omega)).mono ?_
      rintro e w5 ⟨v, rfl, ho5, hb5⟩
      obtain ⟨A5, c5, rfl, _, _⟩ := ho5.form
      rw [HK1.out]
      have hI5 := hI4.below hb5
      have hB5 := hB4.trans (hb5.mono hB4.size)
      have hnq : (((k + 1 : Nat) : Int) != (k : Int) + 1) = false := by simp
      have hnq2 : (((k : Int) + 1) != (k : Int) + 1) = false := by simp
      clear hI4 hb5 ho5
      go_wp2
      go_roundg f
      case measure => omega
      case rel => exact ⟨k + 1, by omega, by omega, by go_num, hI5, hB5⟩
    · obtain rfl : k = m := by omega
      have D2 := Lib.hid (drain_eq F2.out)
      have HL2 := Lib.hid (show ((heldM k ++ [madeE (3 + k)]).length : Int) = k + 1 by rw [List.length_append, HKL.out]; simp)
      go_wp2_with fail
      refine (made_any (3 + k) _ (by omega) (by omega)).mono ?_
      rintro e w3 ⟨rfl, hb3⟩
      have hB3 := hB.trans (hb3.mono hB.size)
      have hI3 := hI.below hb3
      go_wp2_with fail
      refine (take_st b w.heap.size k Ck.zero (heldM k) (some ⟨w3.heap.size, 0, none⟩) 1 [madeE (3 + k)] _ (hI3.alloc _) (Kn.row_of (l := [madeE (3 + k)]) (blk_new w3 (evK.enc (madeE (3 + k))) 31)) (by rw [HKL.out]; omega) (by simp) (by omega) (by omega) (by have := hB3.size; simp; omega)).mono ?_
      rw [D2.out.1, D2.out.2.1, D2.out.2.2]
      rintro e w4 (⟨_, rfl, hI4, hb4⟩ | ⟨hg, _⟩)
      rotate_left
      · rw [HL2.out] at hg; omega
      have hB4 := (hB3.alloc hB3.size (Obj.cells (#[.int .i64 (madeE (3 + k)).r, .int .i64 (madeE (3 + k)).n, .int .i64 (madeE (3 + k)).c.x0, .int .i64 (madeE (3 + k)).c.x1, .int .i64 (madeE (3 + k)).c.x2, .int .i64 (madeE (3 + k)).c.x3, .int .i64 (madeE (3 + k)).c.x4, .int .i64 (madeE (3 + k)).h, .int .i64 (madeE (3 + k)).k, .string (madeE (3 + k)).key, .int .i64 (madeE (3 + k)).lab, .string (madeE (3 + k)).val]) 31)).trans (hb4.mono (by have := hB3.size; simp; omega))
      clear hI3 hb3 hI hb4
      go_wp2_with fail
      refine (made_any (3 + k) _ (by omega) (by omega)).mono ?_
      rintro e w5 ⟨rfl, hb5⟩
      have hB5 := hB4.trans (hb5.mono hB4.size)
      have hI5 := hI4.below hb5
      go_wp2_with fail
      refine (made_any 1 _ (by omega) (by omega)).mono ?_
      rintro e w6 ⟨rfl, hb6⟩
      have hB6 := hB5.trans (hb6.mono hB5.size)
      have hI6 := hI5.below hb6
      have HD3 := Lib.hid (show (drain Ck.zero (heldM k ++ [madeE (3 + k), madeE 1])).2.1 = [madeE (3 + k)] ∧ (drain Ck.zero (heldM k ++ [madeE (3 + k), madeE 1])).2.2 = ck1 (k + 1) by rw [F3.out.2]; exact ⟨rfl, rfl⟩)
      go_wp2_with fail
      refine (take_st b w.heap.size k Ck.zero (heldM k) (some ⟨w6.heap.size, 0, none⟩) 2 [madeE (3 + k), madeE 1] _ (hI6.alloc _) (Kn.row_of (l := [madeE (3 + k), madeE 1]) (blk_new w6 ([madeE (3 + k), madeE 1].flatMap evK.enc) 31)) (by rw [HKL.out]; omega) (by simp) (by omega) (by omega) (by have := hB6.size; simp; omega)).mono ?_
      have HD1 := Lib.hid F3.out.1
      rw [HD3.out.1, HD3.out.2]
      generalize (drain Ck.zero (heldM k ++ [madeE (3 + k), madeE 1])).1 = DD at *
      clear hI5 hI4 hb5 hb6
      rintro e w7 (⟨hg, rfl, hI7, hb7⟩ | ⟨hg, v, rfl, ho7, hI7, hg7⟩)
      · obtain rfl : k = 0 := by simp at hg; omega
        have hB7 := (hB6.alloc hB6.size (Obj.cells ([madeE (3 + (0 : Nat)), madeE 1].flatMap evK.enc).toArray 31)).trans (hb7.mono (by have := hB6.size; simp; omega))
        clear hb7 hI6
        go_wp2_with fail
        refine (held_st b w.heap.size (0 : Nat) Ck.zero (heldM 0) _ hI7 (by rw [HKL.out]; omega)).mono ?_
        rintro e w8 ⟨v, rfl, ho8, hb8⟩
        obtain ⟨A8, c8, rfl, _, _⟩ := ho8.form
        rw [HKL.out]
        have hI8 := hI7.below hb8
        have hB8 := hB7.trans (hb8.mono hB7.size)
        clear hI7 hb8 ho8
        go_wp2_with fail
        refine (made_any 1 _ (by omega) (by omega)).mono ?_
        rintro e w9 ⟨rfl, hb9⟩
        have hB9 := hB8.trans (hb9.mono hB8.size)
        have hI9 := hI8.below hb9
        go_wp2_with fail
        refine (take_st b w.heap.size (0 : Nat) Ck.zero (heldM 0) (some ⟨w9.heap.size, 0, none⟩) 1 [madeE 1] _ (hI9.alloc _) (Kn.row_of (l := [madeE 1]) (blk_new w9 (evK.enc (madeE 1)) 31)) (by rw [HKL.out]; omega) (by simp) (by omega) (by omega) (by have := hB9.size; simp; omega)).mono ?_
        rw [show heldM 0 ++ [madeE 1] = [] ++ [madeE 1] from rfl, full5]
        rintro e w10 (⟨hg, _⟩ | ⟨_, v, rfl, ho10, hI10, hg10⟩)
        · simp at hg
        have hB10 := (hB9.alloc hB9.size (Obj.cells (#[.int .i64 (madeE 1).r, .int .i64 (madeE 1).n, .int .i64 (madeE 1).c.x0, .int .i64 (madeE 1).c.x1, .int .i64 (madeE 1).c.x2, .int .i64 (madeE 1).c.x3, .int .i64 (madeE 1).c.x4, .int .i64 (madeE 1).h, .int .i64 (madeE 1).k, .string (madeE 1).key, .int .i64 (madeE 1).lab, .string (madeE 1).val]) 31)).trans (gb_below hg10 hb0 (by have := hB9.size; simp; omega))
        obtain ⟨A10, c10, rfl, _, _⟩ := ho10.form
        clear hg10 ho10 hI9 hb9 hI8
        go_wp2
        go_ret
        exact ⟨rfl, hB10⟩
      · have hk0 : 0 < k := by simp at hg; omega
        have hB7 := (hB6.alloc hB6.size (Obj.cells ([madeE (3 + k), madeE 1].flatMap evK.enc).toArray 31)).trans (gb_below hg7 hb0 (by have := hB6.size; simp; omega))
        obtain ⟨A7, c7, rfl, _, _⟩ := ho7.form
        rw [HD1.out]
        have hkn : ((k : Int) == 0) = false := by simp; omega
        have D4 := Lib.hid (drain_eq F4.out)
        clear hg7 ho7 hI6
        go_wp2_with fail
        refine (held_st b w.heap.size k (ck1 (k + 1)) [madeE (3 + k)] _ hI7 (by simp)).mono ?_
        rintro e w8 ⟨v, rfl, ho8, hb8⟩
        obtain ⟨A8, c8, rfl, _, _⟩ := ho8.form
        have hI8 := hI7.below hb8
        have hB8 := hB7.trans (hb8.mono hB7.size)
        clear hI7 hb8 ho8
        go_wp2_with fail
        refine (made_any 1 _ (by omega) (by omega)).mono ?_
        rintro e w9 ⟨rfl, hb9⟩
        have hB9 := hB8.trans (hb9.mono hB8.size)
        have hI9 := hI8.below hb9
        go_wp2_with fail
        refine (take_st b w.heap.size k (ck1 (k + 1)) [madeE (3 + k)] (some ⟨w9.heap.size, 0, none⟩) 1 [madeE 1] _ (hI9.alloc _) (Kn.row_of (l := [madeE 1]) (blk_new w9 (evK.enc (madeE 1)) 31)) (by simp) (by simp) (by omega) (by omega) (by have := hB9.size; simp; omega)).mono ?_
        rw [D4.out.1, D4.out.2.1, D4.out.2.2]
        rintro e w10 (⟨hg, _⟩ | ⟨_, v, rfl, ho10, hI10, hg10⟩)
        · simp at hg; omega
        have hB10 := (hB9.alloc hB9.size (Obj.cells (#[.int .i64 (madeE 1).r, .int .i64 (madeE 1).n, .int .i64 (madeE 1).c.x0, .int .i64 (madeE 1).c.x1, .int .i64 (madeE 1).c.x2, .int .i64 (madeE 1).c.x3, .int .i64 (madeE 1).c.x4, .int .i64 (madeE 1).h, .int .i64 (madeE 1).k, .string (madeE 1).key, .int .i64 (madeE 1).lab, .string (madeE 1).val]) 31)).trans (gb_below hg10 hb0 (by have := hB9.size; simp; omega))
        obtain ⟨A10, c10, rfl, _, _⟩ := ho10.form
        have hq1 : (((k + 1 : Nat) : Int) == (k : Int) + 1) = true := by simp
        have hq2 : (((k : Int) + 1) == (k : Int) + 1) = true := by simp
        clear hg10 ho10 hI9 hb9 hI8
        go_wp2_with fail
        refine (clock_st b w.heap.size k (ck1 (k + 1)) [madeE (3 + k)] _ hI10).mono ?_
        rintro e w11 ⟨rfl, hb11⟩
        have hq : ∀ d w, (Op.equalIn (d + 2) 23 (.agg #[.int .i64 ((ck1 (k + 1))).x0, .int .i64 ((ck1 (k + 1))).x1, .int .i64 ((ck1 (k + 1))).x2, .int .i64 ((ck1 (k + 1))).x3, .int .i64 ((ck1 (k + 1))).x4]) (.agg #[.int .i64 (k + 1), .int .i64 0, .int .i64 0, .int .i64 0, .int .i64 0])).run Try.prog w = .ok true w := fun d w => by
          have := eqCk d w (ck1 (k + 1)) (ck1 (k + 1))
          rw [decide_eq_true rfl] at this
          exact this
        go_wp2
        go_ret
        exact ⟨rfl, hB10.trans (hb11.mono hB10.size)⟩
end Go.Proofs.Ytlfhjlkhhaoicaa
