/- The walks of the inbox's functions (layer 13), and of slices.Clone, Grow, Concat at events. -/
import Derived.Test.YtlfhjlkhhaoicaaInboxA
import Derived.Lib.AppendZerosOnto
import Derived.Lib.AppendZeros
import Derived.Lib.SliceRun
import Derived.Deep.CutRange
import Derived.Deep.DeepCutAuto
namespace Go.Proofs.Ytlfhjlkhhaoicaa
set_option linter.unusedVariables false
set_option linter.unusedSimpArgs false
open Go.RowKit
attribute [local go_sem] q_le0 q_le1 q_le2 q_le3 q_lt1 q_lt2 q_lt3

theorem cell_at {w : World} {b : Nat} {l : List Value} {t : TypeId} (h : blk w b l t) (o : Nat) {v : Value} (hv : l[o]? = some v) : w.cell? ⟨b, o, none⟩ = some v := by rw [h.cell, hv]
theorem set5 {w : World} {b : Nat} {c c' : Ck} {t : TypeId} (h : blk w b [Value.int .i64 c.x0, Value.int .i64 c.x1, Value.int .i64 c.x2, Value.int .i64 c.x3, Value.int .i64 c.x4] t) : blk (((((w.setCell ⟨b, 0, none⟩ (.int .i64 c'.x0)).setCell ⟨b, 1, none⟩ (.int .i64 c'.x1)).setCell ⟨b, 2, none⟩ (.int .i64 c'.x2)).setCell ⟨b, 3, none⟩ (.int .i64 c'.x3)).setCell ⟨b, 4, none⟩ (.int .i64 c'.x4)) b [Value.int .i64 c'.x0, Value.int .i64 c'.x1, Value.int .i64 c'.x2, Value.int .i64 c'.x3, Value.int .i64 c'.x4] t :=
  ((((h.set 0 (.int .i64 c'.x0)).set 1 (.int .i64 c'.x1)).set 2 (.int .i64 c'.x2)).set 3 (.int .i64 c'.x3)).set 4 (.int .i64 c'.x4)
theorem blk_ab {w : World} {b : Nat} {m : Int} {c c' : Ck} {v0 v : Value} {t : TypeId} (h : blk w b (inb m c v0) t) : blk ((((((w.setCell ⟨b, 6, none⟩ v).setCell ⟨b, 1, none⟩ (.int .i64 c'.x0)).setCell ⟨b, 2, none⟩ (.int .i64 c'.x1)).setCell ⟨b, 3, none⟩ (.int .i64 c'.x2)).setCell ⟨b, 4, none⟩ (.int .i64 c'.x3)).setCell ⟨b, 5, none⟩ (.int .i64 c'.x4)).drew b (inb m c' v) t := (blk.set (blk.set (blk.set (blk.set (blk.set (blk.set h 6 v) 1 (.int .i64 c'.x0)) 2 (.int .i64 c'.x1)) 3 (.int .i64 c'.x2)) 4 (.int .i64 c'.x3)) 5 (.int .i64 c'.x4)).drew
theorem blk_ba {w : World} {b : Nat} {m : Int} {c c' : Ck} {v0 v : Value} {t : TypeId} (h : blk w b (inb m c v0) t) : blk ((((((w.setCell ⟨b, 1, none⟩ (.int .i64 c'.x0)).setCell ⟨b, 2, none⟩ (.int .i64 c'.x1)).setCell ⟨b, 3, none⟩ (.int .i64 c'.x2)).setCell ⟨b, 4, none⟩ (.int .i64 c'.x3)).setCell ⟨b, 5, none⟩ (.int .i64 c'.x4)).setCell ⟨b, 6, none⟩ v).drew b (inb m c' v) t := (blk.set (blk.set (blk.set (blk.set (blk.set (blk.set h 1 (.int .i64 c'.x0)) 2 (.int .i64 c'.x1)) 3 (.int .i64 c'.x2)) 4 (.int .i64 c'.x3)) 5 (.int .i64 c'.x4)) 6 v).drew
theorem gb_of {w w' : World} (h : Below w.heap.size w w') (b : Nat) : w.grownBy w' (some b) := ⟨h.os, h.tape, h.output, h.size, fun i hi _ => h.block i hi⟩
theorem gb_set {w w' : World} {b : Nat} (h : w.grownBy w' (some b)) (o : Nat) (v : Value) : w.grownBy (w'.setCell ⟨b, o, none⟩ v) (some b) :=
  ⟨h.os, h.tape, h.output, Nat.le_trans h.size (by simp [World.setCell]), fun i hi hne => (Below.heap_setCell _ _ _ _ (fun e => hne (by rw [e]))).trans (h.block i hi hne)⟩
theorem gb_drew {w w' : World} {b : Nat} (h : w.grownBy w' (some b)) : w.grownBy w'.drew (some b) := ⟨h.os, h.tape, h.output, h.size, h.block⟩
theorem keepS {w w' : World} {b : Nat} {l : List Value} {t : TypeId} (h : blk w b l t) (lt : b < w.heap.size) (hx : Below w.heap.size w w') : blk w' b l t ∧ (∀ o, w'.cell? ⟨b, o, none⟩ = l[o]?) ∧ Below w.heap.size w w' := ⟨h.below hx lt, (h.below hx lt).cell, hx⟩
set_option maxRecDepth 100000 in
set_option maxHeartbeats 4000000 in
theorem take_any (b : Nat) (most : Int) (c : Ck) (A1 A2 : Option Addr) (c1 c2 : Nat) (l1 l2 : List Ev) (w : World) (h : blk w b (inb most c (.slice A1 l1.length c1)) 86) (hl1 : evK.row w A1 l1) (hl2 : evK.row w A2 l2) (h1 : l1.length ≤ 40000) (h2 : l2.length ≤ 40000)
    (hm0 : -9223372036854775808 ≤ most) (hm1 : most ≤ 9223372036854775807) :
    Calls Try.prog 29 #[.pointer (some ⟨b, 0, none⟩), .slice A2 l2.length c2] w fun e w' =>
      if ((drain c (l1 ++ l2)).2.1.length : Int) > most then e = .returned (.tuple #[.slice none 0 0, .int .i64 22]) ∧ Below w.heap.size w w'
      else ∃ v vl, e = .returned (.tuple #[v, .int .i64 0]) ∧ evK.own 31 w' w.heap.size v (drain c (l1 ++ l2)).1 ∧ evK.own 31 w' w.heap.size vl (drain c (l1 ++ l2)).2.1 ∧ blk w' b (inb most (drain c (l1 ++ l2)).2.2 vl) 86 ∧ w.grownBy w' (some b) := by
  have lt := h.lt
  have hc := h.cell
  unfold inb at hc
  have HLN := Lib.hid (show (l1 ++ l2).length ≤ 100000 by rw [List.length_append]; omega)
  generalize hL : l1 ++ l2 = L at *
  have HL := Lib.hid hL
  clear hL
  generalize hdr : drain c L = dr at *
  obtain ⟨da, dl, dn⟩ := dr
  have HDR := Lib.hid hdr
  clear hdr
  simp only
  go_enter Try.func29, Try.ntmps29
  go_upto_region 2 with fail
  go_cut [7, 8, 9] (fun s7 s8 s9 wx => ∃ g : Nat, s9 = .pointer (some ⟨g, 0, none⟩) ∧ evK.own 31 wx w.heap.size s7 da ∧ evK.own 31 wx w.heap.size s8 dl ∧ w.heap.size ≤ g ∧ blk wx g [Value.int .i64 dn.x0, Value.int .i64 dn.x1, Value.int .i64 dn.x2, Value.int .i64 dn.x3, Value.int .i64 dn.x4] 23 ∧ Below w.heap.size w wx)
  case first =>
    first | (go_region_held3 (fun w' => blk w' b (inb most c (.slice A1 l1.length c1)) 86 ∧ (∀ o, w'.cell? ⟨b, o, none⟩ = ([.int .i64 most, .int .i64 c.x0, .int .i64 c.x1, .int .i64 c.x2, .int .i64 c.x3, .int .i64 c.x4, .slice A1 l1.length c1] : List Value)[o]?) ∧ Below w.heap.size w w')
      (first | with_reducible exact keepS h lt (((((hw3.setCell hz2 _).setCell hz2 _).setCell hz2 _).setCell hz2 _).setCell hz2 _) | with_reducible exact keepS h lt (((((hw3.setCell (Nat.le_refl _) _).setCell (Nat.le_refl _) _).setCell (Nat.le_refl _) _).setCell (Nat.le_refl _) _).setCell (Nat.le_refl _) _) | with_reducible exact keepS h lt (Below.refl _ _).drew | (with_reducible assumption) | with_reducible exact keepS h lt (hw3.alloc hw3.size _) | with_reducible exact keepS h lt hw3 | (go_split_ands; with_reducible exact keepS h lt (Below.alloc (by with_reducible assumption) (bsz (by with_reducible assumption)) _)) | (go_split_ands; with_reducible exact keepS h lt (Below.trans (by with_reducible assumption) (hb2.mono (bsz (by with_reducible assumption))))))
      (first
        | (go_at_call 54; go_split_ands; refine (with_any b most c A1 A2 c1 c2 l1 l2 _ (by assumption) (hl1.below (by assumption) (Nat.le_refl _)) (hl2.below (by assumption) (Nat.le_refl _)) h1 h2).mono ?_; rintro e1 w2 ⟨vw, rfl, how, hb2⟩; rw [HL.out] at how; obtain ⟨Aw, cw, rfl, hrw, _⟩ := how.form; (try (have hz3 : w.heap.size < w2.heap.size := by have := hb2.size; simp at this; omega)); (have hz2 : w.heap.size ≤ w2.heap.size := by first | exact hb2.size | (have := hb2.size; simp at this; omega)); (try (have kz := (blk_at (w := w.drew) (b := w.heap.size) rfl [Value.int .i64 Ck.zero.x0, Value.int .i64 Ck.zero.x1, Value.int .i64 Ck.zero.x2, Value.int .i64 Ck.zero.x3, Value.int .i64 Ck.zero.x4] 23).below hb2 (by simp))))
        | (go_at_call 19; go_split_ands; refine (drain_any c Aw cw L _ (by first | exact hrw | exact hrw.below ((Below.refl _ _).alloc (Nat.le_refl _) _) (Nat.le_refl _)) HLN.out).mono ?_; rintro e1 w3 ⟨v1, v2, rfl, ho1, ho2, hb3⟩; rw [HDR.out] at ho1 ho2 ⊢; simp only at ho1 ho2 ⊢; have hw3 : Below w.heap.size w w3 := Below.trans (by assumption) (hb3.mono (bsz (by assumption))); (try (have kz := (blk_new w2 [Value.int .i64 Ck.zero.x0, Value.int .i64 Ck.zero.x1, Value.int .i64 Ck.zero.x2, Value.int .i64 Ck.zero.x3, Value.int .i64 Ck.zero.x4] 23).below hb3 (by simp))); (try (have kz := kz.below hb3 kz.lt)); (try (have cz0 := cell_at kz 0 rfl)); (try (have fz0 := kz.free 0)); (try (have cz1 := cell_at kz 1 rfl)); (try (have fz1 := kz.free 1)); (try (have cz2 := cell_at kz 2 rfl)); (try (have fz2 := kz.free 2)); (try (have cz3 := cell_at kz 3 rfl)); (try (have fz3 := kz.free 3)); (try (have cz4 := cell_at kz 4 rfl)); (try (have fz4 := kz.free 4))))) | fail
    · have kzz := blk_new w3 [Value.int .i64 dn.x0, Value.int .i64 dn.x1, Value.int .i64 dn.x2, Value.int .i64 dn.x3, Value.int .i64 dn.x4] 23
      have hwe : Below w.heap.size w (w3.alloc (Obj.cells #[.int .i64 dn.x0, .int .i64 dn.x1, .int .i64 dn.x2, .int .i64 dn.x3, .int .i64 dn.x4] 23)) := hw3.alloc hw3.size _
      have oo1 := ho1.alloc (Obj.cells #[.int .i64 dn.x0, .int .i64 dn.x1, .int .i64 dn.x2, .int .i64 dn.x3, .int .i64 dn.x4] 23)
      have oo2 := ho2.alloc (Obj.cells #[.int .i64 dn.x0, .int .i64 dn.x1, .int .i64 dn.x2, .int .i64 dn.x3, .int .i64 dn.x4] 23)
      go_wp2_with fail
      go_meet
      exact ⟨_, rfl, oo1.mono (by first | exact hz2 | (simp; omega)), oo2.mono (by first | exact hz2 | (simp; omega)), hw3.size, kzz, hwe⟩
    · have kzz : blk _ w2.heap.size _ _ := set5 (c' := dn) kz
      have hwe : Below w.heap.size w (((((w3.setCell ⟨w2.heap.size, 0, none⟩ (.int .i64 dn.x0)).setCell ⟨w2.heap.size, 1, none⟩ (.int .i64 dn.x1)).setCell ⟨w2.heap.size, 2, none⟩ (.int .i64 dn.x2)).setCell ⟨w2.heap.size, 3, none⟩ (.int .i64 dn.x3)).setCell ⟨w2.heap.size, 4, none⟩ (.int .i64 dn.x4)) := (((((hw3.setCell (p := ⟨w2.heap.size, 0, none⟩) hz2 (.int .i64 dn.x0)).setCell (p := ⟨w2.heap.size, 1, none⟩) hz2 (.int .i64 dn.x1)).setCell (p := ⟨w2.heap.size, 2, none⟩) hz2 (.int .i64 dn.x2)).setCell (p := ⟨w2.heap.size, 3, none⟩) hz2 (.int .i64 dn.x3)).setCell (p := ⟨w2.heap.size, 4, none⟩) hz2 (.int .i64 dn.x4))
      have oo1 := ho1.set_lt (a := ⟨w2.heap.size, 0, none⟩) (by simp) (.int .i64 dn.x0) |>.set_lt (a := ⟨w2.heap.size, 1, none⟩) (by simp) (.int .i64 dn.x1) |>.set_lt (a := ⟨w2.heap.size, 2, none⟩) (by simp) (.int .i64 dn.x2) |>.set_lt (a := ⟨w2.heap.size, 3, none⟩) (by simp) (.int .i64 dn.x3) |>.set_lt (a := ⟨w2.heap.size, 4, none⟩) (by simp) (.int .i64 dn.x4)
      have oo2 := ho2.set_lt (a := ⟨w2.heap.size, 0, none⟩) (by simp) (.int .i64 dn.x0) |>.set_lt (a := ⟨w2.heap.size, 1, none⟩) (by simp) (.int .i64 dn.x1) |>.set_lt (a := ⟨w2.heap.size, 2, none⟩) (by simp) (.int .i64 dn.x2) |>.set_lt (a := ⟨w2.heap.size, 3, none⟩) (by simp) (.int .i64 dn.x3) |>.set_lt (a := ⟨w2.heap.size, 4, none⟩) (by simp) (.int .i64 dn.x4)
      go_wp2_with fail
      go_meet
      exact ⟨_, rfl, oo1.mono (by first | exact hz2 | (simp; omega)), oo2.mono (by first | exact hz2 | (simp; omega)), hz2, kzz, hwe⟩
    · have kzz : blk _ w.heap.size _ _ := set5 (c' := dn) kz
      have hwe : Below w.heap.size w (((((w3.setCell ⟨w.heap.size, 0, none⟩ (.int .i64 dn.x0)).setCell ⟨w.heap.size, 1, none⟩ (.int .i64 dn.x1)).setCell ⟨w.heap.size, 2, none⟩ (.int .i64 dn.x2)).setCell ⟨w.heap.size, 3, none⟩ (.int .i64 dn.x3)).setCell ⟨w.heap.size, 4, none⟩ (.int .i64 dn.x4)) := (((((hw3.setCell (p := ⟨w.heap.size, 0, none⟩) (Nat.le_refl _) (.int .i64 dn.x0)).setCell (p := ⟨w.heap.size, 1, none⟩) (Nat.le_refl _) (.int .i64 dn.x1)).setCell (p := ⟨w.heap.size, 2, none⟩) (Nat.le_refl _) (.int .i64 dn.x2)).setCell (p := ⟨w.heap.size, 3, none⟩) (Nat.le_refl _) (.int .i64 dn.x3)).setCell (p := ⟨w.heap.size, 4, none⟩) (Nat.le_refl _) (.int .i64 dn.x4))
      have oo1 := ho1.set_lt (a := ⟨w.heap.size, 0, none⟩) hz3 (.int .i64 dn.x0) |>.set_lt (a := ⟨w.heap.size, 1, none⟩) hz3 (.int .i64 dn.x1) |>.set_lt (a := ⟨w.heap.size, 2, none⟩) hz3 (.int .i64 dn.x2) |>.set_lt (a := ⟨w.heap.size, 3, none⟩) hz3 (.int .i64 dn.x3) |>.set_lt (a := ⟨w.heap.size, 4, none⟩) hz3 (.int .i64 dn.x4)
      have oo2 := ho2.set_lt (a := ⟨w.heap.size, 0, none⟩) hz3 (.int .i64 dn.x0) |>.set_lt (a := ⟨w.heap.size, 1, none⟩) hz3 (.int .i64 dn.x1) |>.set_lt (a := ⟨w.heap.size, 2, none⟩) hz3 (.int .i64 dn.x2) |>.set_lt (a := ⟨w.heap.size, 3, none⟩) hz3 (.int .i64 dn.x3) |>.set_lt (a := ⟨w.heap.size, 4, none⟩) hz3 (.int .i64 dn.x4)
      go_wp2_with fail
      go_meet
      exact ⟨_, rfl, oo1.mono (by first | exact hz2 | (simp; omega)), oo2.mono (by first | exact hz2 | (simp; omega)), Nat.le_refl _, kzz, hwe⟩
  case rest =>
    obtain ⟨g, rfl, oo1, oo2, hg0, kzz, hwe⟩ := hcut
    have kb := h.below hwe lt
    have lb := kb.lt
    have cb := kb.cell
    have fb := kb.free
    have cz' := kzz.cell
    have lzz := kzz.lt
    have hbg : b ≠ g := by omega
    obtain ⟨A1', p1, rfl, hr1', _⟩ := oo1.form
    obtain ⟨B2, p2, rfl, hr2, _⟩ := oo2.form
    by_cases hg : (dl.length : Int) > most
    · go_wp2
      go_ret2
      first | exact ⟨rfl, hwe⟩ | (rw [if_pos hg]; exact ⟨rfl, hwe⟩)
    · go_wp2
      go_region
      all_goals go_wp2
      all_goals go_ret2
      all_goals first | rw [if_neg hg] | skip
      all_goals first
        | exact ⟨_, by rfl, (oo1.set_lt (a := ⟨b, 6, none⟩) lt _ |>.set_lt (a := ⟨b, 1, none⟩) lt _ |>.set_lt (a := ⟨b, 2, none⟩) lt _ |>.set_lt (a := ⟨b, 3, none⟩) lt _ |>.set_lt (a := ⟨b, 4, none⟩) lt _ |>.set_lt (a := ⟨b, 5, none⟩) lt _).drew, _, (oo2.set_lt (a := ⟨b, 6, none⟩) lt _ |>.set_lt (a := ⟨b, 1, none⟩) lt _ |>.set_lt (a := ⟨b, 2, none⟩) lt _ |>.set_lt (a := ⟨b, 3, none⟩) lt _ |>.set_lt (a := ⟨b, 4, none⟩) lt _ |>.set_lt (a := ⟨b, 5, none⟩) lt _).drew, blk_ab kb, gb_drew (gb_set (gb_set (gb_set (gb_set (gb_set (gb_set (gb_of hwe b) 6 _) 1 _) 2 _) 3 _) 4 _) 5 _)⟩
        | exact ⟨_, by rfl, (oo1.set_lt (a := ⟨b, 1, none⟩) lt _ |>.set_lt (a := ⟨b, 2, none⟩) lt _ |>.set_lt (a := ⟨b, 3, none⟩) lt _ |>.set_lt (a := ⟨b, 4, none⟩) lt _ |>.set_lt (a := ⟨b, 5, none⟩) lt _ |>.set_lt (a := ⟨b, 6, none⟩) lt _).drew, _, (oo2.set_lt (a := ⟨b, 1, none⟩) lt _ |>.set_lt (a := ⟨b, 2, none⟩) lt _ |>.set_lt (a := ⟨b, 3, none⟩) lt _ |>.set_lt (a := ⟨b, 4, none⟩) lt _ |>.set_lt (a := ⟨b, 5, none⟩) lt _ |>.set_lt (a := ⟨b, 6, none⟩) lt _).drew, blk_ba kb, gb_drew (gb_set (gb_set (gb_set (gb_set (gb_set (gb_set (gb_of hwe b) 1 _) 2 _) 3 _) 4 _) 5 _) 6 _)⟩
end Go.Proofs.Ytlfhjlkhhaoicaa
