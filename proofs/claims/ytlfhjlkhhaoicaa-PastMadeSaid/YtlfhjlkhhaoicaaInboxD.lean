/- The walk of the inbox's Own. -/
import Derived.Test.YtlfhjlkhhaoicaaInboxC
namespace Go.Proofs.Ytlfhjlkhhaoicaa
set_option linter.unusedVariables false
set_option linter.unusedSimpArgs false
open Go.RowKit
attribute [local go_sem] q_le0 q_le1 q_le2 q_le3 q_lt1 q_lt2 q_lt3

theorem keepS2 {w w' : World} {b b2 : Nat} {l l2 : List Value} {t t2 : TypeId} (h : blk w b l t) (h2 : blk w b2 l2 t2) (hx : Below w.heap.size w w') : blk w' b l t ∧ (∀ o, w'.cell? ⟨b, o, none⟩ = l[o]?) ∧ (∀ o, w'.cell? ⟨b2, o, none⟩ = l2[o]?) ∧ Below w.heap.size w w' := ⟨h.below hx h.lt, (h.below hx h.lt).cell, (h2.below hx h2.lt).cell, hx⟩
theorem row_oneA {w : World} {g : Nat} {e : Ev} (hg : g = w.heap.size) : evK.row (w.alloc (Obj.cells #[.int .i64 e.r, .int .i64 e.n, .int .i64 e.c.x0, .int .i64 e.c.x1, .int .i64 e.c.x2, .int .i64 e.c.x3, .int .i64 e.c.x4, .int .i64 e.h, .int .i64 e.k, .string e.key, .int .i64 e.lab, .string e.val] 31)) (some ⟨g, 0, none⟩) [e] := by
  subst hg
  exact Kn.row_of (l := [e]) (blk_new w (evK.enc e) 31)
theorem row_oneB {w : World} {g : Nat} {e : Ev} {o : Obj} (hg : g = w.heap.size) : evK.row ((w.alloc (Obj.cells #[.int .i64 e.r, .int .i64 e.n, .int .i64 e.c.x0, .int .i64 e.c.x1, .int .i64 e.c.x2, .int .i64 e.c.x3, .int .i64 e.c.x4, .int .i64 e.h, .int .i64 e.k, .string e.key, .int .i64 e.lab, .string e.val] 31)).alloc o) (some ⟨g, 0, none⟩) [e] :=
  (row_oneA hg).below ((Below.refl (w.alloc (Obj.cells #[.int .i64 e.r, .int .i64 e.n, .int .i64 e.c.x0, .int .i64 e.c.x1, .int .i64 e.c.x2, .int .i64 e.c.x3, .int .i64 e.c.x4, .int .i64 e.h, .int .i64 e.k, .string e.key, .int .i64 e.lab, .string e.val] 31)).heap.size (w.alloc (Obj.cells #[.int .i64 e.r, .int .i64 e.n, .int .i64 e.c.x0, .int .i64 e.c.x1, .int .i64 e.c.x2, .int .i64 e.c.x3, .int .i64 e.c.x4, .int .i64 e.h, .int .i64 e.k, .string e.key, .int .i64 e.lab, .string e.val] 31))).alloc (Nat.le_refl _) o) (Nat.le_refl _)
/-- What Own does. -/
def OwnSt (b : Nat) (most : Int) (v : Value) (d : List Ev) (dn : Ck) (w : World) (e : Ending) (w' : World) : Prop :=
  d = [] ∧ e = .returned (.int .i64 20) ∧ Below w.heap.size w w' ∨ d ≠ [] ∧ e = .returned (.int .i64 0) ∧ blk w' b (inb most dn v) 86 ∧ w.grownBy w' (some b)
theorem inb_set {w : World} {b : Nat} {m : Int} {c c' : Ck} {v : Value} {t : TypeId} (h : blk w b (inb m c v) t) : blk (((((w.setCell ⟨b, 1, none⟩ (.int .i64 c'.x0)).setCell ⟨b, 2, none⟩ (.int .i64 c'.x1)).setCell ⟨b, 3, none⟩ (.int .i64 c'.x2)).setCell ⟨b, 4, none⟩ (.int .i64 c'.x3)).setCell ⟨b, 5, none⟩ (.int .i64 c'.x4)) b (inb m c' v) t := blk.set (blk.set (blk.set (blk.set (blk.set h 1 (.int .i64 c'.x0)) 2 (.int .i64 c'.x1)) 3 (.int .i64 c'.x2)) 4 (.int .i64 c'.x3)) 5 (.int .i64 c'.x4)
set_option maxRecDepth 100000 in
set_option maxHeartbeats 2000000 in
theorem own_any (b : Nat) (most : Int) (c : Ck) (v : Value) (e : Ev) (w : World) (h : blk w b (inb most c v) 86) :
    Calls Try.prog 41 #[.pointer (some ⟨b, 0, none⟩), .agg #[.int .i64 e.r, .int .i64 e.n, .int .i64 e.c.x0, .int .i64 e.c.x1, .int .i64 e.c.x2, .int .i64 e.c.x3, .int .i64 e.c.x4, .int .i64 e.h, .int .i64 e.k, .string e.key, .int .i64 e.lab, .string e.val]] w (OwnSt b most v (drain c [e]).1 (drain c [e]).2.2 w) := by
  generalize hdr : drain c [e] = dr at *
  obtain ⟨da, dl, dn⟩ := dr
  have HDR := Lib.hid hdr
  clear hdr
  simp only
  have lt := h.lt
  have hB0 := (Below.refl w.heap.size w).alloc (Nat.le_refl _) (Obj.cells #[.int .i64 e.r, .int .i64 e.n, .int .i64 e.c.x0, .int .i64 e.c.x1, .int .i64 e.c.x2, .int .i64 e.c.x3, .int .i64 e.c.x4, .int .i64 e.h, .int .i64 e.k, .string e.key, .int .i64 e.lab, .string e.val] 31)
  have hx0 := blk_new w [.int .i64 e.r, .int .i64 e.n, .int .i64 e.c.x0, .int .i64 e.c.x1, .int .i64 e.c.x2, .int .i64 e.c.x3, .int .i64 e.c.x4, .int .i64 e.h, .int .i64 e.k, .string e.key, .int .i64 e.lab, .string e.val] 31
  have h0 := h.alloc (Obj.cells #[.int .i64 e.r, .int .i64 e.n, .int .i64 e.c.x0, .int .i64 e.c.x1, .int .i64 e.c.x2, .int .i64 e.c.x3, .int .i64 e.c.x4, .int .i64 e.h, .int .i64 e.k, .string e.key, .int .i64 e.lab, .string e.val] 31)
  go_enter Try.func41, Try.ntmps41
  go_upto_region 1 with fail
  generalize w.alloc (Obj.cells #[.int .i64 e.r, .int .i64 e.n, .int .i64 e.c.x0, .int .i64 e.c.x1, .int .i64 e.c.x2, .int .i64 e.c.x3, .int .i64 e.c.x4, .int .i64 e.h, .int .i64 e.k, .string e.key, .int .i64 e.lab, .string e.val] 31) = w0 at *
  have hs0 := hx0.lt
  have lt0 := h0.lt
  go_cut [5, 6, 7] (fun s5 s6 s7 wx => ∃ g : Nat, s7 = .pointer (some ⟨g, 0, none⟩) ∧ evK.own 31 wx w0.heap.size s5 da ∧ w0.heap.size ≤ g ∧ blk wx g [Value.int .i64 dn.x0, Value.int .i64 dn.x1, Value.int .i64 dn.x2, Value.int .i64 dn.x3, Value.int .i64 dn.x4] 23 ∧ Below w0.heap.size w0 wx)
  case first =>
    first | (go_region_held3 (fun w' => blk w' b (inb most c v) 86 ∧ (∀ o, w'.cell? ⟨b, o, none⟩ = ([.int .i64 most, .int .i64 c.x0, .int .i64 c.x1, .int .i64 c.x2, .int .i64 c.x3, .int .i64 c.x4, v] : List Value)[o]?) ∧ (∀ o, w'.cell? ⟨w.heap.size, o, none⟩ = ([.int .i64 e.r, .int .i64 e.n, .int .i64 e.c.x0, .int .i64 e.c.x1, .int .i64 e.c.x2, .int .i64 e.c.x3, .int .i64 e.c.x4, .int .i64 e.h, .int .i64 e.k, .string e.key, .int .i64 e.lab, .string e.val] : List Value)[o]?) ∧ Below w0.heap.size w0 w')
      (first | with_reducible exact keepS2 h0 hx0 (((((hw3.setCell hz2 _).setCell hz2 _).setCell hz2 _).setCell hz2 _).setCell hz2 _) | with_reducible exact keepS2 h0 hx0 (((((hw3.setCell (Nat.le_refl _) _).setCell (Nat.le_refl _) _).setCell (Nat.le_refl _) _).setCell (Nat.le_refl _) _).setCell (Nat.le_refl _) _) | with_reducible exact keepS2 h0 hx0 (Below.refl _ _).drew | (with_reducible assumption) | with_reducible exact keepS2 h0 hx0 (hw3.alloc hw3.size _) | with_reducible exact keepS2 h0 hx0 hw3 | (go_split_ands; with_reducible exact keepS2 h0 hx0 (Below.alloc (by with_reducible assumption) (bsz (by with_reducible assumption)) _)))
      (first
        | (go_at_call 19; go_split_ands; refine (drain_any c _ 1 [e] _ (by first | exact row_oneA rfl | exact row_oneB rfl | exact row_oneA (by simp) | exact row_oneB (by simp)) (by simp)).mono ?_; rintro e1 w3 ⟨v1, v2, rfl, ho1, ho2, hb3⟩; rw [HDR.out] at ho1 ho2 ⊢; simp only at ho1 ho2 ⊢; have hw3 : Below w0.heap.size w0 w3 := Below.trans (by assumption) (hb3.mono (bsz (by assumption))); (have hz2 : w0.heap.size ≤ w0.heap.size + 1 := Nat.le_succ _); (try (have kz := ((blk_at (w := w0.drew) (b := w0.heap.size) rfl [Value.int .i64 Ck.zero.x0, Value.int .i64 Ck.zero.x1, Value.int .i64 Ck.zero.x2, Value.int .i64 Ck.zero.x3, Value.int .i64 Ck.zero.x4] 23).alloc (Obj.cells #[.int .i64 e.r, .int .i64 e.n, .int .i64 e.c.x0, .int .i64 e.c.x1, .int .i64 e.c.x2, .int .i64 e.c.x3, .int .i64 e.c.x4, .int .i64 e.h, .int .i64 e.k, .string e.key, .int .i64 e.lab, .string e.val] 31)).below hb3 (by first | omega | (simp; done) | (simp; omega)))); (try (have kz := (blk_at (w := w0.drew.alloc (Obj.cells #[.int .i64 e.r, .int .i64 e.n, .int .i64 e.c.x0, .int .i64 e.c.x1, .int .i64 e.c.x2, .int .i64 e.c.x3, .int .i64 e.c.x4, .int .i64 e.h, .int .i64 e.k, .string e.key, .int .i64 e.lab, .string e.val] 31)) (b := w0.heap.size + 1) (by simp) [Value.int .i64 Ck.zero.x0, Value.int .i64 Ck.zero.x1, Value.int .i64 Ck.zero.x2, Value.int .i64 Ck.zero.x3, Value.int .i64 Ck.zero.x4] 23).below hb3 (by first | omega | (simp; done) | (simp; omega)))); (try (have cz0 := cell_at kz 0 rfl)); (try (have fz0 := kz.free 0)); (try (have cz1 := cell_at kz 1 rfl)); (try (have fz1 := kz.free 1)); (try (have cz2 := cell_at kz 2 rfl)); (try (have fz2 := kz.free 2)); (try (have cz3 := cell_at kz 3 rfl)); (try (have fz3 := kz.free 3)); (try (have cz4 := cell_at kz 4 rfl)); (try (have fz4 := kz.free 4))))) | fail
    · have kzz := blk_new w3 [Value.int .i64 dn.x0, Value.int .i64 dn.x1, Value.int .i64 dn.x2, Value.int .i64 dn.x3, Value.int .i64 dn.x4] 23
      have hwe : Below w0.heap.size w0 (w3.alloc (Obj.cells #[.int .i64 dn.x0, .int .i64 dn.x1, .int .i64 dn.x2, .int .i64 dn.x3, .int .i64 dn.x4] 23)) := hw3.alloc hw3.size _
      have oo1 := ho1.alloc (Obj.cells #[.int .i64 dn.x0, .int .i64 dn.x1, .int .i64 dn.x2, .int .i64 dn.x3, .int .i64 dn.x4] 23)
      go_wp2_with fail
      go_meet
      exact ⟨_, rfl, oo1.mono (by simp <;> omega), hw3.size, kzz, hwe⟩
    · have kzz : blk _ (w0.heap.size + 1) _ _ := set5 (c' := dn) kz
      have hwe : Below w0.heap.size w0 (((((w3.setCell ⟨w0.heap.size + 1, 0, none⟩ (.int .i64 dn.x0)).setCell ⟨w0.heap.size + 1, 1, none⟩ (.int .i64 dn.x1)).setCell ⟨w0.heap.size + 1, 2, none⟩ (.int .i64 dn.x2)).setCell ⟨w0.heap.size + 1, 3, none⟩ (.int .i64 dn.x3)).setCell ⟨w0.heap.size + 1, 4, none⟩ (.int .i64 dn.x4)) := (((((hw3.setCell (p := ⟨w0.heap.size + 1, 0, none⟩) hz2 (.int .i64 dn.x0)).setCell (p := ⟨w0.heap.size + 1, 1, none⟩) hz2 (.int .i64 dn.x1)).setCell (p := ⟨w0.heap.size + 1, 2, none⟩) hz2 (.int .i64 dn.x2)).setCell (p := ⟨w0.heap.size + 1, 3, none⟩) hz2 (.int .i64 dn.x3)).setCell (p := ⟨w0.heap.size + 1, 4, none⟩) hz2 (.int .i64 dn.x4))
      have oo1 := ho1.set_lt (a := ⟨w0.heap.size + 1, 0, none⟩) (by simp <;> omega) (.int .i64 dn.x0) |>.set_lt (a := ⟨w0.heap.size + 1, 1, none⟩) (by simp <;> omega) (.int .i64 dn.x1) |>.set_lt (a := ⟨w0.heap.size + 1, 2, none⟩) (by simp <;> omega) (.int .i64 dn.x2) |>.set_lt (a := ⟨w0.heap.size + 1, 3, none⟩) (by simp <;> omega) (.int .i64 dn.x3) |>.set_lt (a := ⟨w0.heap.size + 1, 4, none⟩) (by simp <;> omega) (.int .i64 dn.x4)
      go_wp2_with fail
      go_meet
      exact ⟨_, rfl, oo1.mono (by simp <;> omega), hz2, kzz, hwe⟩
    · have kzz : blk _ (w0.heap.size) _ _ := set5 (c' := dn) kz
      have hwe : Below w0.heap.size w0 (((((w3.setCell ⟨w0.heap.size, 0, none⟩ (.int .i64 dn.x0)).setCell ⟨w0.heap.size, 1, none⟩ (.int .i64 dn.x1)).setCell ⟨w0.heap.size, 2, none⟩ (.int .i64 dn.x2)).setCell ⟨w0.heap.size, 3, none⟩ (.int .i64 dn.x3)).setCell ⟨w0.heap.size, 4, none⟩ (.int .i64 dn.x4)) := (((((hw3.setCell (p := ⟨w0.heap.size, 0, none⟩) (Nat.le_refl _) (.int .i64 dn.x0)).setCell (p := ⟨w0.heap.size, 1, none⟩) (Nat.le_refl _) (.int .i64 dn.x1)).setCell (p := ⟨w0.heap.size, 2, none⟩) (Nat.le_refl _) (.int .i64 dn.x2)).setCell (p := ⟨w0.heap.size, 3, none⟩) (Nat.le_refl _) (.int .i64 dn.x3)).setCell (p := ⟨w0.heap.size, 4, none⟩) (Nat.le_refl _) (.int .i64 dn.x4))
      have oo1 := ho1.set_lt (a := ⟨w0.heap.size, 0, none⟩) (by simp <;> omega) (.int .i64 dn.x0) |>.set_lt (a := ⟨w0.heap.size, 1, none⟩) (by simp <;> omega) (.int .i64 dn.x1) |>.set_lt (a := ⟨w0.heap.size, 2, none⟩) (by simp <;> omega) (.int .i64 dn.x2) |>.set_lt (a := ⟨w0.heap.size, 3, none⟩) (by simp <;> omega) (.int .i64 dn.x3) |>.set_lt (a := ⟨w0.heap.size, 4, none⟩) (by simp <;> omega) (.int .i64 dn.x4)
      go_wp2_with fail
      go_meet
      exact ⟨_, rfl, oo1.mono (by simp <;> omega), (Nat.le_refl _), kzz, hwe⟩
  case rest =>
    obtain ⟨g, rfl, oo1, hg0, kzz, hwe⟩ := hcut
    have kb := h0.below hwe lt0
    have lb := kb.lt
    have cb := kb.cell
    have fb := kb.free
    have cz' := kzz.cell
    have lzz := kzz.lt
    have hbg : b ≠ g := by omega
    have hBw : Below w.heap.size w wc := hB0.trans (hwe.mono hB0.size)
    obtain ⟨A1', p1, rfl, _, _⟩ := oo1.form
    by_cases hd : da = []
    · have hl : ((da.length : Nat) : Int) = 0 := by rw [hd]; rfl
      have hl2 : (((da.length : Nat) : Int) == 0) = true := by rw [hl]; rfl
      go_wp2
      go_ret
      exact .inl ⟨hd, rfl, hBw⟩
    · have hl2 : (((da.length : Nat) : Int) == 0) = false := by
        have := List.length_pos_iff.2 hd
        simp; exact hd
      go_wp2
      go_ret
      exact .inr ⟨hd, rfl, inb_set kb, gb_set (gb_set (gb_set (gb_set (gb_set (gb_of hBw b) 1 _) 2 _) 3 _) 4 _) 5 _⟩

/-! Two things side by side: what one inbox's calls leave as it was. -/
section
variable {w w' : World} {b b2 B0 B2 : Nat} {most m2 : Int} {c c2 : Ck} {l l2 : List Ev}
theorem own_inb {α : Type} {K : Kn α} {e : TypeId} {base : Nat} {v : Value} {xs : List α} (h : K.own e w base v xs) (hI : InbAt w b B0 most c l) (hg : w.grownBy w' (some b)) (he : 86 ≠ e) : K.own e w' base v xs := by
  obtain ⟨vl, hb, _⟩ := hI
  exact h.kept hg (.inl (Ne.symm (h.ne_blk hb he)))
theorem InbAt.other (h : InbAt w b2 B2 m2 c2 l2) (hI : InbAt w b B0 most c l) (hne : b2 ≠ b) (hg : w.grownBy w' (some b)) : InbAt w' b2 B2 m2 c2 l2 := by
  obtain ⟨vl, h1, h2⟩ := h
  exact ⟨vl, h1.grown hg (by simpa using hne), own_inb h2 hI hg (by decide)⟩
theorem blk_inb {g : Nat} {t : TypeId} {cs : List Value} (h : blk w g cs t) (hne : g ≠ b) (hg : w.grownBy w' (some b)) : blk w' g cs t := h.grown hg (by simpa using hne)
theorem lose_st (hI : InbAt w b B0 most c l) :
    Calls Try.prog 34 #[.pointer (some ⟨b, 0, none⟩)] w fun e w' => (∃ r, e = .returned r) ∧ InbAt w' b B0 most c [] ∧ w.grownBy w' (some b) := by
  obtain ⟨vl, hb, ho⟩ := hI
  exact (inboxLose_any b most c vl w hb).mono fun e w' ⟨he, h1, h2⟩ => ⟨he, ⟨_, h1, Kn.own_nil⟩, h2⟩
theorem own_st (e : Ev) (hI : InbAt w b B0 most c l) :
    Calls Try.prog 41 #[.pointer (some ⟨b, 0, none⟩), .agg #[.int .i64 e.r, .int .i64 e.n, .int .i64 e.c.x0, .int .i64 e.c.x1, .int .i64 e.c.x2, .int .i64 e.c.x3, .int .i64 e.c.x4, .int .i64 e.h, .int .i64 e.k, .string e.key, .int .i64 e.lab, .string e.val]] w fun x w' => (drain c [e]).1 = [] ∧ x = .returned (.int .i64 20) ∧ InbAt w' b B0 most c l ∧ Below w.heap.size w w' ∨ (drain c [e]).1 ≠ [] ∧ x = .returned (.int .i64 0) ∧ InbAt w' b B0 most (drain c [e]).2.2 l ∧ w.grownBy w' (some b) := by
  obtain ⟨vl, hb, ho⟩ := hI
  refine (own_any b most c vl e w hb).mono fun x w' h => ?_
  rcases h with ⟨h1, h2, h3⟩ | ⟨h1, h2, h3, h4⟩
  · exact .inl ⟨h1, h2, ⟨vl, hb.below h3 hb.lt, ho.below h3 (Nat.le_refl _)⟩, h3⟩
  · exact .inr ⟨h1, h2, ⟨vl, h3, ho.kept h4 (.inl (Ne.symm (ho.ne_blk hb (by decide))))⟩, h4⟩
end
set_option maxRecDepth 100000 in
set_option maxHeartbeats 400000 in
theorem short13_any (A : Option Addr) (n ca : Nat) (w : World) (hc : n ≤ ca) (hm : ca ≤ maxLen) :
    Calls Try.prog 33 #[.slice A n ca] w fun e w' => e = .returned (.slice A (min n 40) ca) ∧ w = w' := by
  unfold maxLen at hm
  by_cases h : n ≤ 40
  · go_enter Try.func33, Try.ntmps33
    go_wp2
    go_ret
    exact ⟨ret_slice (Nat.min_eq_left h).symm, rfl⟩
  · go_enter Try.func33, Try.ntmps33
    go_wp2
    go_ret
    exact ⟨ret_slice (Nat.min_eq_right (by omega)).symm, rfl⟩
end Go.Proofs.Ytlfhjlkhhaoicaa
