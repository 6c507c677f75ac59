/- kithlaw08.few. -/
import Derived.Test.YtlfhjlkhhaoicaaSpoiltP
namespace Go.Proofs.Ytlfhjlkhhaoicaa
set_option linter.unusedVariables false
set_option linter.unusedSimpArgs false
open Go.RowKit
attribute [local go_sem] q_le0 q_le1 q_le2 q_le3 q_le4 q_le5 q_lt1 q_lt2 q_lt3 q_lt4 q_lt5

theorem blk_upC {w : World} {g : Nat} {e : Ev} {t : TypeId} (h : blk w g [.int .i64 e.r, .int .i64 e.n, .int .i64 e.c.x0, .int .i64 e.c.x1, .int .i64 e.c.x2, .int .i64 e.c.x3, .int .i64 e.c.x4, .int .i64 e.h, .int .i64 e.k, .string e.key, .int .i64 e.lab, .string e.val] t) {k : Nat} (hk : k < 5) (z : Int) : blk (w.setCell ⟨g, 2 + k, none⟩ (.int .i64 z)) g [.int .i64 (e.upC k z).r, .int .i64 (e.upC k z).n, .int .i64 (e.upC k z).c.x0, .int .i64 (e.upC k z).c.x1, .int .i64 (e.upC k z).c.x2, .int .i64 (e.upC k z).c.x3, .int .i64 (e.upC k z).c.x4, .int .i64 (e.upC k z).h, .int .i64 (e.upC k z).k, .string (e.upC k z).key, .int .i64 (e.upC k z).lab, .string (e.upC k z).val] t := by
  have h1 := blk.set h (2 + k) (.int .i64 z)
  have h2 := upC_enc e hk z
  show blk _ g (evK.enc (e.upC k z)) t
  rw [h2]
  exact h1
set_option maxRecDepth 100000 in
set_option maxHeartbeats 2000000 in
theorem few08_any (A : Option Addr) (ca : Nat) (l : List Ev) (w : World) (hl : evK.row w A l) (hn : l.length ≤ maxLen) :
    Calls Try.prog 43 #[.slice A l.length ca] w fun e w' => ∃ v p, e = .returned v ∧ p.length ≤ 30 ∧ evK.own 31 w' w.heap.size v p ∧ Below w.heap.size w w' := by
  unfold maxLen at hn
  generalize hnn : l.length = n at *
  have HN := Lib.hid hnn
  clear hnn
  go_enter Try.func43, Try.ntmps43
  go_wp2
  go_loopw [3, 4] (fun v3 v4 wr => ∃ (i : Nat) (p : List Ev), i ≤ n ∧ i ≤ 30 ∧ v4 = .int .i64 i ∧ p.length ≤ i ∧ evK.own 31 wr w.heap.size v3 p ∧ Below w.heap.size w wr) (fun _ v4 _ => n - (intOf v4).toNat)
  case atStart => exact ⟨0, [], by omega, by omega, rfl, by simp, World.ownsRow_lit w #[] 0 (Nat.le_refl _) (by decide) rfl, (Below.refl _ _).alloc (Nat.le_refl _) _⟩
  case round =>
    obtain ⟨i, p, hi, hi30, rfl, hp, ho, hB⟩ := hrel
    by_cases hlt : i < n
    · by_cases hlt2 : i < 30
      · obtain ⟨x, hx⟩ : ∃ x, l[i]? = some x := ⟨_, List.getElem?_eq_getElem (by rw [HN.out]; exact hlt)⟩
        obtain ⟨b, off, rfl, hb, hat⟩ := hl.get hx
        obtain ⟨c0, c1, c2, c3, c4, c5, c6, c7, c8, c9, c10, c11⟩ := evAt_get (hat.below hB hb) hx
        have hk0 := blk_new wr [.int .i64 x.r, .int .i64 x.n, .int .i64 x.c.x0, .int .i64 x.c.x1, .int .i64 x.c.x2, .int .i64 x.c.x3, .int .i64 x.c.x4, .int .i64 x.h, .int .i64 x.k, .string x.key, .int .i64 x.lab, .string x.val] 31
        have ho0 := ho.alloc (Obj.cells #[.int .i64 x.r, .int .i64 x.n, .int .i64 x.c.x0, .int .i64 x.c.x1, .int .i64 x.c.x2, .int .i64 x.c.x3, .int .i64 x.c.x4, .int .i64 x.h, .int .i64 x.k, .string x.key, .int .i64 x.lab, .string x.val] 31)
        have hB0 := hB.alloc hB.size (Obj.cells #[.int .i64 x.r, .int .i64 x.n, .int .i64 x.c.x0, .int .i64 x.c.x1, .int .i64 x.c.x2, .int .i64 x.c.x3, .int .i64 x.c.x4, .int .i64 x.h, .int .i64 x.k, .string x.key, .int .i64 x.lab, .string x.val] 31)
        have hne : some wr.heap.size ≠ u3.ownBlock := ho.ne_ge (Nat.le_refl _)
        have hgs := hB.size
        clear hx
        obtain ⟨g, hg⟩ : ∃ g, g = wr.heap.size := ⟨_, rfl⟩
        go_wp2
        rw [← hg] at hk0 hne hgs ⊢
        clear hg
        go_loopw [6] (fun v6 wi => ∃ (k : Nat) (e : Ev), k ≤ 5 ∧ v6 = .int .i64 k ∧ blk wi g [.int .i64 e.r, .int .i64 e.n, .int .i64 e.c.x0, .int .i64 e.c.x1, .int .i64 e.c.x2, .int .i64 e.c.x3, .int .i64 e.c.x4, .int .i64 e.h, .int .i64 e.k, .string e.key, .int .i64 e.lab, .string e.val] 31 ∧ evK.own 31 wi w.heap.size u3 p ∧ Below w.heap.size w wi) (fun v6 _ => 5 - (intOf v6).toNat)
        case atStart => exact ⟨0, x, by omega, rfl, hk0, ho0, hB0⟩
        case round =>
          clear hk0 ho0 hB0
          obtain ⟨k, e, hk, rfl, hbk, hoi, hBi⟩ := hrel
          by_cases hk5 : k < 5
          · have hcg := hbk.cell (2 + k)
            rw [ev_cget e k hk5] at hcg
            have fg := hbk.free (2 + k)
            have hkd : decide ((k : Int) < 5) = true := decide_eq_true (by omega)
            go_wp2
            go_roundw
            case measure => simp [intOf]; omega
            case rel => exact ⟨k + 1, e.upC k _, by omega, by go_num, blk_upC hbk hk5 _, hoi.set_ne (a := ⟨g, 2 + k, none⟩) (Ne.symm hne) _, hBi.setCell (p := ⟨g, 2 + k, none⟩) hgs _⟩
          · obtain rfl : k = 5 := by omega
            have ce := hbk.cell
            have lte := hbk.lt
            have ho2 := hoi.alloc (Obj.cells #[.int .i64 e.r, .int .i64 e.n, .int .i64 e.c.x0, .int .i64 e.c.x1, .int .i64 e.c.x2, .int .i64 e.c.x3, .int .i64 e.c.x4, .int .i64 e.h, .int .i64 e.k, .string e.key, .int .i64 e.lab, .string e.val] 31)
            have hsz := hBi.size
            have HLN := Lib.hid (show p.length + 1 ≤ 1000000 by omega)
            have hbs : w.heap.size ≤ (wr.alloc (Obj.cells #[.int .i64 e.r, .int .i64 e.n, .int .i64 e.c.x0, .int .i64 e.c.x1, .int .i64 e.c.x2, .int .i64 e.c.x3, .int .i64 e.c.x4, .int .i64 e.h, .int .i64 e.k, .string e.key, .int .i64 e.lab, .string e.val] 31)).heap.size := by simp; omega
            go_wp2_with (first | (at_builtin; refine wpL_app1 evK _ rfl _ _ _ rfl w.heap.size 31 112 _ Try.underlying24 infoEv rfl u3 p rfl ho2 wr.heap.size e rfl (blk_new wr [.int .i64 e.r, .int .i64 e.n, .int .i64 e.c.x0, .int .i64 e.c.x1, .int .i64 e.c.x2, .int .i64 e.c.x3, .int .i64 e.c.x4, .int .i64 e.h, .int .i64 e.k, .string e.key, .int .i64 e.lab, .string e.val] 31) HLN.out (by decide) hbs ?_; intro v9 w5 ho5 hg5))
            go_roundw
            case measure => simp [intOf]; omega
            case rel => exact ⟨i + 1, p ++ [e], by omega, by omega, by go_num, by simp; omega, ho5, (hBi.alloc hsz _).grown hg5 hbs ho2.base_le⟩
      · go_wp2
        go_ret
        exact ⟨_, p, rfl, by omega, ho, hB⟩
    · go_wp2
      go_ret
      exact ⟨_, p, rfl, by omega, ho, hB⟩
end Go.Proofs.Ytlfhjlkhhaoicaa
