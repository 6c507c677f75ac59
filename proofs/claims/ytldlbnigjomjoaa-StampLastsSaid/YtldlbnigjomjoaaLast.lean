/- The walk of stamp.Last. -/
import Derived.Test.YtldlbnigjomjoaaStamp
namespace Go.Proofs.Ytldlbnigjomjoaa
set_option linter.unusedVariables false
set_option linter.unusedSimpArgs false
open Go.RowKit
attribute [local go_sem] q_le0 q_le1 q_le2 q_le3 q_lt1 q_lt2 q_lt3

theorem getD_of {l : List St} {k : Nat} {e : St} (h : l[k]? = some e) : l.getD k St.zero = e := by simp [List.getD, h]
set_option maxRecDepth 100000 in
set_option maxHeartbeats 1000000 in
theorem last_any (A : Option Addr) (ca : Nat) (l : List St) (w : World) (hl : stK.row w A l) (hm : l.length ≤ maxLen) :
    Calls Try.prog 11 #[.slice A l.length ca] w fun e w' => e = .returned (.int .i64 (lastI l)) ∧ Below w.heap.size w w' := by
  unfold maxLen at hm
  generalize hn : l.length = n at *
  have HN := Lib.hid hn
  clear hn
  go_enter Try.func11, Try.ntmps11
  go_wp2
  go_loopg [3, 8] (n + 1) (fun f v3 v8 wr => ∃ k : Nat, k ≤ n ∧ n - k + 1 ≤ f ∧ v8 = .int .i64 k ∧ v3 = .int .i64 (lastTo l k) ∧ Below w.heap.size w wr)
  case atStart => exact ⟨0, by omega, by omega, rfl, rfl, Below.refl _ _⟩
  case round =>
    obtain ⟨k, hk, hf, rfl, rfl, hB⟩ := hrel
    obtain ⟨f, rfl⟩ : ∃ f, gk = f + 1 := ⟨gk - 1, by omega⟩
    by_cases hlt : k < n
    · obtain ⟨e, he⟩ : ∃ e, l[k]? = some e := ⟨_, List.getElem?_eq_getElem (by rw [HN.out]; exact hlt)⟩
      obtain ⟨b, off, rfl, hb, hat⟩ := hl.get he
      have hatr := hat.below hB hb
      obtain ⟨c0, c1⟩ := stAt_get hatr he
      have hbr : b < wr.heap.size := by have := hB.size; omega
      have HE := Lib.hid (getD_of he)
      have hs : lastTo l (k + 1) = if lastTo l k < 0 ∨ lessS (l.getD (lastTo l k).toNat St.zero) (l.getD k St.zero) = true then (k : Int) else lastTo l k := rfl
      have HS := Lib.hid hs
      have hL := lastTo_at l k
      clear hs he
      rcases hL with ⟨h0, h1⟩ | ⟨j, hj, hA⟩
      · subst h0
        have H1 := Lib.hid h1
        rw [h1]
        simp only [Nat.zero_mul, Nat.add_zero] at c0 c1
        have hneg : (-1 : Int) < 0 := by omega
        clear h1
        go_wp2
        go_quiet (fail)
        go_wp2
        go_roundg f
        case measure => omega
        case rel => exact ⟨1, by omega, by omega, rfl, by rw [HS.out, if_pos (.inl (by rw [H1.out]; omega))], bdN (hB.alloc hB.size _) _⟩
      · have H1 := Lib.hid hj
        rw [hj]
        have hj0 : ¬ ((j : Int) < 0) := by omega
        have hjb : decide ((j : Int) < 0) = false := by simp
        have hjk := hA.1
        clear hj hA
        obtain ⟨x, hx⟩ : ∃ x, l[j]? = some x := ⟨_, List.getElem?_eq_getElem (by rw [HN.out]; omega)⟩
        obtain ⟨d0, d1⟩ := stAt_get hatr hx
        have HX := Lib.hid (getD_of hx)
        clear hx
        have hi0 : (0 : Int) ≤ (j : Int) := by omega
        have hi1 : (j : Int) < (n : Int) := by omega
        have hbb := (blk_new wr [Value.int .i64 e.h, .int .i64 e.r] 23).drew
        have kb := hbb.cell
        have d0' : ((wr.alloc (Obj.cells #[.int .i64 e.h, .int .i64 e.r] 23)).drew).cell? ⟨b, off + j * 2, none⟩ = some (.int .i64 x.h) := ((Below.refl wr.heap.size wr).alloc (Nat.le_refl _) _ |>.cell (p := ⟨b, off + j * 2, none⟩) hbr).trans d0
        have d1' : ((wr.alloc (Obj.cells #[.int .i64 e.h, .int .i64 e.r] 23)).drew).cell? ⟨b, off + j * 2 + 1, none⟩ = some (.int .i64 x.r) := ((Below.refl wr.heap.size wr).alloc (Nat.le_refl _) _ |>.cell (p := ⟨b, off + j * 2 + 1, none⟩) hbr).trans d1
        go_wp2
        cases hls : lessS x e with
        | true =>
          have HLS := Lib.hid hls
          clear hls
          go_region_held3 (fun w' => w'.cell? ⟨b, off + j * 2, none⟩ = some (.int .i64 x.h) ∧ w'.cell? ⟨b, off + j * 2 + 1, none⟩ = some (.int .i64 x.r) ∧ ∀ o, w'.cell? ⟨wr.heap.size, o, none⟩ = [Value.int .i64 e.h, .int .i64 e.r][o]?) (first | exact ⟨d0', d1', kb⟩ | exact ⟨(hb1.cell (p := ⟨b, _, none⟩) (by simp; omega)).trans d0', (hb1.cell (p := ⟨b, _, none⟩) (by simp; omega)).trans d1', (hbb.below hb1 (by simp)).cell⟩) (first | (go_at_call 9; refine (less_any x e _).mono ?_; rintro e1 w1 ⟨rfl, hb1⟩; rw [HLS.out]))
          go_wp2
          go_roundg f
          case measure => omega
          case rel => exact ⟨k + 1, by omega, by omega, by go_num, by rw [HS.out, H1.out, Int.toNat_natCast, HX.out, HE.out, if_pos (.inr HLS.out)], (hB.alloc hB.size _).drew.trans (hb1.mono (by have := hB.size; simp; omega))⟩
        | false =>
          have HLS := Lib.hid hls
          clear hls
          go_region_held3 (fun w' => w'.cell? ⟨b, off + j * 2, none⟩ = some (.int .i64 x.h) ∧ w'.cell? ⟨b, off + j * 2 + 1, none⟩ = some (.int .i64 x.r) ∧ ∀ o, w'.cell? ⟨wr.heap.size, o, none⟩ = [Value.int .i64 e.h, .int .i64 e.r][o]?) (first | exact ⟨d0', d1', kb⟩ | exact ⟨(hb1.cell (p := ⟨b, _, none⟩) (by simp; omega)).trans d0', (hb1.cell (p := ⟨b, _, none⟩) (by simp; omega)).trans d1', (hbb.below hb1 (by simp)).cell⟩) (first | (go_at_call 9; refine (less_any x e _).mono ?_; rintro e1 w1 ⟨rfl, hb1⟩; rw [HLS.out]))
          go_wp2
          go_roundg f
          case measure => omega
          case rel => exact ⟨k + 1, by omega, by omega, by go_num, by rw [HS.out, H1.out, Int.toNat_natCast, HX.out, HE.out, if_neg (by rw [HLS.out]; simp)], (hB.alloc hB.size _).drew.trans (hb1.mono (by have := hB.size; simp; omega))⟩
    · obtain rfl : k = n := by omega
      go_wp2
      go_ret
      exact ⟨ret_int (by unfold lastI; rw [HN.out]), hB⟩
end Go.Proofs.Ytldlbnigjomjoaa
