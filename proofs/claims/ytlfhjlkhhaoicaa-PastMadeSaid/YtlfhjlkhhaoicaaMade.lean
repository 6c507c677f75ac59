/- The walk of the reference's Make: whatever the choices, what is made is a past. -/
import Derived.Test.YtlfhjlkhhaoicaaMadeL
namespace Go.Proofs.Ytlfhjlkhhaoicaa
set_option linter.unusedVariables false
set_option linter.unusedSimpArgs false
open Go.RowKit
attribute [local go_sem ↓] Go.wp_at_zero Go.wp_at_succ
attribute [local go_sem] ck_get ck_get? q_le0 q_le1 q_le2 q_le3 q_le4 q_le5 q_lt1 q_lt2 q_lt3 q_lt4 q_lt5

set_option maxRecDepth 100000 in
set_option maxHeartbeats 2000000 in
theorem make_any (A : Option Addr) (ca : Nat) (l : List Ch) (w : World) (hl : chK.row w A l) (hn : l.length ≤ 40) (hwf : ∀ c ∈ l, c.wf) :
    Calls Try.prog 23 #[.slice A l.length ca] w fun e w' => ∃ v p, e = .returned v ∧ Past p ∧ p.length ≤ 40 ∧ evK.own 31 w' w.heap.size v p ∧ Below w.heap.size w w' := by
  generalize hnn : l.length = n at *
  have HN := Lib.hid hnn
  have HW := Lib.hid hwf
  clear hnn hwf
  have hb2 := blk_at (w := w.alloc (Obj.cells #[] 31)) (b := w.heap.size + 1) (by simp) Z25 72
  go_enter Try.func23, Try.ntmps23
  go_wp2_with (first | (refine wpL_build25 ?_) | (refine wpL_store25 (w.heap.size + 1) rfl rfl hb2 ?_))
  clear hb2
  go_loopw [3, 5] (fun v3 v5 wr => ∃ (k : Nat) (p : List Ev) (H : Nat → Ck), k ≤ n ∧ v5 = .int .i64 k ∧ MkSt w wr v3 k p H) (fun _ i _ => n - (intOf i).toNat)
  case atStart => 
    refine ⟨0, [], fun _ => Ck.zero, by omega, rfl, PInv.start, by simp, ?_, ?_, ?_⟩
    · have ho0 : evK.own 31 (w.alloc (Obj.cells #[] 31)) w.heap.size (.slice (some ⟨w.heap.size, 0, none⟩) 0 0) [] := World.ownsRow_lit w #[] 0 (Nat.le_refl _) (by decide) rfl
      exact ho0.alloc _
    · rw [haveL0]
      exact blk_at (by simp) _ _
    · exact ((Below.refl _ _).alloc (Nat.le_refl _) _).alloc (by simp) _
  case round =>
    obtain ⟨k, p, H, hk, rfl, hI, hpk, ho, hh, hB⟩ := hrel
    have hlt1 := hh.lt
    by_cases hlt : k < n
    · obtain ⟨c, hc⟩ : ∃ c, l[k]? = some c := ⟨_, List.getElem?_eq_getElem (by rw [HN.out]; exact hlt)⟩
      obtain ⟨b, off, rfl, hb, hat⟩ := hl.get hc
      have hatr := hat.below hB hb
      obtain ⟨c0, c1, c2, c3, c4, c5, c6⟩ := chAt_get hatr hc
      have hcw := HW.out c (List.mem_of_getElem? hc)
      obtain ⟨r0, r1⟩ := hcw.r
      obtain ⟨f0, f1⟩ := hcw.f
      obtain ⟨q, hq, hq5⟩ : ∃ q : Nat, c.r % 5 = q ∧ q < 5 := ⟨(c.r % 5).toNat, by omega, by omega⟩
      have hqt : c.r.tmod 5 = q := by rw [Int.tmod_eq_emod_of_nonneg (by omega)]; exact hq
      have hq0 : (0 : Int) ≤ (q : Int) := by omega
      have hqi : (q : Int) < 5 := by omega
      have HI := Lib.hid hI
      clear hI hc
      cases hs : c.sync with
      | true =>
        rw [hs] at c2
        obtain ⟨g, hg, hg5⟩ : ∃ g : Nat, c.f % 5 = g ∧ g < 5 := ⟨(c.f % 5).toNat, by omega, by omega⟩
        have hgt : c.f.tmod 5 = g := by rw [Int.tmod_eq_emod_of_nonneg (by omega)]; exact hg
        have hg0 : (0 : Int) ≤ (g : Int) := by omega
        have hgi : (g : Int) < 5 := by omega
        have hcv : IntKind.i64.wrap c.f = c.f := IntWalk.i64_in _ (by omega)
        obtain ⟨a0, a1, a2, a3, a4⟩ := have_cells hh hq5
        obtain ⟨b0, b1, b2, b3, b4⟩ := have_cells hh hg5
        have hfr := hh.free
        go_wp2
        go_region_with (first | (go_at_call 47; refine (refJoin_any (H q) (H g) _).mono ?_; rintro e3 w5 ⟨rfl, hb3⟩; have hh5 := hh.drew.below hb3 hlt1; have hfr5 := hh5.free; have hz5 := hb3.size; obtain ⟨x0, x1, x2, x3, x4⟩ := have_cells hh5 hq5))
        all_goals go_wp2
        all_goals go_roundw
        all_goals first
          | (show _ < _; simp [intOf]; omega)
          | (have hne := ho.ne_blk hh (by decide)
             have hoB := ho.drew.below hb3 (Nat.le_refl _)
             refine ⟨k + 1, p, upd H q (joinC (H q) (H g)), by omega, by go_num, HI.out.sync hq5 hg5, by omega, ?_, have_row hh5 hq5 _, ?_⟩
             · exact ((((hoB.set_ne (Ne.symm hne) _).set_ne (Ne.symm hne) _).set_ne (Ne.symm hne) _).set_ne (Ne.symm hne) _).set_ne (Ne.symm hne) _
             · exact (((((hB.drew.trans (hb3.mono (by first | omega | (simp; done) | (simp; omega)))).setCell (by first | omega | (simp; done) | (simp; omega)) _).setCell (by first | omega | (simp; done) | (simp; omega)) _).setCell (by first | omega | (simp; done) | (simp; omega)) _).setCell (by first | omega | (simp; done) | (simp; omega)) _).setCell (by first | omega | (simp; done) | (simp; omega)) _)
          | trace_state
      | false =>
        rw [hs] at c2
        obtain ⟨A3, c3', rfl, hrow, hcc, _⟩ := ho.form
        go_wp2_with fail
        refine (fit_any c.k c.key c.lab c.val _ hcw.key hcw.val hcw.k).mono ?_
        rintro e w1 ⟨k', key', lab', val', rfl, hed, hb1⟩
        have HED := Lib.hid hed
        have hh1 := (hh.below hb1 hlt1).alloc (Obj.cells #[.int .i64 k', .string key', .int .i64 lab', .string val'] 74)
        have ho1 := (ho.below hb1 (Nat.le_refl _)).alloc (Obj.cells #[.int .i64 k', .string key', .int .i64 lab', .string val'] 74)
        have hB1 := (hB.trans (hb1.mono hB.size)).alloc (by have := hB.size; have := hb1.size; omega) (Obj.cells #[.int .i64 k', .string key', .int .i64 lab', .string val'] 74)
        have hx := blk_new w1 [.int .i64 k', .string key', .int .i64 lab', .string val'] 74
        have hsz1 := hb1.size
        have hfew := HI.out.few hq5 hq5
        have hnn := HI.out.nn q hq5 q hq5
        have hs1 : IntKind.i64.wrap ((H q).get q + 1) = (H q).get q + 1 := IntWalk.i64_in _ (by omega)
        have hhb : ∀ e ∈ p, 0 ≤ e.h ∧ e.h ≤ 100000000 := fun e he => by have := (HI.out.past.may e he).h1; have := (HI.out.past.may e he).hm; omega
        have HHB := Lib.hid hhb
        clear hhb hed
        have hrow2 := (hrow.below hb1 (Nat.le_refl _)).below ((Below.refl _ w1).alloc (Nat.le_refl _) (Obj.cells #[.int .i64 k', .string key', .int .i64 lab', .string val'] 74)) (Nat.le_refl _)
        clear hb1
        go_wp2
        generalize hw2 : w1.alloc (Obj.cells #[.int .i64 k', .string key', .int .i64 lab', .string val'] 74) = w2 at *
        have hrow3 := hrow2.below (Below.refl w2.heap.size w2).drew (Nat.le_refl _)
        have hlt2 := hh1.lt
        have hltx := hx.lt
        have hp1 : p.length ≤ 1000 := by omega
        have HP := Lib.hid (show p.length + 1 ≤ 1000000 by omega)
        have hne1 := ho1.ne_blk hh1 (by decide)
        have hne2 := ho1.ne_blk hx (by decide)
        clear hw2 hrow hrow2
        first | (go_region_held3 (fun w' => (w'.cell? ⟨w.heap.size + 1, q * 5, none⟩ = some (.int .i64 (H q).x0) ∧ w'.cell? ⟨w.heap.size + 1, q * 5 + 1, none⟩ = some (.int .i64 (H q).x1) ∧ w'.cell? ⟨w.heap.size + 1, q * 5 + 2, none⟩ = some (.int .i64 (H q).x2) ∧ w'.cell? ⟨w.heap.size + 1, q * 5 + 3, none⟩ = some (.int .i64 (H q).x3) ∧ w'.cell? ⟨w.heap.size + 1, q * 5 + 4, none⟩ = some (.int .i64 (H q).x4)) ∧ w'.cell? ⟨w.heap.size + 1, q * 5 + q, none⟩ = some (.int .i64 ((H q).get q)) ∧ (w'.cell? ⟨w1.heap.size, 0, none⟩ = some (.int .i64 k') ∧ w'.cell? ⟨w1.heap.size, 1, none⟩ = some (.string key') ∧ w'.cell? ⟨w1.heap.size, 2, none⟩ = some (.int .i64 lab') ∧ w'.cell? ⟨w1.heap.size, 3, none⟩ = some (.string val')) ∧ w2.heap.size ≤ w'.heap.size)
          (first | with_reducible exact mk_keep hh7 hx7 hq5 hn7 | with_reducible exact mk_keep (hh5.alloc _) (hx5.alloc _) hq5 (by simp; omega) | with_reducible exact mk_keep hh5 hx5 hq5 hn5 | with_reducible exact mk_keep hh1.drew hx.drew hq5 (Nat.le_refl _))
          (first
            | (go_at_call 49; refine (refHeight_any A3 c3' p (H q) _ hrow3 hp1 HHB.out).mono ?_; rintro e3 w5 ⟨h, rfl, hih, hb3⟩; have HIH := Lib.hid hih; clear hih; have hh5 := hh1.drew.below hb3 hlt2; have hx5 := hx.drew.below hb3 hltx; have hn5 : w2.heap.size ≤ w5.heap.size := hb3.size; have ho5 := (ho1.drew.below hb3 (Nat.le_refl _)).alloc (Obj.cells (#[.int .i64 ((⟨q, (H q).get q + 1, H q, h, k', key', lab', val'⟩ : Ev)).r, .int .i64 ((⟨q, (H q).get q + 1, H q, h, k', key', lab', val'⟩ : Ev)).n, .int .i64 ((⟨q, (H q).get q + 1, H q, h, k', key', lab', val'⟩ : Ev)).c.x0, .int .i64 ((⟨q, (H q).get q + 1, H q, h, k', key', lab', val'⟩ : Ev)).c.x1, .int .i64 ((⟨q, (H q).get q + 1, H q, h, k', key', lab', val'⟩ : Ev)).c.x2, .int .i64 ((⟨q, (H q).get q + 1, H q, h, k', key', lab', val'⟩ : Ev)).c.x3, .int .i64 ((⟨q, (H q).get q + 1, H q, h, k', key', lab', val'⟩ : Ev)).c.x4, .int .i64 ((⟨q, (H q).get q + 1, H q, h, k', key', lab', val'⟩ : Ev)).h, .int .i64 ((⟨q, (H q).get q + 1, H q, h, k', key', lab', val'⟩ : Ev)).k, .string ((⟨q, (H q).get q + 1, H q, h, k', key', lab', val'⟩ : Ev)).key, .int .i64 ((⟨q, (H q).get q + 1, H q, h, k', key', lab', val'⟩ : Ev)).lab, .string ((⟨q, (H q).get q + 1, H q, h, k', key', lab', val'⟩ : Ev)).val]) 31))
            | (refine step_appr evK _ (by rfl) _ _ _ (by rfl) w.heap.size 31 112 _ Try.underlying24 infoEv (by rfl) _ p (by rfl) ho5 (some ⟨w5.heap.size, 0, none⟩) 1 [(⟨q, (H q).get q + 1, H q, h, k', key', lab', val'⟩ : Ev)] (by rfl) (Kn.row_of (l := [(⟨q, (H q).get q + 1, H q, h, k', key', lab', val'⟩ : Ev)]) (blk_new w5 (evK.enc ⟨q, (H q).get q + 1, H q, h, k', key', lab', val'⟩) 31)) HP.out (by decide) (by simp; have := hB.size; omega) ?_
               intro v7 w7 ho7 hg7
               have hh7 := (hh5.alloc _).grown hg7 hne1
               have hx7 := (hx5.alloc _).grown hg7 hne2
               have hn7 : w2.heap.size ≤ w7.heap.size := Nat.le_trans hn5 (Nat.le_trans (by simp) hg7.size)))) | fail
        have aq7 := (hh7.cell (q * 5 + q)).trans (haveL_get H hq5 hq5)
        have fr7 := hh7.free
        have hlt7 := hh7.lt
        have hB7 : Below w.heap.size w w7 := ((hB1.drew.trans (hb3.mono (show w.heap.size ≤ w2.drew.heap.size from hB1.size))).alloc (Nat.le_trans hB1.size hn5) (Obj.cells (#[.int .i64 ((⟨q, (H q).get q + 1, H q, h, k', key', lab', val'⟩ : Ev)).r, .int .i64 ((⟨q, (H q).get q + 1, H q, h, k', key', lab', val'⟩ : Ev)).n, .int .i64 ((⟨q, (H q).get q + 1, H q, h, k', key', lab', val'⟩ : Ev)).c.x0, .int .i64 ((⟨q, (H q).get q + 1, H q, h, k', key', lab', val'⟩ : Ev)).c.x1, .int .i64 ((⟨q, (H q).get q + 1, H q, h, k', key', lab', val'⟩ : Ev)).c.x2, .int .i64 ((⟨q, (H q).get q + 1, H q, h, k', key', lab', val'⟩ : Ev)).c.x3, .int .i64 ((⟨q, (H q).get q + 1, H q, h, k', key', lab', val'⟩ : Ev)).c.x4, .int .i64 ((⟨q, (H q).get q + 1, H q, h, k', key', lab', val'⟩ : Ev)).h, .int .i64 ((⟨q, (H q).get q + 1, H q, h, k', key', lab', val'⟩ : Ev)).k, .string ((⟨q, (H q).get q + 1, H q, h, k', key', lab', val'⟩ : Ev)).key, .int .i64 ((⟨q, (H q).get q + 1, H q, h, k', key', lab', val'⟩ : Ev)).lab, .string ((⟨q, (H q).get q + 1, H q, h, k', key', lab', val'⟩ : Ev)).val]) 31)).grown hg7 (Nat.le_trans (Nat.le_trans hB1.size hn5) (by simp)) ho5.base_le
        have hed' : Ev.ed ⟨q, (H q).get q + 1, H q, h, k', key', lab', val'⟩ := HED.out
        have HPI := Lib.hid (HI.out.edit hq5 (e := ⟨q, (H q).get q + 1, H q, h, k', key', lab', val'⟩) rfl rfl rfl HIH.out hed' hp1)
        have hne7 := ho7.ne_blk hh7 (by decide)
        clear hh5 hx5 ho5 hx7 hg7 hb3 hed'
        go_wp2
        go_region
        all_goals go_wp2
        all_goals go_roundw
        all_goals first
          | (show _ < _; simp [intOf]; omega)
          | exact ⟨k + 1, p ++ [⟨q, (H q).get q + 1, H q, h, k', key', lab', val'⟩], _, by omega, by go_num, HPI.out, by simp; omega, (ho7.set_ne (Ne.symm hne7) _).drew, (have_set hh7 hq5 hq5 _).drew, (hB7.setCell (by first | omega | (simp; done) | (simp; omega)) _).drew⟩
          | trace_state
    · obtain rfl : k = n := by omega
      go_wp2
      go_ret
      exact ⟨_, p, rfl, hI.past, by omega, ho, hB⟩
end Go.Proofs.Ytlfhjlkhhaoicaa
