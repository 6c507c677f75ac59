/- The walk of kithlaw08.PastMore. -/
import Derived.Test.YtlfhjlkhhaoicaaPastMoreP
import Derived.Test.YtlfhjlkhhaoicaaOwnW
import Derived.Deep.CutRange
namespace Go.Proofs.Ytlfhjlkhhaoicaa
set_option linter.unusedVariables false
set_option linter.unusedSimpArgs false
open Go.RowKit
attribute [local go_sem] ck_get ck_get? q_le0 q_le1 q_le2 q_le3 q_le4 q_le5 q_lt1 q_lt2 q_lt3 q_lt4 q_lt5
attribute [local go_sem high] eqCk eqMk eqEv

set_option maxRecDepth 100000 in
set_option maxHeartbeats 4000000 in
theorem pastMore_any (A : Option Addr) (ca : Nat) (l : List Ch) (r : Nat) (w : World) (hl : chK.row w A l) (hc : l.length ≤ ca) (hm : ca ≤ maxLen) (hwf : ∀ c ∈ l, c.wf) (hr : r ≤ 255) :
    Calls Try.prog 9 #[.slice A l.length ca, .int .u8 r] w fun e w' => e = .returned (.bool true) ∧ Below w.heap.size w w' := by
  have H40 := Lib.hid (show min l.length 40 = (l.take 40).length by rw [List.length_take]; omega)
  have HL40 := Lib.hid (show (l.take 40).length ≤ 40 by rw [List.length_take]; omega)
  have HWF := Lib.hid (fun c (h : c ∈ l.take 40) => hwf c ((List.take_sublist _ _).subset h))
  have hl4 := hl.take 40
  clear hwf hl
  generalize l.take 40 = L4 at *
  obtain ⟨k, hkk, hk5⟩ : ∃ k, r % 5 = k ∧ k < 5 := ⟨_, rfl, Nat.mod_lt _ (by omega)⟩
  have hkod : ((r : Int) % 5) = (k : Int) := by omega
  have hkodt : ((r : Int).tmod 5) = (k : Int) := by rw [Int.tmod_eq_emod_of_nonneg (by omega)]; exact hkod
  clear hkk
  go_enter Try.func9, Try.ntmps9
  go_wp2_with fail
  refine (shown08_any _).mono ?_
  rintro e w1 ⟨rfl, hb1⟩
  have hl4' := hl4.below hb1 (Nat.le_refl _)
  go_wp2_with fail
  refine (short08_any A l.length ca _ hc hm).mono ?_
  rintro e w1' ⟨rfl, rfl⟩
  rw [H40.out]
  go_wp2_with fail
  refine (make_any A ca L4 _ hl4' HL40.out HWF.out).mono ?_
  rintro e w2 ⟨v, p, rfl, hP, hp40, hop, hb2⟩
  obtain ⟨A2, c2, rfl, hr2, hcc, _⟩ := hop.form
  have hB2 := hb1.trans (hb2.mono hb1.size)
  have HP := Lib.hid hP
  clear hP hl4' hl4 hb1 hb2 hop
  generalize hnn : p.length = n at *
  have HN := Lib.hid hnn
  clear hnn
  have hpc := pclock_any A2 c2 p _ hr2 (by rw [HN.out]; omega)
  rw [HN.out] at hpc
  go_wp2_with fail
  refine hpc.mono ?_
  rintro e w3 ⟨c, rfl, hcl, hb3⟩
  have HC := Lib.hid hcl
  have hgk := hcl.bd hk5
  rw [HN.out] at hgk
  have hB3 := (hB2.trans (hb3.mono hB2.size)).alloc (by have := hB2.size; have := hb3.size; omega) (Obj.cells #[.int .i64 c.x0, .int .i64 c.x1, .int .i64 c.x2, .int .i64 c.x3, .int .i64 c.x4] 23)
  have hr3 := (hr2.below hb3 (Nat.le_refl _)).alloc (Obj.cells #[.int .i64 c.x0, .int .i64 c.x1, .int .i64 c.x2, .int .i64 c.x3, .int .i64 c.x4] 23)
  have hz3 := blk_new w3 [Value.int .i64 c.x0, Value.int .i64 c.x1, Value.int .i64 c.x2, Value.int .i64 c.x3, Value.int .i64 c.x4] 23
  have hgs := hz3.lt
  have hgw : w.heap.size ≤ w3.heap.size := by have := hB2.size; have := hb3.size; omega
  clear hb3 hr2 hpc hcl hB2
  go_upto_region 5 with fail
  generalize w3.alloc (Obj.cells #[.int .i64 c.x0, .int .i64 c.x1, .int .i64 c.x2, .int .i64 c.x3, .int .i64 c.x4] 23) = W at *
  generalize w3.heap.size = g7 at *
  have hwk : IntKind.i64.wrap (c.get k + 1) = c.get k + 1 := IntWalk.i64_in _ (by omega)
  have hk0 : (0 : Int) ≤ (k : Int) := by omega
  have hk51 : (k : Int) < 5 := by omega
  have hht := fun wq (hq : evK.row wq A2 p) => height_any A2 c2 p c wq hq (by rw [HN.out]; omega) (fun e he => ⟨(HP.out.evOk e he).2.2.1, (HP.out.evOk e he).2.2.2⟩)
  simp only [HN.out] at hht
  have HHT := Lib.hid hht
  clear hht
  go_cut [9] (fun s9 wx => ∃ (g : Nat) (h : Int), s9 = .pointer (some ⟨g, 0, none⟩) ∧ Hid (isHeight p c h) ∧ W.heap.size ≤ g ∧ blk wx g ([.int .i64 (moreE k c h).r, .int .i64 (moreE k c h).n, .int .i64 (moreE k c h).c.x0, .int .i64 (moreE k c h).c.x1, .int .i64 (moreE k c h).c.x2, .int .i64 (moreE k c h).c.x3, .int .i64 (moreE k c h).c.x4, .int .i64 (moreE k c h).h, .int .i64 (moreE k c h).k, .string (moreE k c h).key, .int .i64 (moreE k c h).lab, .string (moreE k c h).val]) 31 ∧ Below W.heap.size W wx)
  case first =>
    go_loud (go_region_held3 (fun w' => (∀ o, w'.cell? ⟨g7, o, none⟩ = ([Value.int .i64 c.x0, Value.int .i64 c.x1, Value.int .i64 c.x2, Value.int .i64 c.x3, Value.int .i64 c.x4] : List Value)[o]?) ∧ Below W.heap.size W w')
      (first | with_reducible exact keepE hz3 (below_set12 hB5 (Nat.le_refl _)) | with_reducible exact keepE hz3 (Below.alloc hB5 hB5.size _) | with_reducible exact keepE hz3 hB5 | with_reducible assumption | (go_split_ands; with_reducible exact keepE hz3 (Below.alloc (by with_reducible assumption) (bsz (by with_reducible assumption)) _)) | with_reducible exact keepE hz3 (Below.refl _ _).drew)
      (first
        | (go_at_call 39; go_split_ands; refine (HHT.out _ (hr3.below (by assumption) (Nat.le_refl _))).mono ?_; rintro e5 w5 ⟨h, rfl, hh, hb5⟩; have hB5 : Below W.heap.size W w5 := Below.trans (by assumption) (hb5.mono (bsz (by assumption))); (try (have kz := (blk_at (w := W.drew) (b := W.heap.size) rfl [.int .i64 Ev.zero.r, .int .i64 Ev.zero.n, .int .i64 Ev.zero.c.x0, .int .i64 Ev.zero.c.x1, .int .i64 Ev.zero.c.x2, .int .i64 Ev.zero.c.x3, .int .i64 Ev.zero.c.x4, .int .i64 Ev.zero.h, .int .i64 Ev.zero.k, .string Ev.zero.key, .int .i64 Ev.zero.lab, .string Ev.zero.val] 31).below hb5 (by first | omega | (simp; done) | (simp; omega)))); (try (have cz0 := cell_at kz 0 rfl)); (try (have fz0 := kz.free 0)); (try (have cz1 := cell_at kz 1 rfl)); (try (have fz1 := kz.free 1)); (try (have cz2 := cell_at kz 2 rfl)); (try (have fz2 := kz.free 2)); (try (have cz3 := cell_at kz 3 rfl)); (try (have fz3 := kz.free 3)); (try (have cz4 := cell_at kz 4 rfl)); (try (have fz4 := kz.free 4)); (try (have cz5 := cell_at kz 5 rfl)); (try (have fz5 := kz.free 5)); (try (have cz6 := cell_at kz 6 rfl)); (try (have fz6 := kz.free 6)); (try (have cz7 := cell_at kz 7 rfl)); (try (have fz7 := kz.free 7)); (try (have cz8 := cell_at kz 8 rfl)); (try (have fz8 := kz.free 8)); (try (have cz9 := cell_at kz 9 rfl)); (try (have fz9 := kz.free 9)); (try (have cz10 := cell_at kz 10 rfl)); (try (have fz10 := kz.free 10)); (try (have cz11 := cell_at kz 11 rfl)); (try (have fz11 := kz.free 11)))))
    · have kz : blk (w5.alloc (Obj.cells #[.int .i64 (moreE k c h).r, .int .i64 (moreE k c h).n, .int .i64 (moreE k c h).c.x0, .int .i64 (moreE k c h).c.x1, .int .i64 (moreE k c h).c.x2, .int .i64 (moreE k c h).c.x3, .int .i64 (moreE k c h).c.x4, .int .i64 (moreE k c h).h, .int .i64 (moreE k c h).k, .string (moreE k c h).key, .int .i64 (moreE k c h).lab, .string (moreE k c h).val] 31)) w5.heap.size [.int .i64 (moreE k c h).r, .int .i64 (moreE k c h).n, .int .i64 (moreE k c h).c.x0, .int .i64 (moreE k c h).c.x1, .int .i64 (moreE k c h).c.x2, .int .i64 (moreE k c h).c.x3, .int .i64 (moreE k c h).c.x4, .int .i64 (moreE k c h).h, .int .i64 (moreE k c h).k, .string (moreE k c h).key, .int .i64 (moreE k c h).lab, .string (moreE k c h).val] 31 := blk_new w5 [.int .i64 (moreE k c h).r, .int .i64 (moreE k c h).n, .int .i64 (moreE k c h).c.x0, .int .i64 (moreE k c h).c.x1, .int .i64 (moreE k c h).c.x2, .int .i64 (moreE k c h).c.x3, .int .i64 (moreE k c h).c.x4, .int .i64 (moreE k c h).h, .int .i64 (moreE k c h).k, .string (moreE k c h).key, .int .i64 (moreE k c h).lab, .string (moreE k c h).val] 31
      have hB6 := hB5.alloc hB5.size (Obj.cells #[.int .i64 (moreE k c h).r, .int .i64 (moreE k c h).n, .int .i64 (moreE k c h).c.x0, .int .i64 (moreE k c h).c.x1, .int .i64 (moreE k c h).c.x2, .int .i64 (moreE k c h).c.x3, .int .i64 (moreE k c h).c.x4, .int .i64 (moreE k c h).h, .int .i64 (moreE k c h).k, .string (moreE k c h).key, .int .i64 (moreE k c h).lab, .string (moreE k c h).val] 31)
      go_wp2_with fail
      go_meet
      exact ⟨w5.heap.size, h, rfl, hh, hB5.size, kz, hB6⟩
    · have kzz := blk_set12 (v0 := .int .i64 (moreE k c h).r) (v1 := .int .i64 (moreE k c h).n) (v2 := .int .i64 (moreE k c h).c.x0) (v3 := .int .i64 (moreE k c h).c.x1) (v4 := .int .i64 (moreE k c h).c.x2) (v5 := .int .i64 (moreE k c h).c.x3) (v6 := .int .i64 (moreE k c h).c.x4) (v7 := .int .i64 (moreE k c h).h) (v8 := .int .i64 (moreE k c h).k) (v9 := .string (moreE k c h).key) (v10 := .int .i64 (moreE k c h).lab) (v11 := .string (moreE k c h).val) kz
      have hB6 := below_set12 (v0 := .int .i64 (moreE k c h).r) (v1 := .int .i64 (moreE k c h).n) (v2 := .int .i64 (moreE k c h).c.x0) (v3 := .int .i64 (moreE k c h).c.x1) (v4 := .int .i64 (moreE k c h).c.x2) (v5 := .int .i64 (moreE k c h).c.x3) (v6 := .int .i64 (moreE k c h).c.x4) (v7 := .int .i64 (moreE k c h).h) (v8 := .int .i64 (moreE k c h).k) (v9 := .string (moreE k c h).key) (v10 := .int .i64 (moreE k c h).lab) (v11 := .string (moreE k c h).val) hB5 (Nat.le_refl W.heap.size)
      go_wp2_with fail
      go_meet
      exact ⟨W.heap.size, h, rfl, hh, Nat.le_refl _, kzz, hB6⟩
  case rest =>
    have hBV := hB3
    have hBT := hB3
    obtain ⟨g, h, rfl, HH, hWg, he, hBx⟩ := hcut
    generalize wc = W1 at *
    have hMO := more_ok HP.out HC.out hk5 HH.out (by rw [HN.out]; exact hp40)
    have HMO := Lib.hid hMO
    have hhh := hMO.hh
    have hM0 : (moreE k c h).h = h := rfl
    generalize hmm : moreE k c h = e at *
    have hz1 := hz3.below hBx hgs
    have hr1 := hr3.below hBx (Nat.le_refl _)
    have hB1 := hB3.trans (hBx.mono hB3.size)
    have hg1 := he.lt
    have hwg : w.heap.size ≤ g := by have := hB3.size; omega
    have hwW : w.heap.size ≤ W.heap.size := hB3.size
    have hg7 : g7 < W1.heap.size := hz1.lt
    have HBD := Lib.hid (show p.length + 1 ≤ 1000000 by rw [HN.out]; omega)
    obtain ⟨R, hR⟩ : ∃ R, R = p ++ [e] := ⟨_, rfl⟩
    have HRE := Lib.hid hR
    have HRL := Lib.hid (show R.length ≤ 1000 by rw [hR, List.length_append, HN.out]; simp; omega)
    obtain ⟨U, hU⟩ : ∃ U, U = p ++ [e.up] := ⟨_, rfl⟩
    have HUE := Lib.hid hU
    have HUL := Lib.hid (show U.length ≤ 1000 by rw [hU, List.length_append, HN.out]; simp; omega)
    have hrW := hr3
    have hzW := hz3
    have hBW := hBx
    have hgW := hgs
    clear hR hU hMO hr3 hz3 hBx HH hgs HHT hM0 hmm
    clear hB3 
    have hB3 := hBV
    go_upto_region 6 with fail
    go_cut [10] (fun s10 wx => ∃ (A7 : Option Addr) (c7 : Nat), s10 = .slice A7 R.length c7 ∧ evK.own 31 wx W1.heap.size s10 R ∧ Below W1.heap.size W1 wx)
    case first =>
      have hoa : evK.own 31 (W1.drew.alloc (Obj.cells #[] 31)) W1.heap.size (.slice (some ⟨W1.heap.size, 0, none⟩) 0 0) [] := World.ownsRow_lit W1.drew #[] 0 (Nat.le_refl _) (by decide) rfl
      have hob := hoa.alloc (Obj.cells #[.int .i64 e.r, .int .i64 e.n, .int .i64 e.c.x0, .int .i64 e.c.x1, .int .i64 e.c.x2, .int .i64 e.c.x3, .int .i64 e.c.x4, .int .i64 e.h, .int .i64 e.k, .string e.key, .int .i64 e.lab, .string e.val] 31)
      have hoc : evK.own 31 ((W1.drew.alloc (Obj.cells #[.int .i64 e.r, .int .i64 e.n, .int .i64 e.c.x0, .int .i64 e.c.x1, .int .i64 e.c.x2, .int .i64 e.c.x3, .int .i64 e.c.x4, .int .i64 e.h, .int .i64 e.k, .string e.key, .int .i64 e.lab, .string e.val] 31)).alloc (Obj.cells #[] 31)) W1.heap.size (.slice (some ⟨W1.heap.size + 1, 0, none⟩) 0 0) [] := own_lit1 W1.drew _
      first | (go_region_held3 (fun w' => (∀ o, w'.cell? ⟨g, o, none⟩ = ([.int .i64 e.r, .int .i64 e.n, .int .i64 e.c.x0, .int .i64 e.c.x1, .int .i64 e.c.x2, .int .i64 e.c.x3, .int .i64 e.c.x4, .int .i64 e.h, .int .i64 e.k, .string e.key, .int .i64 e.lab, .string e.val] : List Value)[o]?) ∧ Below W1.heap.size W1 w')
        (first | with_reducible exact keepE he hB9 | with_reducible exact keepE he hB7 | with_reducible exact keepE he hB5 | with_reducible assumption | (go_split_ands; with_reducible exact keepE he (Below.alloc (by with_reducible assumption) (bsz (by with_reducible assumption)) _)) | with_reducible exact keepE he (Below.refl _ _).drew)
        (first
          | (go_split_ands; (refine step_appr evK _ (by rfl) _ _ _ (by rfl) W1.heap.size 31 112 _ Try.underlying24 infoEv (by rfl) _ [] (by rfl) hoa A2 c2 p (by rw [HN.out]; rfl) (hr1.below (by assumption) (Nat.le_refl _)) (by have := HBD.out; simp; omega) (by decide) (by simp <;> omega) ?_); intro v5 w5 ho5 hg5; have hB5 : Below W1.heap.size W1 w5 := Below.grown (by assumption) hg5 (bsz (by assumption)) hoa.base_le; rw [List.nil_append] at ho5)
          | (go_split_ands; (refine step_appr evK _ (by rfl) _ _ _ (by rfl) W1.heap.size 31 112 _ Try.underlying24 infoEv (by rfl) _ [] (by rfl) hob A2 c2 p (by rw [HN.out]; rfl) (hr1.below (by assumption) (Nat.le_refl _)) (by have := HBD.out; simp; omega) (by decide) (by simp <;> omega) ?_); intro v5 w5 ho5 hg5; have hB5 : Below W1.heap.size W1 w5 := Below.grown (by assumption) hg5 (bsz (by assumption)) hob.base_le; rw [List.nil_append] at ho5; have he5 := (blk_at (w := W1.drew.alloc (Obj.cells #[] 31)) (b := W1.heap.size + 1) (by simp) [.int .i64 e.r, .int .i64 e.n, .int .i64 e.c.x0, .int .i64 e.c.x1, .int .i64 e.c.x2, .int .i64 e.c.x3, .int .i64 e.c.x4, .int .i64 e.h, .int .i64 e.k, .string e.key, .int .i64 e.lab, .string e.val] 31).grown hg5 (by simp [Value.ownBlock]))
          | (go_split_ands; (refine step_appr evK _ (by rfl) _ _ _ (by rfl) W1.heap.size 31 112 _ Try.underlying24 infoEv (by rfl) _ [] (by rfl) hoc A2 c2 p (by rw [HN.out]; rfl) (hr1.below (by assumption) (Nat.le_refl _)) (by have := HBD.out; simp; omega) (by decide) (by simp <;> omega) ?_); intro v5 w5 ho5 hg5; have hB5 : Below W1.heap.size W1 w5 := Below.grown (by assumption) hg5 (bsz (by assumption)) hoc.base_le; rw [List.nil_append] at ho5; have he5 := ((blk_at (w := W1.drew) (b := W1.heap.size) rfl [.int .i64 e.r, .int .i64 e.n, .int .i64 e.c.x0, .int .i64 e.c.x1, .int .i64 e.c.x2, .int .i64 e.c.x3, .int .i64 e.c.x4, .int .i64 e.h, .int .i64 e.k, .string e.key, .int .i64 e.lab, .string e.val] 31).alloc (Obj.cells #[] 31)).grown hg5 (by simp [Value.ownBlock]))
          | (go_split_ands; (refine step_appr evK _ (by rfl) _ _ _ (by rfl) W1.heap.size 31 112 _ Try.underlying24 infoEv (by rfl) _ p (by rfl) (ho5.alloc (Obj.cells #[.int .i64 e.r, .int .i64 e.n, .int .i64 e.c.x0, .int .i64 e.c.x1, .int .i64 e.c.x2, .int .i64 e.c.x3, .int .i64 e.c.x4, .int .i64 e.h, .int .i64 e.k, .string e.key, .int .i64 e.lab, .string e.val] 31)) (some ⟨w5.heap.size, 0, none⟩) 1 [e] (by rfl) (row_oneA rfl) (by have := HBD.out; simp; omega) (by decide) (by have := hB5.size; simp; omega) ?_); intro v7 w7 ho7 hg7; have hB7 : Below W1.heap.size W1 w7 := (hB5.alloc hB5.size _).grown hg7 (by have := hB5.size; simp; omega) (ho5.alloc (Obj.cells #[.int .i64 e.r, .int .i64 e.n, .int .i64 e.c.x0, .int .i64 e.c.x1, .int .i64 e.c.x2, .int .i64 e.c.x3, .int .i64 e.c.x4, .int .i64 e.h, .int .i64 e.k, .string e.key, .int .i64 e.lab, .string e.val] 31)).base_le; rw [← HRE.out] at ho7; obtain ⟨A7, c7, rfl, hr7, hc7, _⟩ := id ho7.form)
          | (go_split_ands; (refine step_appr evK _ (by rfl) _ _ _ (by rfl) W1.heap.size 31 112 _ Try.underlying24 infoEv (by rfl) _ p (by rfl) ho5 (some ⟨_, 0, none⟩) 1 [e] (by rfl) (Kn.row_of (l := [e]) he5) (by have := HBD.out; simp; omega) (by decide) hB5.size ?_); intro v7 w7 ho7 hg7; have hB7 : Below W1.heap.size W1 w7 := hB5.grown hg7 hB5.size ho5.base_le; rw [← HRE.out] at ho7; obtain ⟨A7, c7, rfl, hr7, hc7, _⟩ := id ho7.form)
          )) | fail
      all_goals go_wp2_with fail
      all_goals go_meet
      all_goals exact ⟨A7, c7, rfl, ho7, hB7⟩
    case rest =>
      obtain ⟨A7, c7, rfl, ho7, hB7⟩ := hcut
      generalize wc = W2 at *
      have hz2 := hz1.below hB7 hg7
      have he2 := he.below hB7 hg1
      have hr2 := hr1.below hB7 (Nat.le_refl _)
      have hg72 : g7 < W2.heap.size := hz2.lt
      have hg12 : g < W2.heap.size := he2.lt
      have cz2 := hz2.cell
      have hs2 := hB7.size
      clear hz1 he hr1
      go_upto_region 8 with fail
      have hz3 := hz2.alloc (Obj.cells #[.int .i64 c.x0, .int .i64 c.x1, .int .i64 c.x2, .int .i64 c.x3, .int .i64 c.x4] 23)
      have he3 := he2.alloc (Obj.cells #[.int .i64 c.x0, .int .i64 c.x1, .int .i64 c.x2, .int .i64 c.x3, .int .i64 c.x4] 23)
      have hr3 := hr2.alloc (Obj.cells #[.int .i64 c.x0, .int .i64 c.x1, .int .i64 c.x2, .int .i64 c.x3, .int .i64 c.x4] 23)
      have hd3 := blk_new W2 [Value.int .i64 c.x0, Value.int .i64 c.x1, Value.int .i64 c.x2, Value.int .i64 c.x3, Value.int .i64 c.x4] 23
      have ho3 := ho7.alloc (Obj.cells #[.int .i64 c.x0, .int .i64 c.x1, .int .i64 c.x2, .int .i64 c.x3, .int .i64 c.x4] 23)
      have hB3 := hB7.alloc hs2 (Obj.cells #[.int .i64 c.x0, .int .i64 c.x1, .int .i64 c.x2, .int .i64 c.x3, .int .i64 c.x4] 23)
      have hoN := ho7.ne_ge (b := W2.heap.size) (Nat.le_refl _)
      generalize W2.alloc (Obj.cells #[.int .i64 c.x0, .int .i64 c.x1, .int .i64 c.x2, .int .i64 c.x3, .int .i64 c.x4] 23) = W3 at *
      generalize W2.heap.size = gd at *
      have cd3 := hd3.cell
      have fd3 := hd3.free
      have ce3 := he3.cell
      have fe3 := he3.free
      have hBW3 := hBW.trans (hB3.mono hBW.size)
      have hg3 : g < W1.heap.size := hg1
      clear hz2 he2 hr2 cz2 ho7 hB7
      go_upto_region 10 with fail
      have hgd1 : W1.heap.size ≤ gd := hs2
      have hd4 := (hd3.setCk hk5 (c.get k + 1)).set_ne (a := ⟨g, 7, none⟩) (by simp; omega) (.int .i64 (e.h + 1))
      have he4 : blk ((W3.setCell ⟨gd, k, none⟩ (.int .i64 (c.get k + 1))).setCell ⟨g, 7, none⟩ (.int .i64 (e.h + 1))) g [.int .i64 e.up.r, .int .i64 e.up.n, .int .i64 e.up.c.x0, .int .i64 e.up.c.x1, .int .i64 e.up.c.x2, .int .i64 e.up.c.x3, .int .i64 e.up.c.x4, .int .i64 e.up.h, .int .i64 e.up.k, .string e.up.key, .int .i64 e.up.lab, .string e.up.val] 31 := (he3.set_ne (a := ⟨gd, k, none⟩) (by simp; omega) (.int .i64 (c.get k + 1))).set 7 (.int .i64 (e.h + 1))
      have ho4 := (ho3.set_ne (a := ⟨gd, k, none⟩) (Ne.symm hoN) (.int .i64 (c.get k + 1))).set_lt (a := ⟨g, 7, none⟩) hg3 (.int .i64 (e.h + 1))
      have hBW4 := (hBW3.setCell (p := ⟨gd, k, none⟩) (by simp; omega) (.int .i64 (c.get k + 1))).setCell (p := ⟨g, 7, none⟩) (by simp; omega) (.int .i64 (e.h + 1))
      clear hd3 he3 cd3 fd3 ce3 fe3 ho3 hBW3 hB3 hoN hz3 hr3
      generalize (W3.setCell ⟨gd, k, none⟩ (.int .i64 (c.get k + 1))).setCell ⟨g, 7, none⟩ (.int .i64 (e.h + 1)) = W4 at *
      have hr4 := hrW.below hBW4 (Nat.le_refl _)
      have hgd4 := hd4.lt
      have hg4 := he4.lt
      go_cut [12] (fun s12 wx => ∃ (A8 : Option Addr) (c8 : Nat), s12 = .slice A8 U.length c8 ∧ evK.own 31 wx W4.heap.size s12 U ∧ Below W4.heap.size W4 wx)
      case first =>
        have hoa : evK.own 31 (W4.drew.alloc (Obj.cells #[] 31)) W4.heap.size (.slice (some ⟨W4.heap.size, 0, none⟩) 0 0) [] := World.ownsRow_lit W4.drew #[] 0 (Nat.le_refl _) (by decide) rfl
        have hob := hoa.alloc (Obj.cells #[.int .i64 e.up.r, .int .i64 e.up.n, .int .i64 e.up.c.x0, .int .i64 e.up.c.x1, .int .i64 e.up.c.x2, .int .i64 e.up.c.x3, .int .i64 e.up.c.x4, .int .i64 e.up.h, .int .i64 e.up.k, .string e.up.key, .int .i64 e.up.lab, .string e.up.val] 31)
        have hoc : evK.own 31 ((W4.drew.alloc (Obj.cells #[.int .i64 e.up.r, .int .i64 e.up.n, .int .i64 e.up.c.x0, .int .i64 e.up.c.x1, .int .i64 e.up.c.x2, .int .i64 e.up.c.x3, .int .i64 e.up.c.x4, .int .i64 e.up.h, .int .i64 e.up.k, .string e.up.key, .int .i64 e.up.lab, .string e.up.val] 31)).alloc (Obj.cells #[] 31)) W4.heap.size (.slice (some ⟨W4.heap.size + 1, 0, none⟩) 0 0) [] := own_lit1 W4.drew _
        first | (go_region_held3 (fun w' => (∀ o, w'.cell? ⟨g, o, none⟩ = ([.int .i64 e.up.r, .int .i64 e.up.n, .int .i64 e.up.c.x0, .int .i64 e.up.c.x1, .int .i64 e.up.c.x2, .int .i64 e.up.c.x3, .int .i64 e.up.c.x4, .int .i64 e.up.h, .int .i64 e.up.k, .string e.up.key, .int .i64 e.up.lab, .string e.up.val] : List Value)[o]?) ∧ Below W4.heap.size W4 w')
          (first | with_reducible exact keepE he4 hB9 | with_reducible exact keepE he4 hB7 | with_reducible exact keepE he4 hB5 | with_reducible assumption | (go_split_ands; with_reducible exact keepE he4 (Below.alloc (by with_reducible assumption) (bsz (by with_reducible assumption)) _)) | with_reducible exact keepE he4 (Below.refl _ _).drew)
          (first
            | (go_split_ands; (refine step_appr evK _ (by rfl) _ _ _ (by rfl) W4.heap.size 31 112 _ Try.underlying24 infoEv (by rfl) _ [] (by rfl) hoa A2 c2 p (by rw [HN.out]; rfl) (hr4.below (by assumption) (Nat.le_refl _)) (by have := HBD.out; simp; omega) (by decide) (by simp <;> omega) ?_); intro v5 w5 ho5 hg5; have hB5 : Below W4.heap.size W4 w5 := Below.grown (by assumption) hg5 (bsz (by assumption)) hoa.base_le; rw [List.nil_append] at ho5)
            | (go_split_ands; (refine step_appr evK _ (by rfl) _ _ _ (by rfl) W4.heap.size 31 112 _ Try.underlying24 infoEv (by rfl) _ [] (by rfl) hob A2 c2 p (by rw [HN.out]; rfl) (hr4.below (by assumption) (Nat.le_refl _)) (by have := HBD.out; simp; omega) (by decide) (by simp <;> omega) ?_); intro v5 w5 ho5 hg5; have hB5 : Below W4.heap.size W4 w5 := Below.grown (by assumption) hg5 (bsz (by assumption)) hob.base_le; rw [List.nil_append] at ho5; have he5 := (blk_at (w := W4.drew.alloc (Obj.cells #[] 31)) (b := W4.heap.size + 1) (by simp) [.int .i64 e.up.r, .int .i64 e.up.n, .int .i64 e.up.c.x0, .int .i64 e.up.c.x1, .int .i64 e.up.c.x2, .int .i64 e.up.c.x3, .int .i64 e.up.c.x4, .int .i64 e.up.h, .int .i64 e.up.k, .string e.up.key, .int .i64 e.up.lab, .string e.up.val] 31).grown hg5 (by simp [Value.ownBlock]))
            | (go_split_ands; (refine step_appr evK _ (by rfl) _ _ _ (by rfl) W4.heap.size 31 112 _ Try.underlying24 infoEv (by rfl) _ [] (by rfl) hoc A2 c2 p (by rw [HN.out]; rfl) (hr4.below (by assumption) (Nat.le_refl _)) (by have := HBD.out; simp; omega) (by decide) (by simp <;> omega) ?_); intro v5 w5 ho5 hg5; have hB5 : Below W4.heap.size W4 w5 := Below.grown (by assumption) hg5 (bsz (by assumption)) hoc.base_le; rw [List.nil_append] at ho5; have he5 := ((blk_at (w := W4.drew) (b := W4.heap.size) rfl [.int .i64 e.up.r, .int .i64 e.up.n, .int .i64 e.up.c.x0, .int .i64 e.up.c.x1, .int .i64 e.up.c.x2, .int .i64 e.up.c.x3, .int .i64 e.up.c.x4, .int .i64 e.up.h, .int .i64 e.up.k, .string e.up.key, .int .i64 e.up.lab, .string e.up.val] 31).alloc (Obj.cells #[] 31)).grown hg5 (by simp [Value.ownBlock]))
            | (go_split_ands; (refine step_appr evK _ (by rfl) _ _ _ (by rfl) W4.heap.size 31 112 _ Try.underlying24 infoEv (by rfl) _ p (by rfl) (ho5.alloc (Obj.cells #[.int .i64 e.up.r, .int .i64 e.up.n, .int .i64 e.up.c.x0, .int .i64 e.up.c.x1, .int .i64 e.up.c.x2, .int .i64 e.up.c.x3, .int .i64 e.up.c.x4, .int .i64 e.up.h, .int .i64 e.up.k, .string e.up.key, .int .i64 e.up.lab, .string e.up.val] 31)) (some ⟨w5.heap.size, 0, none⟩) 1 [e.up] (by rfl) (row_oneA rfl) (by have := HBD.out; simp; omega) (by decide) (by have := hB5.size; simp; omega) ?_); intro v7 w7 ho7 hg7; have hB7 : Below W4.heap.size W4 w7 := (hB5.alloc hB5.size _).grown hg7 (by have := hB5.size; simp; omega) (ho5.alloc (Obj.cells #[.int .i64 e.up.r, .int .i64 e.up.n, .int .i64 e.up.c.x0, .int .i64 e.up.c.x1, .int .i64 e.up.c.x2, .int .i64 e.up.c.x3, .int .i64 e.up.c.x4, .int .i64 e.up.h, .int .i64 e.up.k, .string e.up.key, .int .i64 e.up.lab, .string e.up.val] 31)).base_le; rw [← HUE.out] at ho7; obtain ⟨A7, c7, rfl, hr7, hc7, _⟩ := id ho7.form)
            | (go_split_ands; (refine step_appr evK _ (by rfl) _ _ _ (by rfl) W4.heap.size 31 112 _ Try.underlying24 infoEv (by rfl) _ p (by rfl) ho5 (some ⟨_, 0, none⟩) 1 [e.up] (by rfl) (Kn.row_of (l := [e.up]) he5) (by have := HBD.out; simp; omega) (by decide) hB5.size ?_); intro v7 w7 ho7 hg7; have hB7 : Below W4.heap.size W4 w7 := hB5.grown hg7 hB5.size ho5.base_le; rw [← HUE.out] at ho7; obtain ⟨A7, c7, rfl, hr7, hc7, _⟩ := id ho7.form)
            )) | fail
        all_goals go_wp2_with fail
        all_goals go_meet
        all_goals exact ⟨A7, c7, rfl, ho7, hB7⟩
      case rest =>
        obtain ⟨A8, c8, rfl, ho8, hB8⟩ := hcut
        generalize wc = W5 at *
        have hd5 := hd4.below hB8 hgd4
        have ho5 := ho4.below hB8 (Nat.le_refl _)
        have hBW5 := hBW4.trans (hB8.mono hBW4.size)
        have hz5 := hzW.below hBW5 hgW
        have cz5 := hz5.cell
        have hg75 := hz5.lt
        have hrR := ho5.row
        have hrU := ho8.row
        have hgd5 := hd5.lt
        clear hd4 ho4 hB8 hBW4 hr4 hgd4 hg4 he4
        have H5 := Lib.hid (sumTo_bd HC.out)
        go_wp2_with fail
        go_loop [13, 14] (fun v13 v14 => ∃ i : Nat, i ≤ 5 ∧ v14 = .int .i64 i ∧ v13 = .int .i64 (sumTo c i)) (fun _ v14 => 5 - (intOf v14).toNat)
        case atStart => exact ⟨0, by omega, rfl, rfl⟩
        case round =>
          obtain ⟨i, hi, rfl, rfl⟩ := hrel
          by_cases hi5 : i < 5
          · have hbi := HC.out.bd hi5
            rw [HN.out] at hbi
            have hsi := H5.out i hi
            rw [HN.out] at hsi
            have hsi2 : sumTo c i ≤ 200 := by
              have : (i : Int) * (n : Int) ≤ 5 * 40 := Int.mul_le_mul (by omega) (by omega) (by omega) (by omega)
              omega
            have hdi : decide ((i : Int) < 5) = true := decide_eq_true (by omega)
            obtain ⟨hsi, _⟩ := hsi
            go_wp2
            go_round
            case measure => simp [intOf]; omega
            case rel => exact ⟨i + 1, by omega, by go_num, rfl⟩
          · obtain rfl : i = 5 := by omega
            have hsum : sumTo c 5 = (n : Int) := by rw [sumTo_5, HP.out.sum HC.out, HN.out]
            rw [hsum]
            have HPR := Lib.hid (show Past R by rw [HRE.out]; exact HMO.out.past)
            have HCR := Lib.hid (show isClock R (c.set k (c.get k + 1)) by rw [HRE.out]; exact HMO.out.clk)
            have HEU := Lib.hid (show ∀ x ∈ U, evOk x by rw [HUE.out]; exact HMO.out.evs2)
            have HNU := Lib.hid (show ¬ rightP U by rw [HUE.out]; exact HMO.out.high)
            clear hsum HMO HRE HUE H5 HBD cz5 hz5 hzW hrW hBW hgd1
            generalize c.set k (c.get k + 1) = d at *
            have hnn : (n : Int) = (n : Int) := rfl
            go_wp2
            first | (go_region_held3 (fun w' => (∀ o, w'.cell? ⟨gd, o, none⟩ = ([Value.int .i64 d.x0, Value.int .i64 d.x1, Value.int .i64 d.x2, Value.int .i64 d.x3, Value.int .i64 d.x4] : List Value)[o]?) ∧ Below W5.heap.size W5 w')
              (first | with_reducible exact keepE hd5 hBd | with_reducible exact keepE hd5 hBc | with_reducible exact keepE hd5 hBb | with_reducible exact keepE hd5 hBa | with_reducible exact keepE hd5 (Below.refl _ _).drew)
              (first
                | (go_at_call 38; (with_reducible refine (right_any A7 c7 R _ (hrR.below (Below.refl W5.heap.size W5).drew (Nat.le_refl _)) HRL.out HPR.out.evOk).mono ?_); rintro e6 w6 ⟨rfl, hb6⟩; rw [pB_true HPR.out.right]; have hBa : Below W5.heap.size W5 w6 := (Below.refl _ _).drew.trans hb6)
                | (go_at_call 26; (with_reducible refine (ordered_any A7 c7 R _ (hrR.below hBa (Nat.le_refl _)) HRL.out).mono ?_); rintro e7 w7 ⟨rfl, hb7⟩; rw [pB_true HPR.out.ordered]; have hBb : Below W5.heap.size W5 w7 := hBa.trans (hb7.mono hBa.size))
                | (go_at_call 25; (with_reducible refine (pclock_any A7 c7 R _ (hrR.below hBb (Nat.le_refl _)) HRL.out).mono ?_); rintro e8 w8 ⟨c', rfl, hc', hb8⟩; obtain rfl := HCR.out.uniq hc'; have hBc : Below W5.heap.size W5 w8 := hBb.trans (hb8.mono hBb.size))
                | (go_at_call 38; (with_reducible refine (right_any A8 c8 U _ (hrU.below hBc (Nat.le_refl _)) HUL.out HEU.out).mono ?_); rintro e9 w9 ⟨rfl, hb9⟩; rw [pB_false HNU.out]; have hBd : Below W5.heap.size W5 w9 := hBc.trans (hb9.mono hBc.size)))) | fail
            go_wp2
            go_ret
            exact ⟨rfl, hBT.trans ((hBW5.trans (hBd.mono hBW5.size)).mono hwW)⟩
end Go.Proofs.Ytlfhjlkhhaoicaa
