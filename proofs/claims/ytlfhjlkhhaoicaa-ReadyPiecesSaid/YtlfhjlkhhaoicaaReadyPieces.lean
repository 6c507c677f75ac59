/- The walk of kithlaw12.ReadyPieces. -/
import Derived.Test.YtlfhjlkhhaoicaaReadyPiecesW
import Derived.Test.YtlfhjlkhhaoicaaOpenC
import Derived.Deep.CutBlock
import Derived.Deep.CutRange
namespace Go.Proofs.Ytlfhjlkhhaoicaa
set_option linter.unusedVariables false
set_option linter.unusedSimpArgs false
open Go.RowKit
attribute [local go_sem] ck_get ck_get? q_le0 q_le1 q_le2 q_le3 q_le4 q_le5 q_lt1 q_lt2 q_lt3 q_lt4 q_lt5
attribute [local go_sem high] eqCk eqMk eqEv

set_option maxRecDepth 100000 in
set_option maxHeartbeats 8000000 in
theorem readyPieces_any (A : Option Addr) (ca : Nat) (l : List Ch) (A1 : Option Addr) (ca1 : Nat) (L : List Nat) (n0 : Nat) (w : World) (hl : chK.row w A l) (hc : l.length ≤ ca) (hm : ca ≤ maxLen) (hwf : ∀ c ∈ l, c.wf)
    (hl1 : byK.row w A1 L) (hc1 : L.length ≤ ca1) (hm1 : ca1 ≤ maxLen) (hby : ∀ y ∈ L, y ≤ 255) (hn0 : n0 ≤ 255) :
    Calls Try.prog 11 #[.slice A l.length ca, .slice A1 L.length ca1, .int .u8 n0] w fun e w' => e = .returned (.bool true) ∧ Below w.heap.size w w' := by
  have H40 := Lib.hid (show min l.length 40 = (l.take 40).length by rw [List.length_take]; omega)
  have HL40 := Lib.hid (show (l.take 40).length ≤ 40 by rw [List.length_take]; omega)
  have HWF := Lib.hid (fun c (h : c ∈ l.take 40) => hwf c ((List.take_sublist _ _).subset h))
  have HBY := Lib.hid hby
  have hl4 := hl.take 40
  clear hwf hl hby
  generalize l.take 40 = L4 at *
  have hm1' : L.length ≤ 9223372036854775807 := by unfold maxLen at hm1; omega
  generalize hn1 : L.length = n1 at *
  have HN1 := Lib.hid hn1
  clear hn1
  obtain ⟨kk, hkk, hkk7⟩ : ∃ kk, n0 % 7 = kk ∧ kk < 7 := ⟨_, rfl, Nat.mod_lt _ (by omega)⟩
  have hkod : ((n0 : Int) % 7) = (kk : Int) := by omega
  have hkodt : ((n0 : Int).tmod 7) = (kk : Int) := by rw [Int.tmod_eq_emod_of_nonneg (by omega)]; exact hkod
  obtain ⟨K, hK1, hK7⟩ : ∃ K : Nat, (1 + (kk : Int)) = (K : Int) ∧ K ≤ 7 := ⟨1 + kk, by push_cast; rfl, by omega⟩
  clear hkk
  go_enter Try.func11, Try.ntmps11
  go_wp2_with fail
  refine (shown12_any _).mono ?_
  rintro e w1 ⟨rfl, hb1⟩
  have hl4' := hl4.below hb1 (Nat.le_refl _)
  go_wp2_with fail
  refine (short12_any A l.length ca _ hc hm).mono ?_
  rintro e w1' ⟨rfl, rfl⟩
  rw [H40.out]
  go_wp2_with fail
  refine (make_any A ca L4 _ hl4' HL40.out HWF.out).mono ?_
  rintro e w2 ⟨v, p, rfl, hP, hp40, hop, hb2⟩
  obtain ⟨A2, c2, rfl, hr2, hcc, _⟩ := hop.form
  have hB2 := hb1.trans (hb2.mono hb1.size)
  have HP := Lib.hid hP
  clear hP hl4' hl4 hb1 hb2 hop
  generalize hnn : p.length = n at *
  have HN := Lib.hid hnn
  clear hnn
  have hw2 := hB2.size
  have hst0 : RpSt w2 p w2.heap.size (.slice (some ⟨w2.heap.size + 1, 0, none⟩) 0 0) (.slice (some ⟨w2.heap.size + 1 + 1, 0, none⟩) 0 0) (((w2.alloc (Obj.cells #[.int .i64 0, .int .i64 0, .int .i64 0, .int .i64 0, .int .i64 0] 23)).alloc (Obj.cells #[] 31)).alloc (Obj.cells #[] 31)) [] [] Ck.zero :=
    ⟨(own_lit1 w2 _).alloc _, own_lit2 w2 _ _, .inr (by simp [Value.ownBlock]), ((blk_new w2 [Value.int .i64 Ck.zero.x0, Value.int .i64 Ck.zero.x1, Value.int .i64 Ck.zero.x2, Value.int .i64 Ck.zero.x3, Value.int .i64 Ck.zero.x4] 23).alloc _).alloc _, Got.start p, by simp, (((Below.refl w2.heap.size w2).alloc (Nat.le_refl _) _).alloc (by simp) _).alloc (by simp; omega) _⟩
  have hwg : w2.heap.size ≤ w2.heap.size := Nat.le_refl _
  go_upto_block 0 with fail
  generalize ((w2.alloc (Obj.cells #[.int .i64 0, .int .i64 0, .int .i64 0, .int .i64 0, .int .i64 0] 23)).alloc (Obj.cells #[] 31)).alloc (Obj.cells #[] 31) = W0 at *
  generalize hg9 : w2.heap.size = g9 at *
  have HG9 := Lib.hid hg9
  clear hg9
  go_cut [10, 11, 13, 14, 15, 16, 17, 18] (fun s10 s11 s13 s14 s15 s16 s17 s18 wx => ∃ log left c, RpSt w2 p g9 s10 s11 wx log left c)
  case first =>
    go_wp2_with fail
    go_loopw [10, 11, 13] (fun v10 v11 v13 wr => ∃ (i : Nat) (log left : List Ev) (c : Ck), i ≤ n1 ∧ i ≤ 60 ∧ v13 = .int .i64 i ∧ RpSt w2 p g9 v10 v11 wr log left c) (fun _ _ v13 _ => n1 - (intOf v13).toNat)
    case atStart => exact ⟨0, [], [], Ck.zero, by omega, by omega, rfl, hst0⟩
    case round =>
      clear hst0
      obtain ⟨i, log, left, c, hi1, hi60, rfl, hst⟩ := hrel
      by_cases h1 : i < n1
      · by_cases h2 : i < 60
        · by_cases h3 : 0 < n
          · obtain ⟨y, hy⟩ : ∃ y, L[i]? = some y := ⟨_, List.getElem?_eq_getElem (by rw [HN1.out]; exact h1)⟩
            obtain ⟨b1, o1, rfl, hbl1, hat1⟩ := hl1.get hy
            have hBr := hB2.trans (hst.bel.mono (by rw [HG9.out]; exact hw2))
            have hopr := hr2.below hst.bel (Nat.le_refl _)
            have HST := Lib.hid hst
            have HY := Lib.hid hy
            have hy255 := HBY.out y (List.mem_of_getElem? hy)
            clear hy hst
            go_wp2_with fail
            obtain ⟨W1, rfl⟩ : ∃ W1 : World, W1 = wr := ⟨_, rfl⟩
            go_loopw [14, 15] (fun v14 v15 wX => ∃ (j : Nat) (S : List Ev), j ≤ K ∧ v15 = .int .i64 j ∧ evK.own 31 wX W1.heap.size v14 S ∧ Hid (∀ e ∈ S, e ∈ p) ∧ S.length ≤ j ∧ Below W1.heap.size W1 wX) (fun _ v15 _ => K - (intOf v15).toNat)
            case atStart => exact ⟨0, [], by omega, rfl, World.ownsRow_lit W1 #[] 0 (Nat.le_refl _) (by decide) rfl, fun e he => by simp at he, by simp, (Below.refl _ _).alloc (Nat.le_refl _) _⟩
            case round =>
              obtain ⟨j, S, hj, rfl, ho, hS, hSl, hB⟩ := hrel
              by_cases hjk : j < K
              · skip
                have cy := byAt_get ((hat1.below hBr hbl1).below hB (Nat.lt_of_lt_of_le hbl1 hBr.size)) HY.out
                obtain ⟨k, hk, hkl⟩ : ∃ k, (y + 5 * j) % n = k ∧ k < n := ⟨_, rfl, Nat.mod_lt _ h3⟩
                have hmod : (((y : Int) + 5 * (j : Int)) % (n : Int)) = (k : Int) := by rw [← hk]; push_cast; rfl
                have hmodt : (((y : Int) + 5 * (j : Int)).tmod (n : Int)) = (k : Int) := by rw [Int.tmod_eq_emod_of_nonneg (by omega)]; exact hmod
                obtain ⟨x, hx⟩ : ∃ x, p[k]? = some x := ⟨_, List.getElem?_eq_getElem (by rw [HN.out]; exact hkl)⟩
                obtain ⟨b, off, rfl, hb, hat⟩ := hopr.get hx
                obtain ⟨c0, c1, c2', c3, c4, c5, c6, c7, c8, c9, c10, c11⟩ := evAt_get (hat.below hB hb) hx
                have HXM := Lib.hid (List.mem_of_getElem? hx)
                have hne : (n : Int) ≠ 0 := by omega
                have hne2 : ((n : Int) == 0) = false := by simpa using hne
                have hcv : IntKind.i64.wrap (y : Int) = (y : Int) := IntWalk.i64_in _ (by omega)
                have HLN := Lib.hid (show S.length + 1 ≤ 1000000 by omega)
                have ho2 := ho.alloc (Obj.cells #[.int .i64 x.r, .int .i64 x.n, .int .i64 x.c.x0, .int .i64 x.c.x1, .int .i64 x.c.x2, .int .i64 x.c.x3, .int .i64 x.c.x4, .int .i64 x.h, .int .i64 x.k, .string x.key, .int .i64 x.lab, .string x.val] 31)
                have hsz := hB.size
                have hbs : W1.heap.size ≤ (wr.alloc (Obj.cells #[.int .i64 x.r, .int .i64 x.n, .int .i64 x.c.x0, .int .i64 x.c.x1, .int .i64 x.c.x2, .int .i64 x.c.x3, .int .i64 x.c.x4, .int .i64 x.h, .int .i64 x.k, .string x.key, .int .i64 x.lab, .string x.val] 31)).heap.size := by simp; omega
                clear hk hx
                go_wp2_with (first | (at_builtin; refine wpL_app1 evK _ rfl _ _ _ rfl W1.heap.size 31 112 _ Try.underlying24 infoEv rfl u14 S rfl ho2 wr.heap.size x rfl (blk_new wr [.int .i64 x.r, .int .i64 x.n, .int .i64 x.c.x0, .int .i64 x.c.x1, .int .i64 x.c.x2, .int .i64 x.c.x3, .int .i64 x.c.x4, .int .i64 x.h, .int .i64 x.k, .string x.key, .int .i64 x.lab, .string x.val] 31) HLN.out (by decide) hbs ?_; intro v9 w5 ho5 hg5))
                go_roundw
                case measure => simp [intOf]; omega
                case rel => exact ⟨j + 1, S ++ [x], by omega, by go_num, ho5, fun e he => by rcases List.mem_append.1 he with he | he; exact hS.out e he; simp at he; subst he; exact HXM.out, by simp; omega, (hB.alloc hsz _).grown hg5 hbs ho2.base_le⟩
              · skip
                have hst := HST.out.below hB
                obtain ⟨A14, c14, rfl, hr14, _⟩ := ho.form
                obtain ⟨A11, c11, rfl, hr11, _⟩ := id hst.hleft.form
                have hfl : left.length ≤ 40 := by have := hst.few; rw [HN.out] at this; omega
                have hlogl : log.length ≤ 40 := by have := hst.got.len; rw [HN.out] at this; omega
                obtain ⟨R, hR⟩ : ∃ R, R = left ++ S := ⟨_, rfl⟩
                have HRE := Lib.hid hR
                have HRL := Lib.hid (show R.length ≤ 100000 by rw [hR, List.length_append]; omega)
                have HRM := Lib.hid (show ∀ e ∈ R, e ∈ p by
                  rw [hR]; intro e he
                  rcases List.mem_append.1 he with he | he
                  · exact hst.got.leftm e he
                  · exact hS.out e he)
                have hGd := hst.got.drain HP.out HRM.out
                have hFd := hst.got.drain_few HP.out HRM.out
                generalize hdr : drain c R = dr at *
                obtain ⟨da, dl, dn⟩ := dr
                have HDR := Lib.hid hdr
                have HG := Lib.hid hGd
                have HF := Lib.hid hFd
                have hdal : log.length + da.length ≤ 1000000 := by
                  have := hGd.len
                  rw [HN.out, List.length_append] at this
                  simp only at this
                  omega
                have HDL := Lib.hid hdal
                have HB1 := Lib.hid (show ([] : List Ev).length + left.length ≤ 1000000 by simp; omega)
                have HBD := Lib.hid (show left.length + S.length ≤ 1000000 by omega)
                have hcb := hst.cb
                have hcl := hst.cb.lt
                have HST2 := Lib.hid hst
                clear hR hdr hGd hFd hdal hst ho hB HST hopr
                go_wp2_with fail
                obtain ⟨W, rfl⟩ : ∃ W : World, W = wr := ⟨_, rfl⟩
                go_cut [16, 17, 18] (fun s16 s17 s18 wx => ∃ g', s18 = .pointer (some ⟨g', 0, none⟩) ∧ D2 W da dl dn s16 s17 g' wx)
                case first =>
                  have hoa : evK.own 31 (W.drew.alloc (Obj.cells #[] 31)) W.heap.size (.slice (some ⟨W.heap.size, 0, none⟩) 0 0) [] := World.ownsRow_lit W.drew #[] 0 (Nat.le_refl _) (by decide) rfl
                  have hob := hoa.alloc (Obj.cells #[.int .i64 Ck.zero.x0, .int .i64 Ck.zero.x1, .int .i64 Ck.zero.x2, .int .i64 Ck.zero.x3, .int .i64 Ck.zero.x4] 23)
                  have hoc : evK.own 31 ((W.drew.alloc (Obj.cells #[.int .i64 Ck.zero.x0, .int .i64 Ck.zero.x1, .int .i64 Ck.zero.x2, .int .i64 Ck.zero.x3, .int .i64 Ck.zero.x4] 23)).alloc (Obj.cells #[] 31)) W.heap.size (.slice (some ⟨W.heap.size + 1, 0, none⟩) 0 0) [] := own_lit1 W.drew _
                  have hs0 : W.heap.size ≤ W.heap.size + 1 := Nat.le_succ _
                  first | (go_region_held3 (fun w' => (∀ o, w'.cell? ⟨g9, o, none⟩ = ([Value.int .i64 c.x0, Value.int .i64 c.x1, Value.int .i64 c.x2, Value.int .i64 c.x3, Value.int .i64 c.x4] : List Value)[o]?) ∧ Below W.heap.size W w')
                    (first | with_reducible exact keepE hcb (below_set5c hw7 (Nat.le_refl _)) | with_reducible exact keepE hcb (below_set5c hw7 hs0) | with_reducible exact keepE hcb (below_set5c hw7 hB5.size) | with_reducible exact keepE hcb (below_set5c hw7 hB6.size) | with_reducible exact keepE hcb (hw7.alloc hw7.size _) | with_reducible exact keepE hcb hw7 | with_reducible exact keepE hcb hB6 | with_reducible exact keepE hcb hB5 | with_reducible assumption | (go_split_ands; with_reducible exact keepE hcb (Below.alloc (by with_reducible assumption) (bsz (by with_reducible assumption)) _)) | with_reducible exact keepE hcb (Below.refl _ _).drew)
                    (first
                      | (go_split_ands; (refine step_appr evK _ (by rfl) _ _ _ (by rfl) W.heap.size 31 112 _ Try.underlying24 infoEv (by rfl) _ [] (by rfl) (hoa) A11 c11 left (by rfl) (hr11.below (by assumption) (Nat.le_refl _)) HB1.out (by decide) (bsz (a := W) (by assumption)) ?_); intro v5 w5 ho5 hg5; have hB5 : Below W.heap.size W w5 := Below.grown (by assumption) hg5 (bsz (by assumption)) (hoa).base_le; rw [List.nil_append] at ho5)
                      | (go_split_ands; (refine step_appr evK _ (by rfl) _ _ _ (by rfl) W.heap.size 31 112 _ Try.underlying24 infoEv (by rfl) _ [] (by rfl) (hob) A11 c11 left (by rfl) (hr11.below (by assumption) (Nat.le_refl _)) HB1.out (by decide) (bsz (a := W) (by assumption)) ?_); intro v5 w5 ho5 hg5; have hB5 : Below W.heap.size W w5 := Below.grown (by assumption) hg5 (bsz (by assumption)) (hob).base_le; rw [List.nil_append] at ho5; have kz5 := (blk_at (w := W.drew.alloc (Obj.cells #[] 31)) (b := W.heap.size + 1) (by simp) [Value.int .i64 Ck.zero.x0, Value.int .i64 Ck.zero.x1, Value.int .i64 Ck.zero.x2, Value.int .i64 Ck.zero.x3, Value.int .i64 Ck.zero.x4] 23).grown hg5 (by simp [Value.ownBlock]))
                      | (go_split_ands; (refine step_appr evK _ (by rfl) _ _ _ (by rfl) W.heap.size 31 112 _ Try.underlying24 infoEv (by rfl) _ [] (by rfl) (hoc) A11 c11 left (by rfl) (hr11.below (by assumption) (Nat.le_refl _)) HB1.out (by decide) (bsz (a := W) (by assumption)) ?_); intro v5 w5 ho5 hg5; have hB5 : Below W.heap.size W w5 := Below.grown (by assumption) hg5 (bsz (by assumption)) (hoc).base_le; rw [List.nil_append] at ho5; have kz5 := ((blk_at (w := W.drew) (b := W.heap.size) rfl [Value.int .i64 Ck.zero.x0, Value.int .i64 Ck.zero.x1, Value.int .i64 Ck.zero.x2, Value.int .i64 Ck.zero.x3, Value.int .i64 Ck.zero.x4] 23).alloc (Obj.cells #[] 31)).grown hg5 (by simp [Value.ownBlock]))
                      | (go_split_ands; (refine step_appr evK _ (by rfl) _ _ _ (by rfl) W.heap.size 31 112 _ Try.underlying24 infoEv (by rfl) _ left (by rfl) (ho5) A14 c14 S (by rfl) (hr14.below (by assumption) (Nat.le_refl _)) HBD.out (by decide) (bsz (a := W) (by assumption)) ?_); intro v6 w6 ho6 hg6; have hB6 : Below W.heap.size W w6 := Below.grown (by assumption) hg6 (bsz (by assumption)) (ho5).base_le; rw [← HRE.out] at ho6; (try have kz6 := kz5.grown hg6 (ho5.ne_blk kz5 (by decide))); obtain ⟨A6, c6, rfl, hr6, _⟩ := id ho6.form)
                      | (go_split_ands; (refine step_appr evK _ (by rfl) _ _ _ (by rfl) W.heap.size 31 112 _ Try.underlying24 infoEv (by rfl) _ left (by rfl) (ho5.alloc (Obj.cells #[.int .i64 Ck.zero.x0, .int .i64 Ck.zero.x1, .int .i64 Ck.zero.x2, .int .i64 Ck.zero.x3, .int .i64 Ck.zero.x4] 23)) A14 c14 S (by rfl) (hr14.below (by assumption) (Nat.le_refl _)) HBD.out (by decide) (bsz (a := W) (by assumption)) ?_); intro v6 w6 ho6 hg6; have hB6 : Below W.heap.size W w6 := Below.grown (by assumption) hg6 (bsz (by assumption)) (ho5.alloc (Obj.cells #[.int .i64 Ck.zero.x0, .int .i64 Ck.zero.x1, .int .i64 Ck.zero.x2, .int .i64 Ck.zero.x3, .int .i64 Ck.zero.x4] 23)).base_le; rw [← HRE.out] at ho6; have kz6 := (blk_new w5 [Value.int .i64 Ck.zero.x0, Value.int .i64 Ck.zero.x1, Value.int .i64 Ck.zero.x2, Value.int .i64 Ck.zero.x3, Value.int .i64 Ck.zero.x4] 23).grown hg6 ((ho5.alloc (Obj.cells #[.int .i64 Ck.zero.x0, .int .i64 Ck.zero.x1, .int .i64 Ck.zero.x2, .int .i64 Ck.zero.x3, .int .i64 Ck.zero.x4] 23)).ne_blk (blk_new w5 [Value.int .i64 Ck.zero.x0, Value.int .i64 Ck.zero.x1, Value.int .i64 Ck.zero.x2, Value.int .i64 Ck.zero.x3, Value.int .i64 Ck.zero.x4] 23) (by decide)); obtain ⟨A6, c6, rfl, hr6, _⟩ := id ho6.form)
                      | (go_at_call 19; go_split_ands; refine (drain_any c A6 c6 R _ (by first | exact hr6 | exact row_or hr6 _) HRL.out).mono ?_; rintro e7 w7 ⟨v1, v2, rfl, ho1, ho2, hb7⟩; rw [HDR.out] at ho1 ho2 ⊢; simp only at ho1 ho2 ⊢; have hw7 : Below W.heap.size W w7 := Below.trans (by assumption) (hb7.mono (bsz (by assumption))); (try (have kz := kz6.below hb7 kz6.lt)); (try (have kz := (blk_new w6 [Value.int .i64 Ck.zero.x0, Value.int .i64 Ck.zero.x1, Value.int .i64 Ck.zero.x2, Value.int .i64 Ck.zero.x3, Value.int .i64 Ck.zero.x4] 23).below hb7 (blk_new w6 [Value.int .i64 Ck.zero.x0, Value.int .i64 Ck.zero.x1, Value.int .i64 Ck.zero.x2, Value.int .i64 Ck.zero.x3, Value.int .i64 Ck.zero.x4] 23).lt)); (try (have cz0 := cell_at kz 0 rfl)); (try (have fz0 := kz.free 0)); (try (have cz1 := cell_at kz 1 rfl)); (try (have fz1 := kz.free 1)); (try (have cz2 := cell_at kz 2 rfl)); (try (have fz2 := kz.free 2)); (try (have cz3 := cell_at kz 3 rfl)); (try (have fz3 := kz.free 3)); (try (have cz4 := cell_at kz 4 rfl)); (try (have fz4 := kz.free 4))))) | fail
                  · go_wp2_with fail
                    go_meet
                    exact ⟨_, rfl, fin4 ho1 ho2 hw7 hB6.size⟩
                  all_goals go_wp2_with fail
                  all_goals go_meet
                  · exact ⟨_, rfl, fin5 kz ho1 ho2 hw7 (by first | exact kz6.lt | exact (blk_new w6 [Value.int .i64 Ck.zero.x0, Value.int .i64 Ck.zero.x1, Value.int .i64 Ck.zero.x2, Value.int .i64 Ck.zero.x3, Value.int .i64 Ck.zero.x4] 23).lt) hB6.size (by have := hB6.size; simp; omega)⟩
                  · exact ⟨_, rfl, fin5 kz ho1 ho2 hw7 kz6.lt hB5.size hB6.size⟩
                  · exact ⟨_, rfl, fin5 kz ho1 ho2 hw7 kz6.lt hs0 hB6.size⟩
                  · exact ⟨_, rfl, fin5 kz ho1 ho2 hw7 kz6.lt (Nat.le_refl _) hB6.size⟩
                case rest =>
                  obtain ⟨g', rfl, hd⟩ := hcut
                  generalize wc = W5 at *
                  obtain ⟨A16, c16, rfl, hr16, _⟩ := id hd.1.form
                  obtain ⟨A17, c17, rfl, _, _⟩ := id hd.2.1.form
                  have hbe := hd.2.2.2.2
                  have hlog5 := HST2.out.hlog.below hbe (Nat.le_refl _)
                  have hs5 : g9 ≤ W5.heap.size := by have := HST2.out.bel.size; have := hbe.size; have := HG9.out; omega
                  have hg9e := HG9.out
                  rw [hg9e] at hlog5
                  clear hg9e hr14 hr11 hcb hcl
                  go_wp2_with (first | (at_builtin; refine wpL_appr_at evK _ rfl _ _ _ rfl g9 31 112 _ Try.underlying24 infoEv rfl u10 log rfl hlog5 A16 c16 da rfl hr16 HDL.out (by decide) hs5 ?_; intro v12 w12 ho12 hg12 hv12; have hmid := HST2.out.mid hd (by rw [HG9.out]; exact ho12) hg12 hv12; have cb6 := hmid.cb.cell; have fb6 := hmid.cb.free; have nb6 := hmid.nb.cell; have lb6 := hmid.cb.lt; have ln6 := hmid.nb.lt))
                  have hne := hmid.next HG.out HF.out (by rw [HG9.out]; exact Nat.le_refl _)
                  go_roundw
                  case measure => simp [intOf]; omega
                  case rel => exact ⟨i + 1, _, _, _, by omega, by omega, by go_num, hne⟩
          · have h30 : n = 0 := by omega
            subst h30
            go_wp2_with fail
            go_meet
            exact ⟨log, left, c, hst⟩
        · go_wp2_with fail
          go_meet
          exact ⟨log, left, c, hst⟩
      · go_wp2_with fail
        go_meet
        exact ⟨log, left, c, hst⟩
  case rest =>
    obtain ⟨log, left, c, hst⟩ := hcut
    generalize wc = W at *
    have hBr := hB2.trans (hst.bel.mono (by rw [HG9.out]; exact hw2))
    have hopr := hr2.below hst.bel (Nat.le_refl _)
    obtain ⟨A11, c11, rfl, hr11, _⟩ := id hst.hleft.form
    have hfl : left.length ≤ 40 := by have := hst.few; rw [HN.out] at this; omega
    obtain ⟨R, hR⟩ : ∃ R, R = left ++ p := ⟨_, rfl⟩
    have HRE := Lib.hid hR
    have HRL := Lib.hid (show R.length ≤ 100000 by rw [hR, List.length_append, HN.out]; omega)
    have hRM : ∀ e ∈ R, e ∈ p := by
      rw [hR]; intro e he
      rcases List.mem_append.1 he with he | he
      · exact hst.got.leftm e he
      · exact he
    have hWh := hst.got.whole HP.out hRM (by rw [hR]; intro e he; exact List.mem_append_right _ he)
    generalize hdr : drain c R = dr at *
    obtain ⟨da, dl, dn⟩ := dr
    simp only at hWh
    obtain ⟨rfl, hW2, hW3, hW4⟩ := hWh
    have HDR := Lib.hid hdr
    have HCL := Lib.hid hW2
    have HPM := Lib.hid hW3
    have HORD := Lib.hid hW4
    have HLL := Lib.hid (show (log ++ da).length = n by rw [hW3.length_eq, HN.out])
    have HDL := Lib.hid (show log.length + da.length ≤ 1000000 by have := HLL.out; rw [List.length_append] at this; omega)
    have HB1 := Lib.hid (show ([] : List Ev).length + left.length ≤ 1000000 by simp; omega)
    have HBD := Lib.hid (show left.length + p.length ≤ 1000000 by rw [HN.out]; omega)
    have hcb := hst.cb
    have hcl := hst.cb.lt
    have HST2 := Lib.hid hst
    clear hR hdr hRM hst hst0 hW2 hW3 hW4
    go_upto_region 19 with fail
    go_cut [19, 20, 21] (fun s19 s20 s21 wx => ∃ g', s21 = .pointer (some ⟨g', 0, none⟩) ∧ D2 W da [] dn s19 s20 g' wx)
    case first =>
      have hoa : evK.own 31 (W.drew.alloc (Obj.cells #[] 31)) W.heap.size (.slice (some ⟨W.heap.size, 0, none⟩) 0 0) [] := World.ownsRow_lit W.drew #[] 0 (Nat.le_refl _) (by decide) rfl
      have hob := hoa.alloc (Obj.cells #[.int .i64 Ck.zero.x0, .int .i64 Ck.zero.x1, .int .i64 Ck.zero.x2, .int .i64 Ck.zero.x3, .int .i64 Ck.zero.x4] 23)
      have hoc : evK.own 31 ((W.drew.alloc (Obj.cells #[.int .i64 Ck.zero.x0, .int .i64 Ck.zero.x1, .int .i64 Ck.zero.x2, .int .i64 Ck.zero.x3, .int .i64 Ck.zero.x4] 23)).alloc (Obj.cells #[] 31)) W.heap.size (.slice (some ⟨W.heap.size + 1, 0, none⟩) 0 0) [] := own_lit1 W.drew _
      have hs0 : W.heap.size ≤ W.heap.size + 1 := Nat.le_succ _
      first | (go_region_held3 (fun w' => (∀ o, w'.cell? ⟨g9, o, none⟩ = ([Value.int .i64 c.x0, Value.int .i64 c.x1, Value.int .i64 c.x2, Value.int .i64 c.x3, Value.int .i64 c.x4] : List Value)[o]?) ∧ Below W.heap.size W w')
        (first | with_reducible exact keepE hcb (below_set5c hw7 (Nat.le_refl _)) | with_reducible exact keepE hcb (below_set5c hw7 hs0) | with_reducible exact keepE hcb (below_set5c hw7 hB5.size) | with_reducible exact keepE hcb (below_set5c hw7 hB6.size) | with_reducible exact keepE hcb (hw7.alloc hw7.size _) | with_reducible exact keepE hcb hw7 | with_reducible exact keepE hcb hB6 | with_reducible exact keepE hcb hB5 | with_reducible assumption | (go_split_ands; with_reducible exact keepE hcb (Below.alloc (by with_reducible assumption) (bsz (by with_reducible assumption)) _)) | with_reducible exact keepE hcb (Below.refl _ _).drew)
        (first
          | (go_split_ands; (refine step_appr evK _ (by rfl) _ _ _ (by rfl) W.heap.size 31 112 _ Try.underlying24 infoEv (by rfl) _ [] (by rfl) (hoa) A11 c11 left (by rfl) (hr11.below (by assumption) (Nat.le_refl _)) HB1.out (by decide) (bsz (a := W) (by assumption)) ?_); intro v5 w5 ho5 hg5; have hB5 : Below W.heap.size W w5 := Below.grown (by assumption) hg5 (bsz (by assumption)) (hoa).base_le; rw [List.nil_append] at ho5)
          | (go_split_ands; (refine step_appr evK _ (by rfl) _ _ _ (by rfl) W.heap.size 31 112 _ Try.underlying24 infoEv (by rfl) _ [] (by rfl) (hob) A11 c11 left (by rfl) (hr11.below (by assumption) (Nat.le_refl _)) HB1.out (by decide) (bsz (a := W) (by assumption)) ?_); intro v5 w5 ho5 hg5; have hB5 : Below W.heap.size W w5 := Below.grown (by assumption) hg5 (bsz (by assumption)) (hob).base_le; rw [List.nil_append] at ho5; have kz5 := (blk_at (w := W.drew.alloc (Obj.cells #[] 31)) (b := W.heap.size + 1) (by simp) [Value.int .i64 Ck.zero.x0, Value.int .i64 Ck.zero.x1, Value.int .i64 Ck.zero.x2, Value.int .i64 Ck.zero.x3, Value.int .i64 Ck.zero.x4] 23).grown hg5 (by simp [Value.ownBlock]))
          | (go_split_ands; (refine step_appr evK _ (by rfl) _ _ _ (by rfl) W.heap.size 31 112 _ Try.underlying24 infoEv (by rfl) _ [] (by rfl) (hoc) A11 c11 left (by rfl) (hr11.below (by assumption) (Nat.le_refl _)) HB1.out (by decide) (bsz (a := W) (by assumption)) ?_); intro v5 w5 ho5 hg5; have hB5 : Below W.heap.size W w5 := Below.grown (by assumption) hg5 (bsz (by assumption)) (hoc).base_le; rw [List.nil_append] at ho5; have kz5 := ((blk_at (w := W.drew) (b := W.heap.size) rfl [Value.int .i64 Ck.zero.x0, Value.int .i64 Ck.zero.x1, Value.int .i64 Ck.zero.x2, Value.int .i64 Ck.zero.x3, Value.int .i64 Ck.zero.x4] 23).alloc (Obj.cells #[] 31)).grown hg5 (by simp [Value.ownBlock]))
          | (go_split_ands; (refine step_appr evK _ (by rfl) _ _ _ (by rfl) W.heap.size 31 112 _ Try.underlying24 infoEv (by rfl) _ left (by rfl) (ho5) A2 c2 p (by rw [HN.out]; rfl) (hopr.below (by assumption) (Nat.le_refl _)) HBD.out (by decide) (bsz (a := W) (by assumption)) ?_); intro v6 w6 ho6 hg6; have hB6 : Below W.heap.size W w6 := Below.grown (by assumption) hg6 (bsz (by assumption)) (ho5).base_le; rw [← HRE.out] at ho6; (try have kz6 := kz5.grown hg6 (ho5.ne_blk kz5 (by decide))); obtain ⟨A6, c6, rfl, hr6, _⟩ := id ho6.form)
          | (go_split_ands; (refine step_appr evK _ (by rfl) _ _ _ (by rfl) W.heap.size 31 112 _ Try.underlying24 infoEv (by rfl) _ left (by rfl) (ho5.alloc (Obj.cells #[.int .i64 Ck.zero.x0, .int .i64 Ck.zero.x1, .int .i64 Ck.zero.x2, .int .i64 Ck.zero.x3, .int .i64 Ck.zero.x4] 23)) A2 c2 p (by rw [HN.out]; rfl) (hopr.below (by assumption) (Nat.le_refl _)) HBD.out (by decide) (bsz (a := W) (by assumption)) ?_); intro v6 w6 ho6 hg6; have hB6 : Below W.heap.size W w6 := Below.grown (by assumption) hg6 (bsz (by assumption)) (ho5.alloc (Obj.cells #[.int .i64 Ck.zero.x0, .int .i64 Ck.zero.x1, .int .i64 Ck.zero.x2, .int .i64 Ck.zero.x3, .int .i64 Ck.zero.x4] 23)).base_le; rw [← HRE.out] at ho6; have kz6 := (blk_new w5 [Value.int .i64 Ck.zero.x0, Value.int .i64 Ck.zero.x1, Value.int .i64 Ck.zero.x2, Value.int .i64 Ck.zero.x3, Value.int .i64 Ck.zero.x4] 23).grown hg6 ((ho5.alloc (Obj.cells #[.int .i64 Ck.zero.x0, .int .i64 Ck.zero.x1, .int .i64 Ck.zero.x2, .int .i64 Ck.zero.x3, .int .i64 Ck.zero.x4] 23)).ne_blk (blk_new w5 [Value.int .i64 Ck.zero.x0, Value.int .i64 Ck.zero.x1, Value.int .i64 Ck.zero.x2, Value.int .i64 Ck.zero.x3, Value.int .i64 Ck.zero.x4] 23) (by decide)); obtain ⟨A6, c6, rfl, hr6, _⟩ := id ho6.form)
          | (go_at_call 19; go_split_ands; refine (drain_any c A6 c6 R _ (by first | exact hr6 | exact row_or hr6 _) HRL.out).mono ?_; rintro e7 w7 ⟨v1, v2, rfl, ho1, ho2, hb7⟩; rw [HDR.out] at ho1 ho2 ⊢; simp only at ho1 ho2 ⊢; have hw7 : Below W.heap.size W w7 := Below.trans (by assumption) (hb7.mono (bsz (by assumption))); (try (have kz := kz6.below hb7 kz6.lt)); (try (have kz := (blk_new w6 [Value.int .i64 Ck.zero.x0, Value.int .i64 Ck.zero.x1, Value.int .i64 Ck.zero.x2, Value.int .i64 Ck.zero.x3, Value.int .i64 Ck.zero.x4] 23).below hb7 (blk_new w6 [Value.int .i64 Ck.zero.x0, Value.int .i64 Ck.zero.x1, Value.int .i64 Ck.zero.x2, Value.int .i64 Ck.zero.x3, Value.int .i64 Ck.zero.x4] 23).lt)); (try (have cz0 := cell_at kz 0 rfl)); (try (have fz0 := kz.free 0)); (try (have cz1 := cell_at kz 1 rfl)); (try (have fz1 := kz.free 1)); (try (have cz2 := cell_at kz 2 rfl)); (try (have fz2 := kz.free 2)); (try (have cz3 := cell_at kz 3 rfl)); (try (have fz3 := kz.free 3)); (try (have cz4 := cell_at kz 4 rfl)); (try (have fz4 := kz.free 4))))) | fail
      · go_wp2_with fail
        go_meet
        exact ⟨_, rfl, fin4 ho1 ho2 hw7 hB6.size⟩
      all_goals go_wp2_with fail
      all_goals go_meet
      · exact ⟨_, rfl, fin5 kz ho1 ho2 hw7 (by first | exact kz6.lt | exact (blk_new w6 [Value.int .i64 Ck.zero.x0, Value.int .i64 Ck.zero.x1, Value.int .i64 Ck.zero.x2, Value.int .i64 Ck.zero.x3, Value.int .i64 Ck.zero.x4] 23).lt) hB6.size (by have := hB6.size; simp; omega)⟩
      · exact ⟨_, rfl, fin5 kz ho1 ho2 hw7 kz6.lt hB5.size hB6.size⟩
      · exact ⟨_, rfl, fin5 kz ho1 ho2 hw7 kz6.lt hs0 hB6.size⟩
      · exact ⟨_, rfl, fin5 kz ho1 ho2 hw7 kz6.lt (Nat.le_refl _) hB6.size⟩
    case rest =>
      obtain ⟨g', rfl, hd⟩ := hcut
      generalize wc = W5 at *
      obtain ⟨A16, c16, rfl, hr16, _⟩ := id hd.1.form
      obtain ⟨A17, c17, rfl, _, _⟩ := id hd.2.1.form
      have hbe := hd.2.2.2.2
      have hlog5 := HST2.out.hlog.below hbe (Nat.le_refl _)
      have hs5 : g9 ≤ W5.heap.size := by have := HST2.out.bel.size; have := hbe.size; have := HG9.out; omega
      have hg9e := HG9.out
      rw [hg9e] at hlog5
      clear hg9e hr11 hcb hcl
      go_upto_region 21 with (first | (at_builtin; refine wpL_appr_at evK _ rfl _ _ _ rfl g9 31 112 _ Try.underlying24 infoEv rfl u10 log rfl hlog5 A16 c16 da rfl hr16 HDL.out (by decide) hs5 ?_; intro v12 w12 ho12 hg12 hv12; have hmid := HST2.out.mid hd (by rw [HG9.out]; exact ho12) hg12 hv12; have nb6 := hmid.nb; have ln6 := hmid.nb.lt))
      have hbelW := hmid.bel
      have hB12 := hB2.trans (hbelW.mono (by rw [HG9.out]; exact hw2))
      have hop12 := hr2.below hbelW (Nat.le_refl _)
      have hlg := hmid.hlog
      have HRI := Lib.hid (show rightP (log ++ da) from HP.out.right.perm HPM.out.symm)
      have HEV := Lib.hid (show ∀ e ∈ log ++ da, evOk e from fun e he => HP.out.evOk e (HPM.out.mem_iff.1 he))
      have hpc := fun wq (hq : evK.row wq A2 p) => pclock_any A2 c2 p wq hq (by rw [HN.out]; omega)
      simp only [HN.out] at hpc
      have HPC := Lib.hid hpc
      clear hpc hmid ho12 hg12 hv12 hd hbe hlog5 HST2 hs5 hr16 hopr hBr HPM HDL hbelW
      generalize log ++ da = LL at *
      obtain ⟨A12, c12, rfl, hr12, _⟩ := hlg.form
      have hlni : ((LL.length : Nat) : Int) = (n : Int) := by rw [HLL.out]
      have HLB := Lib.hid (show LL.length ≤ 1000 by rw [HLL.out]; omega)
      clear hlg
      first | (go_region_held3 (fun w' => (∀ o, w'.cell? ⟨g', o, none⟩ = ([Value.int .i64 dn.x0, Value.int .i64 dn.x1, Value.int .i64 dn.x2, Value.int .i64 dn.x3, Value.int .i64 dn.x4] : List Value)[o]?) ∧ Below w12.heap.size w12 w')
        (first | with_reducible exact keepE nb6 hBc | with_reducible exact keepE nb6 hBb | with_reducible exact keepE nb6 hBa | with_reducible exact keepE nb6 (Below.refl _ _).drew)
        (first
          | (go_at_call 25; (with_reducible refine (HPC.out _ (hop12.below (Below.refl w12.heap.size w12).drew (Nat.le_refl _))).mono ?_); rintro e8 w8 ⟨c', rfl, hc', hb8⟩; obtain rfl := HCL.out.uniq hc'; have hBa : Below w12.heap.size w12 w8 := (Below.refl _ _).drew.trans hb8)
          | (go_at_call 38; (with_reducible refine (right_any A12 c12 LL _ (hr12.below hBa (Nat.le_refl _)) HLB.out HEV.out).mono ?_); rintro e9 w9 ⟨rfl, hb9⟩; rw [pB_true HRI.out]; have hBb : Below w12.heap.size w12 w9 := hBa.trans (hb9.mono hBa.size))
          | (go_at_call 26; (with_reducible refine (ordered_any A12 c12 LL _ (hr12.below hBb (Nat.le_refl _)) HLB.out).mono ?_); rintro e7 w7 ⟨rfl, hb7⟩; rw [pB_true HORD.out]; have hBc : Below w12.heap.size w12 w7 := hBb.trans (hb7.mono hBb.size)))) | fail
      go_wp2
      go_ret
      exact ⟨rfl, hB12.trans (hBc.mono hB12.size)⟩
end Go.Proofs.Ytlfhjlkhhaoicaa
