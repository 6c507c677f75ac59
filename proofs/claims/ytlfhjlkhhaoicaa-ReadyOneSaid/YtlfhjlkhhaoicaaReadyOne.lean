/- The walk of kithlaw12.ReadyOne. -/
import Derived.Test.YtlfhjlkhhaoicaaOneP
import Derived.Test.YtlfhjlkhhaoicaaL12S
import Derived.Test.YtlfhjlkhhaoicaaOwnW
import Derived.Test.YtlfhjlkhhaoicaaSpoiltP
import Derived.Deep.CutRange
namespace Go.Proofs.Ytlfhjlkhhaoicaa
set_option linter.unusedVariables false
set_option linter.unusedSimpArgs false
open Go.RowKit
attribute [local go_sem] ck_get ck_get? q_le0 q_le1 q_le2 q_le3 q_le4 q_le5 q_lt1 q_lt2 q_lt3 q_lt4 q_lt5
attribute [local go_sem high] eqCk eqMk eqEv

theorem keepCE {w w' : World} {g b off k : Nat} {cs : List Value} {t : TypeId} {p : List Ev} {z : Ev} (hx : blk w g cs t) (hat : evK.at w b off p) (hb : b < w.heap.size) (hz : p[k]? = some z) (h : Below w.heap.size w w') : (∀ o, w'.cell? ⟨g, o, none⟩ = cs[o]?) ∧ (w'.cell? ⟨b, off + k * 12, none⟩ = some (.int .i64 z.r) ∧ w'.cell? ⟨b, off + k * 12 + 1, none⟩ = some (.int .i64 z.n) ∧ w'.cell? ⟨b, off + k * 12 + 2, none⟩ = some (.int .i64 z.c.x0) ∧ w'.cell? ⟨b, off + k * 12 + 3, none⟩ = some (.int .i64 z.c.x1) ∧ w'.cell? ⟨b, off + k * 12 + 4, none⟩ = some (.int .i64 z.c.x2) ∧ w'.cell? ⟨b, off + k * 12 + 5, none⟩ = some (.int .i64 z.c.x3) ∧ w'.cell? ⟨b, off + k * 12 + 6, none⟩ = some (.int .i64 z.c.x4) ∧ w'.cell? ⟨b, off + k * 12 + 7, none⟩ = some (.int .i64 z.h) ∧ w'.cell? ⟨b, off + k * 12 + 8, none⟩ = some (.int .i64 z.k) ∧ w'.cell? ⟨b, off + k * 12 + 9, none⟩ = some (.string z.key) ∧ w'.cell? ⟨b, off + k * 12 + 10, none⟩ = some (.int .i64 z.lab) ∧ w'.cell? ⟨b, off + k * 12 + 11, none⟩ = some (.string z.val)) ∧ Below w.heap.size w w' := ⟨(hx.below h hx.lt).cell, evAt_get (hat.below h hb) hz, h⟩
theorem below_set5 {B g : Nat} {W w : World} {c : Ck} (h : Below B W w) (hg : B ≤ g) : Below B W (((((w.setCell ⟨g, 0, none⟩ (.int .i64 c.x0)).setCell ⟨g, 1, none⟩ (.int .i64 c.x1)).setCell ⟨g, 2, none⟩ (.int .i64 c.x2)).setCell ⟨g, 3, none⟩ (.int .i64 c.x3)).setCell ⟨g, 4, none⟩ (.int .i64 c.x4)) :=
  ((((h.setCell (p := ⟨g, 0, none⟩) hg _).setCell (p := ⟨g, 1, none⟩) hg _).setCell (p := ⟨g, 2, none⟩) hg _).setCell (p := ⟨g, 3, none⟩) hg _).setCell (p := ⟨g, 4, none⟩) hg _
theorem own_set5 {g base : Nat} {w : World} {v : Value} {l : List Ev} {c : Ck} (h : evK.own 31 w base v l) (hg : g < base) : evK.own 31 (((((w.setCell ⟨g, 0, none⟩ (.int .i64 c.x0)).setCell ⟨g, 1, none⟩ (.int .i64 c.x1)).setCell ⟨g, 2, none⟩ (.int .i64 c.x2)).setCell ⟨g, 3, none⟩ (.int .i64 c.x3)).setCell ⟨g, 4, none⟩ (.int .i64 c.x4)) base v l :=
  ((((h.set_lt (a := ⟨g, 0, none⟩) hg _).set_lt (a := ⟨g, 1, none⟩) hg _).set_lt (a := ⟨g, 2, none⟩) hg _).set_lt (a := ⟨g, 3, none⟩) hg _).set_lt (a := ⟨g, 4, none⟩) hg _
set_option maxRecDepth 100000 in
set_option maxHeartbeats 4000000 in
theorem readyOne_any (A : Option Addr) (ca : Nat) (l : List Ch) (wh at' : Nat) (w : World) (hl : chK.row w A l) (hc : l.length ≤ ca) (hm : ca ≤ maxLen) (hwf : ∀ c ∈ l, c.wf) (hwh : wh ≤ 255) (hat' : at' ≤ 255) :
    Calls Try.prog 4 #[.slice A l.length ca, .int .u8 wh, .int .u8 at'] w fun e w' => e = .returned (.bool true) ∧ Below w.heap.size w w' := by
  have H40 := Lib.hid (show min l.length 40 = (l.take 40).length by rw [List.length_take]; omega)
  have HL40 := Lib.hid (show (l.take 40).length ≤ 40 by rw [List.length_take]; omega)
  have HWF := Lib.hid (fun c (h : c ∈ l.take 40) => hwf c ((List.take_sublist _ _).subset h))
  have hl4 := hl.take 40
  clear hwf hl
  generalize l.take 40 = L4 at *
  go_enter Try.func4, Try.ntmps4
  go_wp2_with fail
  refine (shown12_any _).mono ?_
  rintro e w1 ⟨rfl, hb1⟩
  have hl4' := hl4.below hb1 (Nat.le_refl _)
  go_wp2_with fail
  refine (short12_any A l.length ca _ hc hm).mono ?_
  rintro e w1' ⟨rfl, rfl⟩
  rw [H40.out]
  go_wp2_with fail
  refine (make_any A ca L4 _ hl4' HL40.out HWF.out).mono ?_
  rintro e w2 ⟨v, p, rfl, hP, hp40, hop, hb2⟩
  have hcm := fun A n cap (h : v = .slice A n cap) => Kn.own.cap_le (h ▸ hop)
  obtain ⟨A2, c2, rfl, hr2, hcc, _⟩ := hop.form
  have hcm := hcm _ _ _ rfl
  unfold maxLen at hcm
  have hB2 := hb1.trans (hb2.mono hb1.size)
  have HP := Lib.hid hP
  clear hP hl4' hl4 hb1 hb2 hop
  generalize hnn : p.length = n at *
  have HN := Lib.hid hnn
  clear hnn
  by_cases hn0 : n = 0
  · subst hn0
    go_wp2
    go_ret
    exact ⟨rfl, hB2⟩
  · obtain ⟨k, hkk, hkn⟩ : ∃ k, wh % n = k ∧ k < n := ⟨_, rfl, Nat.mod_lt _ (by omega)⟩
    have hkm : ((wh : Int) % (n : Int)) = (k : Int) := by rw [← hkk]; push_cast; rfl
    have hkmt : ((wh : Int).tmod (n : Int)) = (k : Int) := by rw [Int.tmod_eq_emod_of_nonneg (by omega)]; exact hkm
    obtain ⟨m, hmm, hmn⟩ : ∃ m, at' % (n + 1) = m ∧ m < n + 1 := ⟨_, rfl, Nat.mod_lt _ (by omega)⟩
    have hmm2 : ((at' : Int) % ((n : Int) + 1)) = (m : Int) := by rw [← hmm]; push_cast; rfl
    have hmmt : ((at' : Int).tmod ((n : Int) + 1)) = (m : Int) := by rw [Int.tmod_eq_emod_of_nonneg (by omega)]; exact hmm2
    have hne : (n : Int) ≠ 0 := by omega
    have hne2 : ((n : Int) == 0) = false := by simpa using hne
    have hne3 : ((n : Int) + 1 == 0) = false := by simp; omega
    have hcv : IntKind.i64.wrap (wh : Int) = (wh : Int) := IntWalk.i64_in _ (by omega)
    have hcv2 : IntKind.i64.wrap (at' : Int) = (at' : Int) := IntWalk.i64_in _ (by omega)
    clear hkk hmm
    obtain ⟨z, hz⟩ : ∃ z, p[k]? = some z := ⟨_, List.getElem?_eq_getElem (by rw [HN.out]; exact hkn)⟩
    have HZ := Lib.hid hz
    obtain ⟨b, off, rfl, hb, hat⟩ := hr2.get hz
    clear hz
    have hrt := hr2.take m
    have HTL := Lib.hid (show (p.take m).length = m by rw [List.length_take, HN.out]; omega)
    have hpc := pclock_any (some ⟨b, off, none⟩) c2 (p.take m) _ hrt (by rw [HTL.out]; omega)
    rw [HTL.out] at hpc
    have hmc : (m : Int) ≤ (c2 : Int) := by omega
    go_wp2_with fail
    refine hpc.mono ?_
    rintro e w3 ⟨c, rfl, hcl, hb3⟩
    have HC := Lib.hid hcl
    have HO := Lib.hid (one_p HP.out (by rw [HN.out]; omega) (by rw [HN.out]; exact hp40) HZ.out hcl)
    have hB3 := (hB2.trans (hb3.mono hB2.size)).alloc (by have := hB2.size; have := hb3.size; omega) (Obj.cells #[.int .i64 c.x0, .int .i64 c.x1, .int .i64 c.x2, .int .i64 c.x3, .int .i64 c.x4] 23)
    have hr3 := (hr2.below hb3 (Nat.le_refl _)).alloc (Obj.cells #[.int .i64 c.x0, .int .i64 c.x1, .int .i64 c.x2, .int .i64 c.x3, .int .i64 c.x4] 23)
    have hz3 := blk_new w3 [Value.int .i64 c.x0, Value.int .i64 c.x1, Value.int .i64 c.x2, Value.int .i64 c.x3, Value.int .i64 c.x4] 23
    have hgs := hz3.lt
    clear hb3 hr2 hpc hcl hB2 hrt hb hat
    go_upto_region 8 with fail
    generalize w3.alloc (Obj.cells #[.int .i64 c.x0, .int .i64 c.x1, .int .i64 c.x2, .int .i64 c.x3, .int .i64 c.x4] 23) = W at *
    generalize w3.heap.size = g at *
    obtain ⟨_, _, hA2, hb, hat⟩ := hr3.get HZ.out
    cases hA2
    have hk0 : (0 : Int) ≤ (k : Int) := by omega
    have hk1 : (k : Int) < (n : Int) := by omega
    generalize hdr : drain c [z] = dr at *
    obtain ⟨da, dl, dn⟩ := dr
    have HDR := Lib.hid hdr
    clear hdr
    have hs0 : W.heap.size ≤ W.heap.size + 1 := Nat.le_succ _
    go_cut [12, 13, 14] (fun s12 s13 s14 wx => ∃ g' : Nat, s14 = .pointer (some ⟨g', 0, none⟩) ∧ evK.own 31 wx W.heap.size s12 da ∧ evK.own 31 wx W.heap.size s13 dl ∧ W.heap.size ≤ g' ∧ blk wx g' [Value.int .i64 dn.x0, Value.int .i64 dn.x1, Value.int .i64 dn.x2, Value.int .i64 dn.x3, Value.int .i64 dn.x4] 23 ∧ Below W.heap.size W wx)
    case first =>
      first | (go_region_held3 (fun w' => (∀ o, w'.cell? ⟨g, o, none⟩ = ([Value.int .i64 c.x0, Value.int .i64 c.x1, Value.int .i64 c.x2, Value.int .i64 c.x3, Value.int .i64 c.x4] : List Value)[o]?) ∧ (w'.cell? ⟨b, off + k * 12, none⟩ = some (.int .i64 z.r) ∧ w'.cell? ⟨b, off + k * 12 + 1, none⟩ = some (.int .i64 z.n) ∧ w'.cell? ⟨b, off + k * 12 + 2, none⟩ = some (.int .i64 z.c.x0) ∧ w'.cell? ⟨b, off + k * 12 + 3, none⟩ = some (.int .i64 z.c.x1) ∧ w'.cell? ⟨b, off + k * 12 + 4, none⟩ = some (.int .i64 z.c.x2) ∧ w'.cell? ⟨b, off + k * 12 + 5, none⟩ = some (.int .i64 z.c.x3) ∧ w'.cell? ⟨b, off + k * 12 + 6, none⟩ = some (.int .i64 z.c.x4) ∧ w'.cell? ⟨b, off + k * 12 + 7, none⟩ = some (.int .i64 z.h) ∧ w'.cell? ⟨b, off + k * 12 + 8, none⟩ = some (.int .i64 z.k) ∧ w'.cell? ⟨b, off + k * 12 + 9, none⟩ = some (.string z.key) ∧ w'.cell? ⟨b, off + k * 12 + 10, none⟩ = some (.int .i64 z.lab) ∧ w'.cell? ⟨b, off + k * 12 + 11, none⟩ = some (.string z.val)) ∧ Below W.heap.size W w')
        (first | with_reducible exact keepCE hz3 hat hb HZ.out (((((hw3.setCell hs0 _).setCell hs0 _).setCell hs0 _).setCell hs0 _).setCell hs0 _) | with_reducible exact keepCE hz3 hat hb HZ.out (((((hw3.setCell (Nat.le_refl _) _).setCell (Nat.le_refl _) _).setCell (Nat.le_refl _) _).setCell (Nat.le_refl _) _).setCell (Nat.le_refl _) _) | with_reducible exact keepCE hz3 hat hb HZ.out (Below.refl _ _).drew | (with_reducible assumption) | with_reducible exact keepCE hz3 hat hb HZ.out (hw3.alloc hw3.size _) | with_reducible exact keepCE hz3 hat hb HZ.out hw3 | (go_split_ands; with_reducible exact keepCE hz3 hat hb HZ.out (Below.alloc (by with_reducible assumption) (bsz (by with_reducible assumption)) _)))
        (first
          | (go_at_call 19; go_split_ands; refine (drain_any c _ 1 [z] _ (by first | exact row_oneA rfl | exact row_oneB rfl | exact row_oneA (by simp) | exact row_oneB (by simp)) (by simp)).mono ?_; rintro e1 w3 ⟨v1, v2, rfl, ho1, ho2, hb3⟩; rw [HDR.out] at ho1 ho2 ⊢; simp only at ho1 ho2 ⊢; have hw3 : Below W.heap.size W w3 := Below.trans (by assumption) (hb3.mono (bsz (by assumption))); (try (have kz := ((blk_at (w := W.drew) (b := W.heap.size) rfl [Value.int .i64 Ck.zero.x0, Value.int .i64 Ck.zero.x1, Value.int .i64 Ck.zero.x2, Value.int .i64 Ck.zero.x3, Value.int .i64 Ck.zero.x4] 23).alloc (Obj.cells #[.int .i64 z.r, .int .i64 z.n, .int .i64 z.c.x0, .int .i64 z.c.x1, .int .i64 z.c.x2, .int .i64 z.c.x3, .int .i64 z.c.x4, .int .i64 z.h, .int .i64 z.k, .string z.key, .int .i64 z.lab, .string z.val] 31)).below hb3 (by first | omega | (simp; done) | (simp; omega)))); (try (have kz := (blk_at (w := W.drew.alloc (Obj.cells #[.int .i64 z.r, .int .i64 z.n, .int .i64 z.c.x0, .int .i64 z.c.x1, .int .i64 z.c.x2, .int .i64 z.c.x3, .int .i64 z.c.x4, .int .i64 z.h, .int .i64 z.k, .string z.key, .int .i64 z.lab, .string z.val] 31)) (b := W.heap.size + 1) (by simp) [Value.int .i64 Ck.zero.x0, Value.int .i64 Ck.zero.x1, Value.int .i64 Ck.zero.x2, Value.int .i64 Ck.zero.x3, Value.int .i64 Ck.zero.x4] 23).below hb3 (by first | omega | (simp; done) | (simp; omega)))); (try (have cz0 := cell_at kz 0 rfl)); (try (have fz0 := kz.free 0)); (try (have cz1 := cell_at kz 1 rfl)); (try (have fz1 := kz.free 1)); (try (have cz2 := cell_at kz 2 rfl)); (try (have fz2 := kz.free 2)); (try (have cz3 := cell_at kz 3 rfl)); (try (have fz3 := kz.free 3)); (try (have cz4 := cell_at kz 4 rfl)); (try (have fz4 := kz.free 4))))) | fail
      · have kzz := blk_new w3 [Value.int .i64 dn.x0, Value.int .i64 dn.x1, Value.int .i64 dn.x2, Value.int .i64 dn.x3, Value.int .i64 dn.x4] 23
        have hwe : Below W.heap.size W (w3.alloc (Obj.cells #[.int .i64 dn.x0, .int .i64 dn.x1, .int .i64 dn.x2, .int .i64 dn.x3, .int .i64 dn.x4] 23)) := hw3.alloc hw3.size _
        have oo1 := ho1.alloc (Obj.cells #[.int .i64 dn.x0, .int .i64 dn.x1, .int .i64 dn.x2, .int .i64 dn.x3, .int .i64 dn.x4] 23)
        have oo2 := ho2.alloc (Obj.cells #[.int .i64 dn.x0, .int .i64 dn.x1, .int .i64 dn.x2, .int .i64 dn.x3, .int .i64 dn.x4] 23)
        go_wp2_with fail
        go_meet
        exact ⟨_, rfl, oo1.mono (by simp <;> omega), oo2.mono (by simp <;> omega), hw3.size, kzz, hwe⟩
      · have kzz : blk _ (W.heap.size + 1) _ _ := set5 (c' := dn) kz
        have hwe := below_set5 (c := dn) hw3 hs0
        have oo1 := own_set5 (c := dn) ho1 (g := W.heap.size + 1) (by simp <;> omega)
        have oo2 := own_set5 (c := dn) ho2 (g := W.heap.size + 1) (by simp <;> omega)
        go_wp2_with fail
        go_meet
        exact ⟨_, rfl, oo1.mono (by simp <;> omega), oo2.mono (by simp <;> omega), hs0, kzz, hwe⟩
      · have kzz : blk _ (W.heap.size) _ _ := set5 (c' := dn) kz
        have hwe := below_set5 (c := dn) hw3 (Nat.le_refl W.heap.size)
        have oo1 := own_set5 (c := dn) ho1 (g := W.heap.size) (by simp <;> omega)
        have oo2 := own_set5 (c := dn) ho2 (g := W.heap.size) (by simp <;> omega)
        go_wp2_with fail
        go_meet
        exact ⟨_, rfl, oo1.mono (by simp <;> omega), oo2.mono (by simp <;> omega), Nat.le_refl _, kzz, hwe⟩
    case rest =>
      obtain ⟨g', rfl, oo1, oo2, hg', kzz, hwe⟩ := hcut
      generalize wc = W1 at *
      have hz1 := hz3.below hwe hgs
      have hr1 := hr3.below hwe (Nat.le_refl _)
      have hB1 := hB3.trans (hwe.mono hB3.size)
      have hgl := hz1.lt
      have hgl' := kzz.lt
      have hgg : g ≠ g' := by omega
      clear hz3 hr3 hB3 hwe hb hat
      obtain ⟨_, _, hA1, hb, hat⟩ := hr1.get HZ.out
      cases hA1
      by_cases hkm3 : k < m
      · have h3 := HDR.out.symm.trans (HO.out.had hkm3)
        simp only [Prod.mk.injEq] at h3
        obtain ⟨rfl, rfl, rfl⟩ := h3
        obtain ⟨A12, c12, rfl, _⟩ := oo1.form
        obtain ⟨A13, c13, rfl, _⟩ := oo2.form
        have cz1 := hz1.cell
        have cz2 := kzz.cell
        have hdk : decide ((k : Int) < (m : Int)) = true := decide_eq_true (by omega)
        go_wp2
        go_ret
        exact ⟨rfl, hB1⟩
      · have hdk : decide ((k : Int) < (m : Int)) = false := decide_eq_false (by omega)
        have HBD := Lib.hid (show (p.take m).length + 1 ≤ 1000000 by rw [HTL.out]; omega)
        obtain ⟨R, hR⟩ : ∃ R, R = p.take m ++ [z] := ⟨_, rfl⟩
        have HRE := Lib.hid hR
        have HRL := Lib.hid (show R.length ≤ 1000 by rw [hR, List.length_append, HTL.out]; simp; omega)
        have hm0 : (0 : Int) ≤ (m : Int) := by omega
        have hrt := hr1.take m
        clear hR
        go_upto_region 11 with fail
        go_cut [15] (fun s15 wx => s15 = .bool (pB (orderedP R)) ∧ Below W1.heap.size W1 wx)
        case first =>
          have hoa : evK.own 31 (W1.drew.alloc (Obj.cells #[] 31)) W1.heap.size (.slice (some ⟨W1.heap.size, 0, none⟩) 0 0) [] := World.ownsRow_lit W1.drew #[] 0 (Nat.le_refl _) (by decide) rfl
          have hob := hoa.alloc (Obj.cells #[.int .i64 z.r, .int .i64 z.n, .int .i64 z.c.x0, .int .i64 z.c.x1, .int .i64 z.c.x2, .int .i64 z.c.x3, .int .i64 z.c.x4, .int .i64 z.h, .int .i64 z.k, .string z.key, .int .i64 z.lab, .string z.val] 31)
          have hoc : evK.own 31 ((W1.drew.alloc (Obj.cells #[.int .i64 z.r, .int .i64 z.n, .int .i64 z.c.x0, .int .i64 z.c.x1, .int .i64 z.c.x2, .int .i64 z.c.x3, .int .i64 z.c.x4, .int .i64 z.h, .int .i64 z.k, .string z.key, .int .i64 z.lab, .string z.val] 31)).alloc (Obj.cells #[] 31)) W1.heap.size (.slice (some ⟨W1.heap.size + 1, 0, none⟩) 0 0) [] := own_lit1 W1.drew _
          first | (go_region_held3 (fun w' => (w'.cell? ⟨b, off + k * 12, none⟩ = some (.int .i64 z.r) ∧ w'.cell? ⟨b, off + k * 12 + 1, none⟩ = some (.int .i64 z.n) ∧ w'.cell? ⟨b, off + k * 12 + 2, none⟩ = some (.int .i64 z.c.x0) ∧ w'.cell? ⟨b, off + k * 12 + 3, none⟩ = some (.int .i64 z.c.x1) ∧ w'.cell? ⟨b, off + k * 12 + 4, none⟩ = some (.int .i64 z.c.x2) ∧ w'.cell? ⟨b, off + k * 12 + 5, none⟩ = some (.int .i64 z.c.x3) ∧ w'.cell? ⟨b, off + k * 12 + 6, none⟩ = some (.int .i64 z.c.x4) ∧ w'.cell? ⟨b, off + k * 12 + 7, none⟩ = some (.int .i64 z.h) ∧ w'.cell? ⟨b, off + k * 12 + 8, none⟩ = some (.int .i64 z.k) ∧ w'.cell? ⟨b, off + k * 12 + 9, none⟩ = some (.string z.key) ∧ w'.cell? ⟨b, off + k * 12 + 10, none⟩ = some (.int .i64 z.lab) ∧ w'.cell? ⟨b, off + k * 12 + 11, none⟩ = some (.string z.val)) ∧ Below W1.heap.size W1 w')
            (first | with_reducible exact keepZ hat hb HZ.out hB9 | with_reducible exact keepZ hat hb HZ.out hB7 | with_reducible exact keepZ hat hb HZ.out hB5 | with_reducible assumption | (go_split_ands; with_reducible exact keepZ hat hb HZ.out (Below.alloc (by with_reducible assumption) (bsz (by with_reducible assumption)) _)) | with_reducible exact keepZ hat hb HZ.out (Below.refl _ _).drew)
            (first
              | (go_split_ands; (refine step_appr evK _ (by rfl) _ _ _ (by rfl) W1.heap.size 31 112 _ Try.underlying24 infoEv (by rfl) _ [] (by rfl) hoa (some ⟨b, off, none⟩) c2 (p.take m) (by rw [HTL.out]; rfl) (hrt.below (by assumption) (Nat.le_refl _)) (by have := HBD.out; simp; omega) (by decide) (by simp <;> omega) ?_); intro v5 w5 ho5 hg5; have hB5 : Below W1.heap.size W1 w5 := Below.grown (by assumption) hg5 (bsz (by assumption)) hoa.base_le; rw [List.nil_append] at ho5)
              | (go_split_ands; (refine step_appr evK _ (by rfl) _ _ _ (by rfl) W1.heap.size 31 112 _ Try.underlying24 infoEv (by rfl) _ [] (by rfl) hob (some ⟨b, off, none⟩) c2 (p.take m) (by rw [HTL.out]; rfl) (hrt.below (by assumption) (Nat.le_refl _)) (by have := HBD.out; simp; omega) (by decide) (by simp <;> omega) ?_); intro v5 w5 ho5 hg5; have hB5 : Below W1.heap.size W1 w5 := Below.grown (by assumption) hg5 (bsz (by assumption)) hob.base_le; rw [List.nil_append] at ho5; have he5 := (blk_at (w := W1.drew.alloc (Obj.cells #[] 31)) (b := W1.heap.size + 1) (by simp) [.int .i64 z.r, .int .i64 z.n, .int .i64 z.c.x0, .int .i64 z.c.x1, .int .i64 z.c.x2, .int .i64 z.c.x3, .int .i64 z.c.x4, .int .i64 z.h, .int .i64 z.k, .string z.key, .int .i64 z.lab, .string z.val] 31).grown hg5 (by simp [Value.ownBlock]))
              | (go_split_ands; (refine step_appr evK _ (by rfl) _ _ _ (by rfl) W1.heap.size 31 112 _ Try.underlying24 infoEv (by rfl) _ [] (by rfl) hoc (some ⟨b, off, none⟩) c2 (p.take m) (by rw [HTL.out]; rfl) (hrt.below (by assumption) (Nat.le_refl _)) (by have := HBD.out; simp; omega) (by decide) (by simp <;> omega) ?_); intro v5 w5 ho5 hg5; have hB5 : Below W1.heap.size W1 w5 := Below.grown (by assumption) hg5 (bsz (by assumption)) hoc.base_le; rw [List.nil_append] at ho5; have he5 := ((blk_at (w := W1.drew) (b := W1.heap.size) rfl [.int .i64 z.r, .int .i64 z.n, .int .i64 z.c.x0, .int .i64 z.c.x1, .int .i64 z.c.x2, .int .i64 z.c.x3, .int .i64 z.c.x4, .int .i64 z.h, .int .i64 z.k, .string z.key, .int .i64 z.lab, .string z.val] 31).alloc (Obj.cells #[] 31)).grown hg5 (by simp [Value.ownBlock]))
              | (go_split_ands; (refine step_appr evK _ (by rfl) _ _ _ (by rfl) W1.heap.size 31 112 _ Try.underlying24 infoEv (by rfl) _ (p.take m) (by rfl) (ho5.alloc (Obj.cells #[.int .i64 z.r, .int .i64 z.n, .int .i64 z.c.x0, .int .i64 z.c.x1, .int .i64 z.c.x2, .int .i64 z.c.x3, .int .i64 z.c.x4, .int .i64 z.h, .int .i64 z.k, .string z.key, .int .i64 z.lab, .string z.val] 31)) (some ⟨w5.heap.size, 0, none⟩) 1 [z] (by rfl) (row_oneA rfl) (by have := HBD.out; simp; omega) (by decide) (by have := hB5.size; simp; omega) ?_); intro v7 w7 ho7 hg7; have hB7 : Below W1.heap.size W1 w7 := (hB5.alloc hB5.size _).grown hg7 (by have := hB5.size; simp; omega) (ho5.alloc (Obj.cells #[.int .i64 z.r, .int .i64 z.n, .int .i64 z.c.x0, .int .i64 z.c.x1, .int .i64 z.c.x2, .int .i64 z.c.x3, .int .i64 z.c.x4, .int .i64 z.h, .int .i64 z.k, .string z.key, .int .i64 z.lab, .string z.val] 31)).base_le; rw [← HRE.out] at ho7; obtain ⟨A7, c7, rfl, hr7, hc7, _⟩ := id ho7.form)
              | (go_split_ands; (refine step_appr evK _ (by rfl) _ _ _ (by rfl) W1.heap.size 31 112 _ Try.underlying24 infoEv (by rfl) _ (p.take m) (by rfl) ho5 (some ⟨_, 0, none⟩) 1 [z] (by rfl) (Kn.row_of (l := [z]) he5) (by have := HBD.out; simp; omega) (by decide) hB5.size ?_); intro v7 w7 ho7 hg7; have hB7 : Below W1.heap.size W1 w7 := hB5.grown hg7 hB5.size ho5.base_le; rw [← HRE.out] at ho7; obtain ⟨A7, c7, rfl, hr7, hc7, _⟩ := id ho7.form)
              | (go_at_call 26; refine (ordered_any A7 c7 R _ hr7 HRL.out).mono ?_; rintro e9 w9 ⟨rfl, hb9⟩; have hB9 : Below W1.heap.size W1 w9 := hB7.trans (hb9.mono hB7.size)))) | fail
          all_goals go_wp2_with fail
          all_goals go_meet
          all_goals exact ⟨rfl, hB9⟩
        case rest =>
          obtain ⟨rfl, hwe⟩ := hcut
          generalize wc = W2 at *
          have hz2 := hz1.below hwe hgl
          have hd2 := kzz.below hwe hgl'
          have hr2 := hr1.below hwe (Nat.le_refl _)
          have hB2 := hB1.trans (hwe.mono hB1.size)
          have oo1' := oo1.below hwe (Nat.le_refl _)
          have oo2' := oo2.below hwe (Nat.le_refl _)
          clear hrt hr1 hb hat hB1 hz1 kzz oo1 oo2
          obtain ⟨_, _, hA1, hb, hat⟩ := hr2.get HZ.out
          cases hA1
          have cz2 := hz2.cell
          have cd2 := hd2.cell
          have hgl2 := hz2.lt
          have hgl2' := hd2.lt
          go_upto_region 13 with fail
          have hd3 := blk_new W2 [Value.int .i64 c.x0, Value.int .i64 c.x1, Value.int .i64 c.x2, Value.int .i64 c.x3, Value.int .i64 c.x4] 23
          have hAo := oo1'.lt_size
          have hLo := oo2'.lt_size
          have hwgd : w.heap.size ≤ W2.heap.size := hB2.size
          have hx3 : Below W2.heap.size W2 (W2.alloc (Obj.cells #[.int .i64 c.x0, .int .i64 c.x1, .int .i64 c.x2, .int .i64 c.x3, .int .i64 c.x4] 23)) := (Below.refl _ _).alloc (Nat.le_refl _) _
          have hc3 := hz2.below hx3 hgl2
          have hn3 := hd2.below hx3 hgl2'
          have hr3 := hr2.below hx3 (Nat.le_refl _)
          have oa3 := oo1'.below hx3 (Nat.le_refl _)
          have ol3 := oo2'.below hx3 (Nat.le_refl _)
          have hB3 := hB2.trans (hx3.mono hB2.size)
          clear hz2 hd2 hr2 hB2 oo1' oo2' cz2 cd2 hx3
          have hbd : b < W2.heap.size := hb
          have hgd : W2.heap.size < (W2.alloc (Obj.cells #[.int .i64 c.x0, .int .i64 c.x1, .int .i64 c.x2, .int .i64 c.x3, .int .i64 c.x4] 23)).heap.size := hd3.lt
          clear hb hat
          generalize W2.alloc (Obj.cells #[.int .i64 c.x0, .int .i64 c.x1, .int .i64 c.x2, .int .i64 c.x3, .int .i64 c.x4] 23) = W3 at *
          generalize W2.heap.size = gd at *
          obtain ⟨_, _, hA1, hb, hat⟩ := hr3.get HZ.out
          cases hA1
          by_cases hor : orderedP R
          · have h3 := HDR.out.symm.trans (HO.out.yes hkm3 (by rw [← HRE.out]; exact hor))
            simp only [Prod.mk.injEq] at h3
            obtain ⟨rfl, rfl, rfl⟩ := h3
            rw [pB_true hor]
            obtain ⟨A12, c12, rfl, _⟩ := id oa3.form
            obtain ⟨A13, c13, rfl, _⟩ := id ol3.form
            obtain ⟨g12, rfl, hg12, hl12, hat12⟩ := oa3.addr (k := 0) (x := z) rfl
            have hM := HP.out.may z (List.mem_of_getElem? HZ.out)
            obtain ⟨q, hq⟩ : ∃ q : Nat, z.r = q := ⟨z.r.toNat, by have := hM.r0; omega⟩
            have hq5 : q < 5 := by have := hM.r5; omega
            have hq0 : (0 : Int) ≤ (q : Int) := by omega
            have hq5' : (q : Int) < 5 := by omega
            have HQ := Lib.hid hq
            have hbu : bump c z = c.set q z.n := by unfold bump; rw [hq, Int.toNat_natCast]
            rw [hbu] at hn3
            have he := evAt_get hat HZ.out
            have e0 := he.1
            have e1 := he.2.1
            rw [hq] at e0
            have fd3 := hd3.free
            have cd3 := hd3.cell
            have hs3 := hd3.setCk hq5 z.n
            have hbx := Below.setCell (p := ⟨gd, q, none⟩) (Below.refl gd W3) (Nat.le_refl _) (.int .i64 z.n)
            have HD := Lib.hid hbu
            clear hM hq hbu HDR HO HC
            have k0 : ((W3.setCell ⟨gd, q, none⟩ (.int .i64 z.n)).drew).cell? ⟨b, off + k * 12, none⟩ = some (.int .i64 q) := (World.cell?_setCell_other W3 _ _ _ (by first | omega | (simp; done) | (simp; omega))).trans e0
            have k1 : ((W3.setCell ⟨gd, q, none⟩ (.int .i64 z.n)).drew).cell? ⟨b, off + k * 12 + 1, none⟩ = some (.int .i64 z.n) := (World.cell?_setCell_other W3 _ _ _ (by first | omega | (simp; done) | (simp; omega))).trans e1
            go_wp2_with fail
            go_cut [30] (fun s30 wx => wx = (W3.setCell ⟨gd, q, none⟩ (.int .i64 z.n)).drew)
            case first =>
              first | (go_region_held3 (fun w' => w'.cell? ⟨b, off + k * 12, none⟩ = some (.int .i64 q) ∧ w'.cell? ⟨b, off + k * 12 + 1, none⟩ = some (.int .i64 z.n))
                (first | exact ⟨e0, e1⟩ | exact ⟨k0, k1⟩)
                (fail)) | fail
              go_wp2_with fail
              go_meet
              rfl
            case rest =>
              subst hcut
              have hn4 : blk ((W3.setCell ⟨gd, q, none⟩ (.int .i64 z.n)).drew) g' [Value.int .i64 (c.set q z.n).x0, Value.int .i64 (c.set q z.n).x1, Value.int .i64 (c.set q z.n).x2, Value.int .i64 (c.set q z.n).x3, Value.int .i64 (c.set q z.n).x4] 23 := (hn3.set_ne (a := ⟨gd, q, none⟩) (by simp; omega) (.int .i64 z.n)).drew
              have hs4 : blk ((W3.setCell ⟨gd, q, none⟩ (.int .i64 z.n)).drew) gd [Value.int .i64 (c.set q z.n).x0, Value.int .i64 (c.set q z.n).x1, Value.int .i64 (c.set q z.n).x2, Value.int .i64 (c.set q z.n).x3, Value.int .i64 (c.set q z.n).x4] 23 := hs3.drew
              have hat4 : evK.at ((W3.setCell ⟨gd, q, none⟩ (.int .i64 z.n)).drew) b off p := hat.below hbx.drew hbd
              have hat124 : evK.at ((W3.setCell ⟨gd, q, none⟩ (.int .i64 z.n)).drew) g12 0 [z] := hat12.below hbx.drew (hAo g12 rfl)
              have hB4 := ((hB3.setCell (p := ⟨gd, q, none⟩) hwgd (.int .i64 z.n))).drew
              clear k0 k1 e0 e1 he hat hb hat12 hl12 fd3 cd3 hs3 hbx hn3 hc3 hd3 hr3 oa3 ol3 hB3
              generalize (W3.setCell ⟨gd, q, none⟩ (.int .i64 z.n)).drew = W4 at *
              have he := evAt_get hat4 HZ.out
              have ha := evAt_get (k := 0) (e := z) hat124 rfl
              simp only [Nat.zero_mul, Nat.zero_add, Nat.add_zero] at ha
              obtain ⟨e0, e1, e2, e3, e4, e5, e6, e7, e8, e9, e10, e11⟩ := he
              obtain ⟨f0, f1, f2, f3, f4, f5, f6, f7, f8, f9, f10, f11⟩ := ha
              have cn4 := hn4.cell
              have cs4 := hs4.cell
              generalize c.set q z.n = d at *
              clear hat4 hat124
              go_wp2_with fail
              go_quiet (fail)
              go_wp2
              go_ret
              exact ⟨rfl, bdN hB4 nq⟩
          · have h3 := HDR.out.symm.trans (HO.out.no hkm3 (by rw [← HRE.out]; exact hor))
            simp only [Prod.mk.injEq] at h3
            obtain ⟨rfl, rfl, rfl⟩ := h3
            rw [pB_false hor]
            obtain ⟨A12, c12, rfl, _⟩ := id oa3.form
            obtain ⟨A13, c13, rfl, _⟩ := id ol3.form
            obtain ⟨g13, rfl, hg13, hl13, hat13⟩ := ol3.addr (k := 0) (x := z) rfl
            have he := evAt_get hat HZ.out
            have ha := evAt_get (k := 0) (e := z) hat13 rfl
            simp only [Nat.zero_mul, Nat.zero_add, Nat.add_zero] at ha
            obtain ⟨e0, e1, e2, e3, e4, e5, e6, e7, e8, e9, e10, e11⟩ := he
            obtain ⟨f0, f1, f2, f3, f4, f5, f6, f7, f8, f9, f10, f11⟩ := ha
            have cn3 := hn3.cell
            have cc3 := hc3.cell
            clear HDR HO HC hat hat13 hd3
            go_wp2_with fail
            go_quiet (fail)
            go_wp2
            go_ret
            exact ⟨rfl, bdN hB3 nq⟩
end Go.Proofs.Ytlfhjlkhhaoicaa
