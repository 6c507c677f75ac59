/- The walk of past.Right. -/
import Derived.Test.YtlfhjlkhhaoicaaPastD
namespace Go.Proofs.Ytlfhjlkhhaoicaa
set_option linter.unusedVariables false
set_option linter.unusedSimpArgs false
open Go.RowKit Go.Maps Go.ChangeMaps
attribute [local go_sem] ck_get ck_get? q_le0 q_le1 q_le2 q_le3 q_le4 q_le5 q_lt1 q_lt2 q_lt3 q_lt4 q_lt5

/-- An event that May is asked of here: it may be, or its own number is not what its clock says. -/
def okR (e : Ev) : Prop := May e ∨ (May0 e ∧ e.c.get e.r.toNat ≠ e.n - 1)
def evOk (e : Ev) : Prop := okR e ∧ e.ed ∧ 0 ≤ e.h ∧ e.h ≤ 100000000

set_option maxRecDepth 100000 in
set_option maxHeartbeats 2000000 in
theorem right_any (A : Option Addr) (ca : Nat) (l : List Ev) (w : World) (hl : evs w A l) (hn : l.length ≤ 1000) (hok : ∀ e ∈ l, evOk e) :
    Calls Try.prog 38 #[.slice A l.length ca] w fun e w' => e = .returned (.bool (pB (rightP l))) ∧ Below w.heap.size w w' := by
  have hmf : ∀ (fn : Fn) (first cap : Array Value) (w : World), (Instr.makeFunc fn first cap).run Try.prog w = .ok (.func fn first cap) w := fun _ _ _ _ => rfl
  have hB0 := (Below.refl w.heap.size w).alloc (Nat.le_refl _) (Obj.cells #[.slice A l.length ca] 24)
  have hs0 := blk_new w [.slice A l.length ca] 24
  have HOK := Lib.hid hok
  have HH := Lib.hid (fun e he => And.intro (hok e he).2.2.1 (hok e he).2.2.2)
  clear hok
  go_enter Try.func38, Try.ntmps38
  go_wp2_with fail
  refine (index_any A ca l _ (hl.below hB0 (Nat.le_refl _)) hn).mono ?_
  rintro e w1 ⟨B, ms, rfl, hBB, hM, hI, hB1⟩
  have HI := Lib.hid hI
  clear hI
  have hM1 := hM.alloc (Obj.cells #[.map (some B)] 79)
  have hb1 := blk_new w1 [.map (some B)] 79
  have hs1 := (hs0.below hB1 hs0.lt).alloc (Obj.cells #[.map (some B)] 79)
  have hB2 := (hB0.trans (hB1.mono hB0.size)).alloc (by have := hB0.size; have := hB1.size; omega) (Obj.cells #[.map (some B)] 79)
  have ks1 := hs1.cell
  have hlts := hs1.lt
  have hltw : w.heap.size < w1.heap.size := Nat.lt_of_lt_of_le hs0.lt hB1.size
  have hlm := fun ty => run_lenM Try.underlying79 hM1 ty
  generalize hnn : l.length = n at *
  have HN := Lib.hid hnn
  clear hnn hM hB1 hs0 hB0
  by_cases hml : ms.length = n
  · have hne : (((ms.length : Nat) : Int) != ((n : Nat) : Int)) = false := by rw [hml]; simp
    have HND := Lib.hid (HI.out.nodup.1 (by rw [HN.out]; exact hml))
    have HML := Lib.hid hml
    clear hml
    go_wp2
    clear hlm ks1
    go_loopw [15] (fun v15 wr => ∃ k : Nat, k ≤ n ∧ v15 = .int .i64 k ∧ Hid (rightAll l k) ∧ mapAt wr B ms ∧ blk wr w1.heap.size [.map (some B)] 79 ∧ blk wr w.heap.size [.slice A n ca] 24 ∧ Below w.heap.size w wr) (fun v15 _ => n - (intOf v15).toNat)
    case atStart => exact ⟨0, by omega, rfl, fun i e hi => by omega, hM1, hb1, hs1, hB2⟩
    case round =>
      clear hM1 hb1 hs1 hB2
      obtain ⟨k, hk, rfl, hR, hM, hb1, hs, hB⟩ := hrel
      by_cases hlt : k < n
      · obtain ⟨e, he⟩ : ∃ e, l[k]? = some e := ⟨_, List.getElem?_eq_getElem (by rw [HN.out]; exact hlt)⟩
        have hlr := hl.below hB (Nat.le_refl _)
        obtain ⟨b, off, hA, hb, hat⟩ := hl.get he
        obtain ⟨c0, c1, c2, c3, c4, c5, c6, c7, c8, c9, c10, c11⟩ := evAt_get (hat.below hB hb) he
        obtain ⟨hokr, hed, -, -⟩ := HOK.out e (List.mem_of_getElem? he)
        have HE := Lib.hid he
        clear he
        have hx := blk_new wr [.int .i64 e.r, .int .i64 e.n, .int .i64 e.c.x0, .int .i64 e.c.x1, .int .i64 e.c.x2, .int .i64 e.c.x3, .int .i64 e.c.x4, .int .i64 e.h, .int .i64 e.k, .string e.key, .int .i64 e.lab, .string e.val] 31
        have hltx := hx.lt
        have hMx := hM.alloc (Obj.cells #[.int .i64 e.r, .int .i64 e.n, .int .i64 e.c.x0, .int .i64 e.c.x1, .int .i64 e.c.x2, .int .i64 e.c.x3, .int .i64 e.c.x4, .int .i64 e.h, .int .i64 e.k, .string e.key, .int .i64 e.lab, .string e.val] 31)
        have hbx := hb1.alloc (Obj.cells #[.int .i64 e.r, .int .i64 e.n, .int .i64 e.c.x0, .int .i64 e.c.x1, .int .i64 e.c.x2, .int .i64 e.c.x3, .int .i64 e.c.x4, .int .i64 e.h, .int .i64 e.k, .string e.key, .int .i64 e.lab, .string e.val] 31)
        have hsx := hs.alloc (Obj.cells #[.int .i64 e.r, .int .i64 e.n, .int .i64 e.c.x0, .int .i64 e.c.x1, .int .i64 e.c.x2, .int .i64 e.c.x3, .int .i64 e.c.x4, .int .i64 e.h, .int .i64 e.k, .string e.key, .int .i64 e.lab, .string e.val] 31)
        have hBx := hB.alloc hB.size (Obj.cells #[.int .i64 e.r, .int .i64 e.n, .int .i64 e.c.x0, .int .i64 e.c.x1, .int .i64 e.c.x2, .int .i64 e.c.x3, .int .i64 e.c.x4, .int .i64 e.h, .int .i64 e.k, .string e.key, .int .i64 e.lab, .string e.val] 31)
        have hlx := hlr.below ((Below.refl wr.heap.size wr).alloc (Nat.le_refl _) (Obj.cells #[.int .i64 e.r, .int .i64 e.n, .int .i64 e.c.x0, .int .i64 e.c.x1, .int .i64 e.c.x2, .int .i64 e.c.x3, .int .i64 e.c.x4, .int .i64 e.h, .int .i64 e.k, .string e.key, .int .i64 e.lab, .string e.val] 31)) (Nat.le_refl _)
        have ltb := hb1.lt; have ltM := hM.lt; have lts := hs.lt
        have ks := hs.cell
        rcases hokr with hmay | ⟨hm0, hown⟩
        · have HMAY := Lib.hid hmay
          have hmh := (HH.out e (List.mem_of_getElem? HE.out))
          have HHT := Lib.hid (fun w' (h : evs w' A l) => by have := height_any A ca l e.c w' h (by rw [HN.out]; exact hn) HH.out; rw [HN.out] at this; exact this)
          clear hmay
          subst hA
          go_wp2
          first | (go_region_held3 (fun w' => (∀ o, w'.cell? ⟨wr.heap.size, o, none⟩ = ([.int .i64 e.r, .int .i64 e.n, .int .i64 e.c.x0, .int .i64 e.c.x1, .int .i64 e.c.x2, .int .i64 e.c.x3, .int .i64 e.c.x4, .int .i64 e.h, .int .i64 e.k, .string e.key, .int .i64 e.lab, .string e.val] : List Value)[o]?) ∧ w'.cell? ⟨w.heap.size, 0, none⟩ = some (.slice (some ⟨b, off, none⟩) n ca) ∧ wr.heap.size ≤ w'.heap.size)
            (first | with_reducible exact ⟨y6, z6, n6⟩ | with_reducible exact ⟨y5, z5, n5⟩ | exact ⟨hx.drew.cell, (hsx.drew.cell 0), by simp⟩)
            (first
              | (go_at_call 56; refine (may_yes e _ HMAY.out hed).mono ?_; rintro e3 w5 ⟨rfl, hb5⟩; have hx5 := hx.drew.below hb5 hltx; have hs5 := hsx.drew.below hb5 hsx.lt; have hl5 := hlx.below ((Below.refl _ _).drew.trans hb5) (Nat.le_refl _); have y5 := hx5.cell; have z5 := hs5.cell 0; simp only [List.getElem?_cons_zero] at z5; have n5 : wr.heap.size ≤ w5.heap.size := Nat.le_trans (by simp) hb5.size)
              | (go_at_call 39; refine (HHT.out _ hl5).mono ?_; rintro e4 w6 ⟨h, rfl, hih, hb6⟩; have HIH := Lib.hid hih; clear hih; have hx6 := hx5.below hb6 hx5.lt; have hs6 := hs5.below hb6 hs5.lt; have y6 := hx6.cell; have z6 := hs6.cell 0; simp only [List.getElem?_cons_zero] at z6; have n6 : wr.heap.size ≤ w6.heap.size := Nat.le_trans n5 hb6.size))) | fail
          have hbz : Below (wr.alloc (Obj.cells #[.int .i64 e.r, .int .i64 e.n, .int .i64 e.c.x0, .int .i64 e.c.x1, .int .i64 e.c.x2, .int .i64 e.c.x3, .int .i64 e.c.x4, .int .i64 e.h, .int .i64 e.k, .string e.key, .int .i64 e.lab, .string e.val] 31)).heap.size (wr.alloc (Obj.cells #[.int .i64 e.r, .int .i64 e.n, .int .i64 e.c.x0, .int .i64 e.c.x1, .int .i64 e.c.x2, .int .i64 e.c.x3, .int .i64 e.c.x4, .int .i64 e.h, .int .i64 e.k, .string e.key, .int .i64 e.lab, .string e.val] 31)) w6 := (Below.refl _ _).drew.trans (hb5.trans (hb6.mono hb5.size))
          have hM6 := hMx.below hbz hMx.lt
          have hb16 := hbx.below hbz hbx.lt
          have hB6 := hBx.trans (hbz.mono hBx.size)
          have hl6 := hl5.below hb6 (Nat.le_refl _)
          have lt6 := hs6.lt; have lt6' := hx6.lt
          clear hb5 hb6 hx5 hs5 hl5 y5 z5 hbz hMx hbx hBx hsx hlx hx c0 c1 c2 c3 c4 c5 c6 c7 c8 c9 c10 c11
          by_cases hh : e.h = h
          · have hnq : (e.h != h) = false := by rw [hh]; simp
            have HIH' := Lib.hid (show isHeight l e.c e.h by rw [hh]; exact HIH.out)
            clear hh
            go_wp2_with fail
            refine (has_right_any e.c n (by omega) (fun q kk => rgB l e ⟨q, kk⟩) w1.heap.size w.heap.size wr.heap.size _ ?c1).mono ?_
            case c1 =>
              intro i kk w' hi h1 h2 hBw
              have := right1_any ⟨i, kk⟩ w1.heap.size w.heap.size wr.heap.size B (some ⟨b, off, none⟩) ca l ms e w' (hb16.below hBw hb16.lt) (by rw [HN.out]; exact hs6.below hBw hs6.lt) (hx6.below hBw hx6.lt) (hl6.below hBw (Nat.le_refl _)) (hM6.below hBw hM6.lt) HI.out (by rw [HN.out]; exact hn)
              exact this
            rintro e' w2 ⟨rfl, hb2⟩
            have hM2 := hM6.below hb2 hM6.lt
            have hbb2 := hb16.below hb2 hb16.lt
            have hs2 := hs6.below hb2 hs6.lt
            have hB2 := hB6.trans (hb2.mono hB6.size)
            by_cases hp : allHas e.c n (fun q kk => rgB l e ⟨q, kk⟩) 5
            · have HP := Lib.hid hp
              rw [pB_true hp]
              clear hp
              go_wp2
              go_roundw
              case measure => simp [intOf]; omega
              case rel => exact ⟨k + 1, by omega, by go_num, fun i x hi hx => if h : i = k then (by subst h; have := HE.out; rw [hx] at this; cases this; rw [HN.out]; exact ⟨HMAY.out, HIH'.out, HP.out⟩) else hR.out i x (by omega) hx, hM2, hbb2, hs2, hB2⟩
            · have HF := Lib.hid (pB_false (p := rightP l) fun h => hp (by have := ((rightAll_iff HND.out).2 h k e (by rw [HN.out]; exact hlt) HE.out).2.2; rwa [HN.out] at this))
              rw [pB_false hp]
              clear hp
              go_wp2
              go_ret
              exact ⟨ret_bool HF.out.symm, hB2⟩
          · have hnq : (e.h != h) = true := bne_iff_ne.2 hh
            have HF := Lib.hid (pB_false (p := rightP l) fun hr => hh ((hr.height e (List.mem_of_getElem? HE.out)).uniq HIH.out))
            clear hh
            go_wp2
            go_ret
            exact ⟨ret_bool HF.out.symm, hB6⟩
        · subst hA
          have HF := Lib.hid (pB_false (p := rightP l) fun h => hown (h.may e (List.mem_of_getElem? HE.out)).own)
          have HMO := Lib.hid (And.intro hm0 hown)
          clear hm0 hown
          go_wp2
          have kx := hx.cell
          refine wp_region_held_drew (S := (fun w' => (∀ o, w'.cell? ⟨wr.heap.size, o, none⟩ = ([.int .i64 e.r, .int .i64 e.n, .int .i64 e.c.x0, .int .i64 e.c.x1, .int .i64 e.c.x2, .int .i64 e.c.x3, .int .i64 e.c.x4, .int .i64 e.h, .int .i64 e.k, .string e.key, .int .i64 e.lab, .string e.val] : List Value)[o]?))) (by kernel_rfl) kx (fun hHeld => ?_)
          (refine wpAnyH_take (i := 0) (oi := ?z1o) (v := ?z1v) ?z11 ?z12 ?z13 ?z14 ?z15 ?z16 ?z18 ?_; (case z11 => rfl); (case z12 => kernel_rfl); (case z13 => kernel_rfl); (case z14 => kernel_rfl); (case z15 => exact fun _ _ _ h => h); (case z16 => refine Or.inl ⟨rfl, ?_⟩; intro w hSw; (try dsimp only at hSw); go_simp; try with_reducible rfl); (case z18 => assumption); try simp only [Act.put, List.getElem_toArray, List.getElem_cons_zero, List.getElem_cons_succ, List.setIfInBounds_toArray, List.set_cons_zero, List.set_cons_succ])
          refine wpAnyH_ready (rs := [1]) (by kernel_rfl) (by simp) ?_
          refine AllReadyH.cons rfl (fun K hK => ?_) AllReadyH.nil
          go_simp
          refine (may_own e _ HMO.out.1 HMO.out.2).mono ?_
          rintro e1 w5 ⟨rfl, hb5⟩
          go_wp2_with fail
          refine hK.out _ _ ?_ (fun hHeld2 => ?_)
          · exact (hx.drew.below hb5 hltx).cell
          clear hK K hHeld
          try simp only [Act.put, List.setIfInBounds_toArray, List.set_cons_zero, List.set_cons_succ]
          (refine wpAnyH_take (i := 2) (oi := ?z2o) (v := ?z2v) ?z21 ?z22 ?z23 ?z24 ?z25 ?z26 ?z28 ?_; (case z21 => rfl); (case z22 => kernel_rfl); (case z23 => kernel_rfl); (case z24 => kernel_rfl); (case z25 => exact fun _ _ _ h => h); (case z26 => refine Or.inl ⟨rfl, ?_⟩; intro w hSw; (try dsimp only at hSw); go_simp; try with_reducible rfl); (case z28 => assumption); try simp only [Act.put, List.getElem_toArray, List.getElem_cons_zero, List.getElem_cons_succ, List.setIfInBounds_toArray, List.set_cons_zero, List.set_cons_succ])
          (refine wpAnyH_take (i := 3) (oi := ?z3o) (v := ?z3v) ?z31 ?z32 ?z33 ?z34 ?z35 ?z36 ?z38 ?_; (case z31 => rfl); (case z32 => kernel_rfl); (case z33 => kernel_rfl); (case z34 => kernel_rfl); (case z35 => exact fun _ _ _ h => h); (case z36 => refine Or.inl ⟨rfl, ?_⟩; intro w hSw; (try dsimp only at hSw); go_simp; try with_reducible rfl); (case z38 => assumption); try simp only [Act.put, List.getElem_toArray, List.getElem_cons_zero, List.getElem_cons_succ, List.setIfInBounds_toArray, List.set_cons_zero, List.set_cons_succ])
          (refine wpAnyH_take (i := 4) (oi := ?z4o) (v := undef) ?z41 ?z42 ?z43 ?z44 ?z45 ?z46 ?z48 ?_; (case z41 => rfl); (case z42 => kernel_rfl); (case z43 => kernel_rfl); (case z44 => kernel_rfl); (case z45 => exact fun _ _ _ h => h); (case z46 => exact Or.inr ⟨rfl, rfl⟩); (case z48 => assumption); try simp only [Act.put, List.getElem_toArray, List.getElem_cons_zero, List.getElem_cons_succ, List.setIfInBounds_toArray, List.set_cons_zero, List.set_cons_succ])
          (refine wpAnyH_take (i := 5) (oi := ?z5o) (v := undef) ?z51 ?z52 ?z53 ?z54 ?z55 ?z56 ?z58 ?_; (case z51 => rfl); (case z52 => kernel_rfl); (case z53 => kernel_rfl); (case z54 => kernel_rfl); (case z55 => exact fun _ _ _ h => h); (case z56 => exact Or.inr ⟨rfl, rfl⟩); (case z58 => assumption); try simp only [Act.put, List.getElem_toArray, List.getElem_cons_zero, List.getElem_cons_succ, List.setIfInBounds_toArray, List.set_cons_zero, List.set_cons_succ])
          (refine wpAnyH_take (i := 6) (oi := ?z6o) (v := undef) ?z61 ?z62 ?z63 ?z64 ?z65 ?z66 ?z68 ?_; (case z61 => rfl); (case z62 => kernel_rfl); (case z63 => kernel_rfl); (case z64 => kernel_rfl); (case z65 => exact fun _ _ _ h => h); (case z66 => exact Or.inr ⟨rfl, rfl⟩); (case z68 => assumption); try simp only [Act.put, List.getElem_toArray, List.getElem_cons_zero, List.getElem_cons_succ, List.setIfInBounds_toArray, List.set_cons_zero, List.set_cons_succ])
          (refine wpAnyH_take (i := 7) (oi := ?z7o) (v := undef) ?z71 ?z72 ?z73 ?z74 ?z75 ?z76 ?z78 ?_; (case z71 => rfl); (case z72 => kernel_rfl); (case z73 => kernel_rfl); (case z74 => kernel_rfl); (case z75 => exact fun _ _ _ h => h); (case z76 => exact Or.inr ⟨rfl, rfl⟩); (case z78 => assumption); try simp only [Act.put, List.getElem_toArray, List.getElem_cons_zero, List.getElem_cons_succ, List.setIfInBounds_toArray, List.set_cons_zero, List.set_cons_succ])
          (refine wpAnyH_take (i := 8) (oi := ?z8o) (v := undef) ?z81 ?z82 ?z83 ?z84 ?z85 ?z86 ?z88 ?_; (case z81 => rfl); (case z82 => kernel_rfl); (case z83 => kernel_rfl); (case z84 => kernel_rfl); (case z85 => exact fun _ _ _ h => h); (case z86 => exact Or.inr ⟨rfl, rfl⟩); (case z88 => assumption); try simp only [Act.put, List.getElem_toArray, List.getElem_cons_zero, List.getElem_cons_succ, List.setIfInBounds_toArray, List.set_cons_zero, List.set_cons_succ])
          (refine wpAnyH_take (i := 9) (oi := ?z9o) (v := undef) ?z91 ?z92 ?z93 ?z94 ?z95 ?z96 ?z98 ?_; (case z91 => rfl); (case z92 => kernel_rfl); (case z93 => kernel_rfl); (case z94 => kernel_rfl); (case z95 => exact fun _ _ _ h => h); (case z96 => exact Or.inr ⟨rfl, rfl⟩); (case z98 => assumption); try simp only [Act.put, List.getElem_toArray, List.getElem_cons_zero, List.getElem_cons_succ, List.setIfInBounds_toArray, List.set_cons_zero, List.set_cons_succ])
          (refine wpAnyH_take (i := 10) (oi := ?z10o) (v := undef) ?z101 ?z102 ?z103 ?z104 ?z105 ?z106 ?z108 ?_; (case z101 => rfl); (case z102 => kernel_rfl); (case z103 => kernel_rfl); (case z104 => kernel_rfl); (case z105 => exact fun _ _ _ h => h); (case z106 => exact Or.inr ⟨rfl, rfl⟩); (case z108 => assumption); try simp only [Act.put, List.getElem_toArray, List.getElem_cons_zero, List.getElem_cons_succ, List.setIfInBounds_toArray, List.set_cons_zero, List.set_cons_succ])
          (refine wpAnyH_take (i := 11) (oi := ?z11o) (v := ?z11v) ?z111 ?z112 ?z113 ?z114 ?z115 ?z116 ?z118 ?_; (case z111 => rfl); (case z112 => kernel_rfl); (case z113 => kernel_rfl); (case z114 => kernel_rfl); (case z115 => exact fun _ _ _ h => h); (case z116 => refine Or.inl ⟨rfl, ?_⟩; intro w hSw; (try dsimp only at hSw); go_simp; try with_reducible rfl); (case z118 => assumption); try simp only [Act.put, List.getElem_toArray, List.getElem_cons_zero, List.getElem_cons_succ, List.setIfInBounds_toArray, List.set_cons_zero, List.set_cons_succ])
          refine wpAnyH_done (by kernel_rfl) ?_ _
          go_wp2
          go_ret
          exact ⟨ret_bool HF.out.symm, hBx.drew.trans (hb5.mono hBx.size)⟩
      · obtain rfl : k = n := by omega
        have HT := Lib.hid (pB_true ((rightAll_iff HND.out).1 (by rw [HN.out]; exact hR.out)))
        go_wp2
        go_ret
        exact ⟨ret_bool HT.out.symm, hB⟩
  · have hne : (((ms.length : Nat) : Int) != ((n : Nat) : Int)) = true := by rw [bne_iff_ne]; omega
    have HF := Lib.hid (pB_false (p := rightP l) fun h => hml (by rw [← HN.out]; exact HI.out.nodup.2 h.nodup))
    clear hml
    go_wp2
    go_ret
    exact ⟨ret_bool HF.out.symm, hB2⟩
end Go.Proofs.Ytlfhjlkhhaoicaa
