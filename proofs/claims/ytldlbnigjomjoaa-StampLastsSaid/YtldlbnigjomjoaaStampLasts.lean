/- The walk of StampLasts. -/
import Derived.Test.YtldlbnigjomjoaaStampMoves
namespace Go.Proofs.Ytldlbnigjomjoaa
set_option linter.unusedVariables false
set_option linter.unusedSimpArgs false
open Go.RowKit
attribute [local go_sem] q_le0 q_le1 q_le2 q_le3 q_lt1 q_lt2 q_lt3
attribute [local go_sem high] eqSt

theorem getD_app1 {X Y : List St} {t : Nat} (h : t < X.length) : (X ++ Y).getD t St.zero = X.getD t St.zero := by
  simp [List.getD, List.getElem?_append_left h]
theorem getD_app2 {X Y : List St} (t : Nat) : (X ++ Y).getD (X.length + t) St.zero = Y.getD t St.zero := by
  simp [List.getD, List.getElem?_append_right (Nat.le_add_right _ _)]
/-- The latest one of two rows. -/
theorem last_app (X Y : List St) : lastI (X ++ Y) = if lastI X < 0 then lastI Y else if 0 ≤ lastI Y ∧ lessS (X.getD (lastI X).toNat St.zero) (Y.getD (lastI Y).toNat St.zero) = true then X.length + lastI Y else lastI X := by
  rcases lastI_at X with ⟨h0, h1⟩ | ⟨i, hi, hA⟩
  · obtain rfl := List.eq_nil_of_length_eq_zero h0
    rw [h1, if_pos (by omega)]; rfl
  · rw [hi, if_neg (by omega)]
    rcases lastI_at Y with ⟨h0, h1⟩ | ⟨k, hk, hB⟩
    · obtain rfl := List.eq_nil_of_length_eq_zero h0
      rw [h1, if_neg (by omega), List.append_nil, hi]
    · rw [hk]
      have hne : X ++ Y ≠ [] := fun hc => by have h2 := congrArg List.length hc; rw [List.length_append, List.length_nil] at h2; have := hA.1; omega
      obtain ⟨j, _, hj, hC, _⟩ := last_some hne
      rw [hj, Int.toNat_natCast, Int.toNat_natCast]
      have hsplit : ∀ t, t < (X ++ Y).length → (t < X.length ∧ (X ++ Y).getD t St.zero = X.getD t St.zero) ∨ ∃ s, t = X.length + s ∧ s < Y.length ∧ (X ++ Y).getD t St.zero = Y.getD s St.zero := fun t ht => by
        by_cases h : t < X.length
        · exact .inl ⟨h, getD_app1 h⟩
        · refine .inr ⟨t - X.length, by omega, by rw [List.length_append] at ht; omega, ?_⟩
          have := getD_app2 (X := X) (Y := Y) (t - X.length)
          rwa [show X.length + (t - X.length) = t from by omega] at this
      cases hl : lessS (X.getD i St.zero) (Y.getD k St.zero) with
      | true =>
        rw [if_pos ⟨by omega, rfl⟩]
        have hD : LastAt (X ++ Y) (X ++ Y).length (X.length + k) := by
          refine ⟨by rw [List.length_append]; have := hB.1; omega, fun t ht => ?_, fun t ht => ?_⟩
          · rw [getD_app2]
            rcases hsplit t ht with ⟨h, e⟩ | ⟨s, rfl, h, e⟩
            · rw [e]
              cases hc : lessS (Y.getD k St.zero) (X.getD t St.zero) with
              | false => rfl
              | true =>
                have := hA.2.1 t h
                rw [lessS_trans hl hc] at this; cases this
            · rw [e]; exact hB.2.1 s h
          · rw [getD_app2]
            rcases hsplit t (by rw [List.length_append]; have := hB.1; omega) with ⟨h, e⟩ | ⟨s, rfl, h, e⟩
            · rw [e]
              rcases lessS_tot (hA.2.1 t h) with h2 | h2
              · exact lessS_trans h2 hl
              · rw [h2]; exact hl
            · rw [e]; exact hB.2.2 s (by omega)
        have := lastAt_eq hC hD
        omega
      | false =>
        rw [if_neg (by simp)]
        have hD : LastAt (X ++ Y) (X ++ Y).length i := by
          have hi' := hA.1
          refine ⟨by rw [List.length_append]; omega, fun t ht => ?_, fun t ht => ?_⟩
          · rw [getD_app1 hi']
            rcases hsplit t ht with ⟨h, e⟩ | ⟨s, rfl, h, e⟩
            · rw [e]; exact hA.2.1 t h
            · rw [e]
              cases hc : lessS (X.getD i St.zero) (Y.getD s St.zero) with
              | false => rfl
              | true =>
                rcases lessS_tot (hB.2.1 s h) with h2 | h2
                · rw [lessS_trans hc h2] at hl; cases hl
                · rw [h2, hl] at hc; cases hc
          · rw [getD_app1 hi', getD_app1 (by omega)]
            exact hA.2.2 t ht
        have := lastAt_eq hC hD
        omega
theorem lastI_facts (X : List St) : ∃ (i : Int) (xb : Bool), lastI X = i ∧ (i == -1) = xb ∧ ((X.length : Int) == 0) = xb ∧ decide (i < -1) = false ∧ decide ((X.length : Int) ≤ i) = false ∧ -1 ≤ i := by
  rcases lastI_at X with ⟨h0, h1⟩ | ⟨i, hi, hA⟩
  · exact ⟨-1, true, h1, rfl, by rw [h0]; rfl, rfl, by rw [h0]; rfl, by omega⟩
  · have := hA.1
    exact ⟨i, false, hi, by rw [beq_eq_false_iff_ne]; omega, by rw [beq_eq_false_iff_ne]; omega, by rw [decide_eq_false_iff_not]; omega, by rw [decide_eq_false_iff_not]; omega, by omega⟩
theorem lastI_nat {X : List St} {i : Int} (h : lastI X = i) {j : Nat} (hj : j < X.length) : ∃ (k : Nat) (e : St), i = k ∧ k < X.length ∧ X[k]? = some e ∧ (∀ x ∈ X, lessS e x = false) ∧ (∀ (t : Nat) (x : St), t < k → X[t]? = some x → decide (x = e) = false) := by
  have hne : X ≠ [] := fun hc => by subst hc; simp at hj
  obtain ⟨k, e, hk, hA, he⟩ := last_some hne
  refine ⟨k, e, by rw [← h, hk], hA.1, he, fun x hx => ?_, fun t x ht hx => ?_⟩
  · obtain ⟨q, hq, rfl⟩ := List.mem_iff_getElem.1 hx
    have := hA.2.1 q hq
    rwa [getD_of he, getD_of (List.getElem?_eq_getElem hq)] at this
  · have := hA.2.2 t ht
    rw [getD_of he, getD_of hx] at this
    refine decide_eq_false fun hc => ?_
    subst hc
    rw [lessS_irr] at this; cases this
set_option maxRecDepth 100000 in
set_option maxHeartbeats 4000000 in
theorem stampLasts_any (A1 A2 : Option Addr) (c1 c2 : Nat) (l1 l2 : List St) (w : World) (hl1 : stK.row w A1 l1) (hc1 : l1.length ≤ c1) (hm1 : c1 ≤ maxLen) (hl2 : stK.row w A2 l2) (hc2 : l2.length ≤ c2) (hm2 : c2 ≤ maxLen) :
    Calls Try.prog 5 #[.slice A1 l1.length c1, .slice A2 l2.length c2] w fun e w' => e = .returned (.bool true) ∧ Below w.heap.size w w' := by
  have hX := hl1.take 30
  have hY := hl2.take 30
  have hT1 := Lib.hid (take30m l1); have hT2 := Lib.hid (take30m l2)
  have hx30 : (l1.take 30).length ≤ 30 := by rw [List.length_take]; omega
  have hy30 : (l2.take 30).length ≤ 30 := by rw [List.length_take]; omega
  generalize l1.take 30 = X at *
  generalize l2.take 30 = Y at *
  have HN := Lib.hid (last_app X Y)
  obtain ⟨i, xb, hi, hi1, hi2, hi3, hi4, hi5⟩ := lastI_facts X
  obtain ⟨k, yb, hk, hk1, hk2, hk3, hk4, hk5⟩ := lastI_facts Y
  have HI := Lib.hid hi; have HK := Lib.hid hk
  clear hi hk
  go_enter Try.func5, Try.ntmps5
  go_wp2_with fail
  refine (shown04_any _).mono ?_
  rintro e w1 ⟨rfl, hb1⟩
  go_wp2_with fail
  refine (few04_any _ _ _ _ hc1 hm1).mono ?_
  rintro e w2 ⟨rfl, rfl⟩
  rw [hT1.out]
  go_wp2_with fail
  refine (few04_any _ _ _ _ hc2 hm2).mono ?_
  rintro e w2 ⟨rfl, rfl⟩
  rw [hT2.out]
  have hX1 := hX.below hb1 (Nat.le_refl _)
  have hY1 := hY.below hb1 (Nat.le_refl _)
  have HX30 := Lib.hid hx30; have HY30 := Lib.hid hy30
  have HC1 := Lib.hid hc1; have HC2 := Lib.hid hc2
  go_wp2_with fail
  refine (last_any A1 c1 X _ hX1 (by unfold maxLen; omega)).mono ?_
  rintro e w2 ⟨rfl, hb2⟩
  rw [HI.out]
  go_wp2_with fail
  refine (last_any A2 c2 Y _ (hY1.below hb2 (Nat.le_refl _)) (by unfold maxLen; omega)).mono ?_
  rintro e w3 ⟨rfl, hb3⟩
  rw [HK.out]
  have hB3 := hb1.trans ((hb2.trans (hb3.mono hb2.size)).mono hb1.size)
  have hX3 := hX.below hB3 (Nat.le_refl _)
  have hY3 := hY.below hB3 (Nat.le_refl _)
  clear hX1 hY1 hX hY hb1 hb2 hb3
  have ho0 : stK.own 23 (w3.alloc (Obj.cells #[] 23)) w3.heap.size (.slice (some ⟨w3.heap.size, 0, none⟩) 0 0) [] := World.ownsRow_lit w3 #[] 0 (Nat.le_refl _) (by decide) rfl
  have hX1 : ([] : List St).length + X.length ≤ 1000000 := by simp; omega
  have hXY : X.length + Y.length ≤ 1000000 := by omega
  have HX1 := Lib.hid hX1; have HXY := Lib.hid hXY
  have hsz : w3.heap.size ≤ (w3.alloc (Obj.cells #[] 23)).heap.size := by simp
  have hBa : Below w3.heap.size w3 (w3.alloc (Obj.cells #[] 23)) := (Below.refl _ w3).alloc (Nat.le_refl _) _
  have hrX := hX3.below hBa (Nat.le_refl _)
  clear hX1 hXY
  go_wp2_with (first
    | (at_builtin; refine wpL_appr stK _ rfl _ _ _ rfl w3.heap.size 23 16 _ Try.underlying24 infoSt rfl _ [] rfl ho0 A1 c1 X rfl hrX HX1.out (by decide) hsz ?_; intro v1 w4 ho1 hg1; have hB4 : Below w3.heap.size w3 w4 := hBa.grown hg1 hsz ho0.base_le)
    | (at_builtin; refine wpL_appr stK _ rfl _ _ _ rfl w3.heap.size 23 16 _ Try.underlying24 infoSt rfl _ X rfl ho1 A2 c2 Y rfl (hY3.below hB4 (Nat.le_refl _)) HXY.out (by decide) hB4.size ?_; intro v2 w5 ho2 hg2; have hB5 : Below w3.heap.size w3 w5 := hB4.grown hg2 hB4.size ho1.base_le))
  obtain ⟨A3, c3, rfl, hr3, _⟩ := ho2.form
  refine (last_any A3 c3 (X ++ Y) _ hr3 (by rw [List.length_append]; unfold maxLen; have := HXY.out; omega)).mono ?_
  rintro e w6 ⟨rfl, hb6⟩
  have hB6 := hB3.trans ((hB5.trans (hb6.mono hB5.size)).mono hB3.size)
  have hX6 := (hX3.below hB5 (Nat.le_refl _)).below hb6 (Nat.le_refl _)
  have hY6 := (hY3.below hB5 (Nat.le_refl _)).below hb6 (Nat.le_refl _)
  clear hX3 hY3 hB5 hb6 hr3 ho2 ho1 ho0 hB4 hg1 hg2 hrX hsz hBa hB3
  have hN := HN.out
  rw [HI.out, HK.out] at hN
  rw [hN]
  clear hN HN
  generalize hxl : X.length = xl at *
  generalize hyl : Y.length = yl at *
  have HXL := Lib.hid hxl; have HYL := Lib.hid hyl
  clear hxl hyl
  have HI5 := Lib.hid hi5; have HK5 := Lib.hid hk5
  clear hi5 hk5
  generalize hn : (if i < 0 then k else if 0 ≤ k ∧ lessS (X.getD i.toNat St.zero) (Y.getD k.toNat St.zero) = true then (xl : Int) + k else i) = n at *
  have HN := Lib.hid hn
  clear hn
  go_wp2
  clear hi1 hi2 hi3 hi4 hk1 hk2 hk3 hk4
  go_loopg [11] (xl + 1) (fun f v11 wr => ∃ j : Nat, j ≤ xl ∧ xl - j + 1 ≤ f ∧ v11 = .int .i64 j ∧ Below w6.heap.size w6 wr)
  case atStart => exact ⟨0, by omega, by omega, rfl, Below.refl _ _⟩
  case round =>
    obtain ⟨j, hj, hf, rfl, hB⟩ := hrel
    obtain ⟨f, rfl⟩ : ∃ f, gk = f + 1 := ⟨gk - 1, by omega⟩
    by_cases hlt : j < xl
    · obtain ⟨ii, e, rfl, hii, he, htop, hfst⟩ := lastI_nat HI.out (j := j) (by rw [HXL.out]; exact hlt)
      rw [HXL.out] at hii
      obtain ⟨x, hx⟩ : ∃ x, X[j]? = some x := ⟨_, List.getElem?_eq_getElem (by rw [HXL.out]; exact hlt)⟩
      obtain ⟨b, off, rfl, hb, hat⟩ := hX6.get hx
      have hatr := hat.below hB hb
      obtain ⟨c0, c1⟩ := stAt_get hatr he
      obtain ⟨d0, d1⟩ := stAt_get hatr hx
      have hbr : b < wr.heap.size := by have := hB.size; omega
      have HLS := Lib.hid (htop x (List.mem_of_getElem? hx))
      have hfj := hfst j x
      clear htop hfst hat hatr
      have hi0 : (0 : Int) ≤ (ii : Int) := by omega
      have hi1' : (ii : Int) < (xl : Int) := by omega
      have hj0 : (0 : Int) ≤ (j : Int) := by omega
      have hj1 : (j : Int) < (xl : Int) := by omega
      by_cases hji : j < ii
      · have hji' : (j : Int) < (ii : Int) := by omega
        have hd := hfj hji hx
        clear hfj hx he
        go_wp2
        first | (go_region_held3 (fun w' => w'.cell? ⟨b, off + ii * 2, none⟩ = some (.int .i64 e.h) ∧ w'.cell? ⟨b, off + ii * 2 + 1, none⟩ = some (.int .i64 e.r) ∧ w'.cell? ⟨b, off + j * 2, none⟩ = some (.int .i64 x.h) ∧ w'.cell? ⟨b, off + j * 2 + 1, none⟩ = some (.int .i64 x.r)) (first | exact ⟨c0, c1, d0, d1⟩ | exact ⟨(hb1.cell (p := ⟨b, _, none⟩) (by simp; omega)).trans c0, (hb1.cell (p := ⟨b, _, none⟩) (by simp; omega)).trans c1, (hb1.cell (p := ⟨b, _, none⟩) (by simp; omega)).trans d0, (hb1.cell (p := ⟨b, _, none⟩) (by simp; omega)).trans d1⟩) (first | (go_at_call 9; refine (less_any e x _).mono ?_; rintro e1 w1 ⟨rfl, hb1⟩; rw [HLS.out]))) | fail
        go_wp2
        go_roundg f
        case measure => omega
        case rel => exact ⟨j + 1, by omega, by omega, by go_num, hB.drew.trans (hb1.mono (by have := hB.size; simp; omega))⟩
      · have hji' : decide ((j : Int) < (ii : Int)) = false := by rw [decide_eq_false_iff_not]; omega
        have hji2 : decide (j < ii) = false := by rw [decide_eq_false_iff_not]; omega
        clear hfj hx he
        go_wp2
        refine wp_region_held_drew (S := (fun w' => w'.cell? ⟨b, off + ii * 2, none⟩ = some (.int .i64 e.h) ∧ w'.cell? ⟨b, off + ii * 2 + 1, none⟩ = some (.int .i64 e.r) ∧ w'.cell? ⟨b, off + j * 2, none⟩ = some (.int .i64 x.h) ∧ w'.cell? ⟨b, off + j * 2 + 1, none⟩ = some (.int .i64 x.r))) (by kernel_rfl) ⟨c0, c1, d0, d1⟩ (fun hHeld => ?_)
        (refine wpAnyH_take (i := 0) (oi := ?z1o) (v := ?z1v) ?z11 ?z12 ?z13 ?z14 ?z15 ?z16 ?z18 ?_; (case z11 => rfl); (case z12 => kernel_rfl); (case z13 => kernel_rfl); (case z14 => kernel_rfl); (case z15 => exact fun _ _ _ h => h); (case z16 => refine Or.inl ⟨rfl, ?_⟩; intro w hSw; (try dsimp only at hSw); go_simp; try with_reducible rfl); (case z18 => assumption); try simp only [Act.put, List.getElem_toArray, List.getElem_cons_zero, List.getElem_cons_succ, List.setIfInBounds_toArray, List.set_cons_zero, List.set_cons_succ])
        (refine wpAnyH_take (i := 1) (oi := ?z2o) (v := ?z2v) ?z21 ?z22 ?z23 ?z24 ?z25 ?z26 ?z28 ?_; (case z21 => rfl); (case z22 => kernel_rfl); (case z23 => kernel_rfl); (case z24 => kernel_rfl); (case z25 => exact fun _ _ _ h => h); (case z26 => refine Or.inl ⟨rfl, ?_⟩; intro w hSw; (try dsimp only at hSw); go_simp; try with_reducible rfl); (case z28 => assumption); try simp only [Act.put, List.getElem_toArray, List.getElem_cons_zero, List.getElem_cons_succ, List.setIfInBounds_toArray, List.set_cons_zero, List.set_cons_succ])
        (refine wpAnyH_take (i := 2) (oi := ?z3o) (v := ?z3v) ?z31 ?z32 ?z33 ?z34 ?z35 ?z36 ?z38 ?_; (case z31 => rfl); (case z32 => kernel_rfl); (case z33 => kernel_rfl); (case z34 => kernel_rfl); (case z35 => exact fun _ _ _ h => h); (case z36 => refine Or.inl ⟨rfl, ?_⟩; intro w hSw; (try dsimp only at hSw); go_simp; try with_reducible rfl); (case z38 => assumption); try simp only [Act.put, List.getElem_toArray, List.getElem_cons_zero, List.getElem_cons_succ, List.setIfInBounds_toArray, List.set_cons_zero, List.set_cons_succ])
        (refine wpAnyH_take (i := 3) (oi := ?z4o) (v := ?z4v) ?z41 ?z42 ?z43 ?z44 ?z45 ?z46 ?z48 ?_; (case z41 => rfl); (case z42 => kernel_rfl); (case z43 => kernel_rfl); (case z44 => kernel_rfl); (case z45 => exact fun _ _ _ h => h); (case z46 => refine Or.inl ⟨rfl, ?_⟩; intro w hSw; (try dsimp only at hSw); go_simp; try with_reducible rfl); (case z48 => assumption); try simp only [Act.put, List.getElem_toArray, List.getElem_cons_zero, List.getElem_cons_succ, List.setIfInBounds_toArray, List.set_cons_zero, List.set_cons_succ])
        (refine wpAnyH_take (i := 4) (oi := ?z5o) (v := ?z5v) ?z51 ?z52 ?z53 ?z54 ?z55 ?z56 ?z58 ?_; (case z51 => rfl); (case z52 => kernel_rfl); (case z53 => kernel_rfl); (case z54 => kernel_rfl); (case z55 => exact fun _ _ _ h => h); (case z56 => refine Or.inl ⟨rfl, ?_⟩; intro w hSw; (try dsimp only at hSw); go_simp; try with_reducible rfl); (case z58 => assumption); try simp only [Act.put, List.getElem_toArray, List.getElem_cons_zero, List.getElem_cons_succ, List.setIfInBounds_toArray, List.set_cons_zero, List.set_cons_succ])
        (refine wpAnyH_take (i := 5) (oi := ?z6o) (v := ?z6v) ?z61 ?z62 ?z63 ?z64 ?z65 ?z66 ?z68 ?_; (case z61 => rfl); (case z62 => kernel_rfl); (case z63 => kernel_rfl); (case z64 => kernel_rfl); (case z65 => exact fun _ _ _ h => h); (case z66 => refine Or.inl ⟨rfl, ?_⟩; intro w hSw; (try dsimp only at hSw); go_simp; try with_reducible rfl); (case z68 => assumption); try simp only [Act.put, List.getElem_toArray, List.getElem_cons_zero, List.getElem_cons_succ, List.setIfInBounds_toArray, List.set_cons_zero, List.set_cons_succ])
        (refine wpAnyH_take (i := 6) (oi := ?z7o) (v := ?z7v) ?z71 ?z72 ?z73 ?z74 ?z75 ?z76 ?z78 ?_; (case z71 => rfl); (case z72 => kernel_rfl); (case z73 => kernel_rfl); (case z74 => kernel_rfl); (case z75 => exact fun _ _ _ h => h); (case z76 => refine Or.inl ⟨rfl, ?_⟩; intro w hSw; (try dsimp only at hSw); go_simp; try with_reducible rfl); (case z78 => assumption); try simp only [Act.put, List.getElem_toArray, List.getElem_cons_zero, List.getElem_cons_succ, List.setIfInBounds_toArray, List.set_cons_zero, List.set_cons_succ])
        (refine wpAnyH_take (i := 7) (oi := ?z8o) (v := ?z8v) ?z81 ?z82 ?z83 ?z84 ?z85 ?z86 ?z88 ?_; (case z81 => rfl); (case z82 => kernel_rfl); (case z83 => kernel_rfl); (case z84 => kernel_rfl); (case z85 => exact fun _ _ _ h => h); (case z86 => refine Or.inl ⟨rfl, ?_⟩; intro w hSw; (try dsimp only at hSw); go_simp; try with_reducible rfl); (case z88 => assumption); try simp only [Act.put, List.getElem_toArray, List.getElem_cons_zero, List.getElem_cons_succ, List.setIfInBounds_toArray, List.set_cons_zero, List.set_cons_succ])
        refine wpAnyH_ready (rs := [8]) (by kernel_rfl) (by simp) ?_
        refine AllReadyH.cons rfl (fun K hK => ?_) AllReadyH.nil
        go_simp
        refine (less_any e x _).mono ?_
        rintro e1 w1 ⟨rfl, hb1⟩
        rw [HLS.out]
        go_wp2_with fail
        refine hK.out _ _ ?_ (fun hHeld2 => ?_)
        · exact ⟨(hb1.cell (p := ⟨b, _, none⟩) (by simp; omega)).trans c0, (hb1.cell (p := ⟨b, _, none⟩) (by simp; omega)).trans c1, (hb1.cell (p := ⟨b, _, none⟩) (by simp; omega)).trans d0, (hb1.cell (p := ⟨b, _, none⟩) (by simp; omega)).trans d1⟩
        clear hK K hHeld
        try simp only [Act.put, List.setIfInBounds_toArray, List.set_cons_zero, List.set_cons_succ]
        (refine wpAnyH_take (i := 9) (oi := ?z9o) (v := ?z9v) ?z91 ?z92 ?z93 ?z94 ?z95 ?z96 ?z98 ?_; (case z91 => rfl); (case z92 => kernel_rfl); (case z93 => kernel_rfl); (case z94 => kernel_rfl); (case z95 => exact fun _ _ _ h => h); (case z96 => refine Or.inl ⟨rfl, ?_⟩; intro w hSw; (try dsimp only at hSw); go_simp; try with_reducible rfl); (case z98 => assumption); try simp only [Act.put, List.getElem_toArray, List.getElem_cons_zero, List.getElem_cons_succ, List.setIfInBounds_toArray, List.set_cons_zero, List.set_cons_succ])
        (refine wpAnyH_take (i := 10) (oi := ?z10o) (v := ?z10v) ?z101 ?z102 ?z103 ?z104 ?z105 ?z106 ?z108 ?_; (case z101 => rfl); (case z102 => kernel_rfl); (case z103 => kernel_rfl); (case z104 => kernel_rfl); (case z105 => exact fun _ _ _ h => h); (case z106 => refine Or.inl ⟨rfl, ?_⟩; intro w hSw; (try dsimp only at hSw); go_simp; try with_reducible rfl); (case z108 => assumption); try simp only [Act.put, List.getElem_toArray, List.getElem_cons_zero, List.getElem_cons_succ, List.setIfInBounds_toArray, List.set_cons_zero, List.set_cons_succ])
        (refine wpAnyH_take (i := 11) (oi := ?z11o) (v := ?z11v) ?z111 ?z112 ?z113 ?z114 ?z115 ?z116 ?z118 ?_; (case z111 => rfl); (case z112 => kernel_rfl); (case z113 => kernel_rfl); (case z114 => kernel_rfl); (case z115 => exact fun _ _ _ h => h); (case z116 => refine Or.inl ⟨rfl, ?_⟩; intro w hSw; (try dsimp only at hSw); go_simp; try with_reducible rfl); (case z118 => assumption); try simp only [Act.put, List.getElem_toArray, List.getElem_cons_zero, List.getElem_cons_succ, List.setIfInBounds_toArray, List.set_cons_zero, List.set_cons_succ])
        (refine wpAnyH_take (i := 12) (oi := ?z12o) (v := ?z12v) ?z121 ?z122 ?z123 ?z124 ?z125 ?z126 ?z128 ?_; (case z121 => rfl); (case z122 => kernel_rfl); (case z123 => kernel_rfl); (case z124 => kernel_rfl); (case z125 => exact fun _ _ _ h => h); (case z126 => refine Or.inl ⟨rfl, ?_⟩; intro w hSw; (try dsimp only at hSw); go_simp; try with_reducible rfl); (case z128 => assumption); try simp only [Act.put, List.getElem_toArray, List.getElem_cons_zero, List.getElem_cons_succ, List.setIfInBounds_toArray, List.set_cons_zero, List.set_cons_succ])
        (refine wpAnyH_take (i := 13) (oi := ?z13o) (v := ?z13v) ?z131 ?z132 ?z133 ?z134 ?z135 ?z136 ?z138 ?_; (case z131 => rfl); (case z132 => kernel_rfl); (case z133 => kernel_rfl); (case z134 => kernel_rfl); (case z135 => exact fun _ _ _ h => h); (case z136 => refine Or.inl ⟨rfl, ?_⟩; intro w hSw; (try dsimp only at hSw); go_simp; try with_reducible rfl); (case z138 => assumption); try simp only [Act.put, List.getElem_toArray, List.getElem_cons_zero, List.getElem_cons_succ, List.setIfInBounds_toArray, List.set_cons_zero, List.set_cons_succ])
        (refine wpAnyH_take (i := 14) (oi := ?z14o) (v := undef) ?z141 ?z142 ?z143 ?z144 ?z145 ?z146 ?z148 ?_; (case z141 => rfl); (case z142 => kernel_rfl); (case z143 => kernel_rfl); (case z144 => kernel_rfl); (case z145 => exact fun _ _ _ h => h); (case z146 => exact Or.inr ⟨rfl, rfl⟩); (case z148 => assumption); try simp only [Act.put, List.getElem_toArray, List.getElem_cons_zero, List.getElem_cons_succ, List.setIfInBounds_toArray, List.set_cons_zero, List.set_cons_succ])
        (refine wpAnyH_take (i := 15) (oi := ?z15o) (v := undef) ?z151 ?z152 ?z153 ?z154 ?z155 ?z156 ?z158 ?_; (case z151 => rfl); (case z152 => kernel_rfl); (case z153 => kernel_rfl); (case z154 => kernel_rfl); (case z155 => exact fun _ _ _ h => h); (case z156 => exact Or.inr ⟨rfl, rfl⟩); (case z158 => assumption); try simp only [Act.put, List.getElem_toArray, List.getElem_cons_zero, List.getElem_cons_succ, List.setIfInBounds_toArray, List.set_cons_zero, List.set_cons_succ])
        (refine wpAnyH_take (i := 16) (oi := ?z16o) (v := undef) ?z161 ?z162 ?z163 ?z164 ?z165 ?z166 ?z168 ?_; (case z161 => rfl); (case z162 => kernel_rfl); (case z163 => kernel_rfl); (case z164 => kernel_rfl); (case z165 => exact fun _ _ _ h => h); (case z166 => exact Or.inr ⟨rfl, rfl⟩); (case z168 => assumption); try simp only [Act.put, List.getElem_toArray, List.getElem_cons_zero, List.getElem_cons_succ, List.setIfInBounds_toArray, List.set_cons_zero, List.set_cons_succ])
        (refine wpAnyH_take (i := 17) (oi := ?z17o) (v := undef) ?z171 ?z172 ?z173 ?z174 ?z175 ?z176 ?z178 ?_; (case z171 => rfl); (case z172 => kernel_rfl); (case z173 => kernel_rfl); (case z174 => kernel_rfl); (case z175 => exact fun _ _ _ h => h); (case z176 => exact Or.inr ⟨rfl, rfl⟩); (case z178 => assumption); try simp only [Act.put, List.getElem_toArray, List.getElem_cons_zero, List.getElem_cons_succ, List.setIfInBounds_toArray, List.set_cons_zero, List.set_cons_succ])
        (refine wpAnyH_take (i := 18) (oi := ?z18o) (v := undef) ?z181 ?z182 ?z183 ?z184 ?z185 ?z186 ?z188 ?_; (case z181 => rfl); (case z182 => kernel_rfl); (case z183 => kernel_rfl); (case z184 => kernel_rfl); (case z185 => exact fun _ _ _ h => h); (case z186 => exact Or.inr ⟨rfl, rfl⟩); (case z188 => assumption); try simp only [Act.put, List.getElem_toArray, List.getElem_cons_zero, List.getElem_cons_succ, List.setIfInBounds_toArray, List.set_cons_zero, List.set_cons_succ])
        (refine wpAnyH_take (i := 19) (oi := ?z19o) (v := undef) ?z191 ?z192 ?z193 ?z194 ?z195 ?z196 ?z198 ?_; (case z191 => rfl); (case z192 => kernel_rfl); (case z193 => kernel_rfl); (case z194 => kernel_rfl); (case z195 => exact fun _ _ _ h => h); (case z196 => exact Or.inr ⟨rfl, rfl⟩); (case z198 => assumption); try simp only [Act.put, List.getElem_toArray, List.getElem_cons_zero, List.getElem_cons_succ, List.setIfInBounds_toArray, List.set_cons_zero, List.set_cons_succ])
        (refine wpAnyH_take (i := 20) (oi := ?z20o) (v := undef) ?z201 ?z202 ?z203 ?z204 ?z205 ?z206 ?z208 ?_; (case z201 => rfl); (case z202 => kernel_rfl); (case z203 => kernel_rfl); (case z204 => kernel_rfl); (case z205 => exact fun _ _ _ h => h); (case z206 => exact Or.inr ⟨rfl, rfl⟩); (case z208 => assumption); try simp only [Act.put, List.getElem_toArray, List.getElem_cons_zero, List.getElem_cons_succ, List.setIfInBounds_toArray, List.set_cons_zero, List.set_cons_succ])
        (refine wpAnyH_take (i := 21) (oi := ?z21o) (v := undef) ?z211 ?z212 ?z213 ?z214 ?z215 ?z216 ?z218 ?_; (case z211 => rfl); (case z212 => kernel_rfl); (case z213 => kernel_rfl); (case z214 => kernel_rfl); (case z215 => exact fun _ _ _ h => h); (case z216 => exact Or.inr ⟨rfl, rfl⟩); (case z218 => assumption); try simp only [Act.put, List.getElem_toArray, List.getElem_cons_zero, List.getElem_cons_succ, List.setIfInBounds_toArray, List.set_cons_zero, List.set_cons_succ])
        (refine wpAnyH_take (i := 22) (oi := ?z22o) (v := undef) ?z221 ?z222 ?z223 ?z224 ?z225 ?z226 ?z228 ?_; (case z221 => rfl); (case z222 => kernel_rfl); (case z223 => kernel_rfl); (case z224 => kernel_rfl); (case z225 => exact fun _ _ _ h => h); (case z226 => exact Or.inr ⟨rfl, rfl⟩); (case z228 => assumption); try simp only [Act.put, List.getElem_toArray, List.getElem_cons_zero, List.getElem_cons_succ, List.setIfInBounds_toArray, List.set_cons_zero, List.set_cons_succ])
        (refine wpAnyH_take (i := 23) (oi := ?z23o) (v := ?z23v) ?z231 ?z232 ?z233 ?z234 ?z235 ?z236 ?z238 ?_; (case z231 => rfl); (case z232 => kernel_rfl); (case z233 => kernel_rfl); (case z234 => kernel_rfl); (case z235 => exact fun _ _ _ h => h); (case z236 => refine Or.inl ⟨rfl, ?_⟩; intro w hSw; (try dsimp only at hSw); go_simp; try with_reducible rfl); (case z238 => assumption); try simp only [Act.put, List.getElem_toArray, List.getElem_cons_zero, List.getElem_cons_succ, List.setIfInBounds_toArray, List.set_cons_zero, List.set_cons_succ])
        (refine wpAnyH_take (i := 24) (oi := ?z24o) (v := ?z24v) ?z241 ?z242 ?z243 ?z244 ?z245 ?z246 ?z248 ?_; (case z241 => rfl); (case z242 => kernel_rfl); (case z243 => kernel_rfl); (case z244 => kernel_rfl); (case z245 => exact fun _ _ _ h => h); (case z246 => refine Or.inl ⟨rfl, ?_⟩; intro w hSw; (try dsimp only at hSw); go_simp; try with_reducible rfl); (case z248 => assumption); try simp only [Act.put, List.getElem_toArray, List.getElem_cons_zero, List.getElem_cons_succ, List.setIfInBounds_toArray, List.set_cons_zero, List.set_cons_succ])
        refine wpAnyH_done (by kernel_rfl) ?_ _
        go_wp2
        go_roundg f
        case measure => omega
        case rel => exact ⟨j + 1, by omega, by omega, by go_num, hB.drew.trans (hb1.mono (by have := hB.size; simp; omega))⟩
    · obtain rfl : j = xl := by omega
      have hBW := hB6.trans (hB.mono hB6.size)
      by_cases hi0 : i < 0
      · obtain rfl : k = n := by rw [← HN.out, if_pos hi0]
        go_wp2
        go_ret
        exact ⟨rfl, hBW⟩
      · have hpos : 0 < X.length := by
          rcases lastI_at X with ⟨_, h1⟩ | ⟨q, _, hA⟩
          · rw [HI.out] at h1; omega
          · have := hA.1; omega
        obtain ⟨ii, e, rfl, hii, he, _, _⟩ := lastI_nat HI.out hpos
        rw [HXL.out] at hii
        obtain ⟨b, off, rfl, hb, hat⟩ := hX6.get he
        obtain ⟨c0, c1⟩ := stAt_get (hat.below hB hb) he
        have hbr : b < wr.heap.size := by have := hB.size; omega
        have hE := getD_of he
        have hi0' : decide ((ii : Int) < 0) = false := by rw [decide_eq_false_iff_not]; omega
        have hii0 : (0 : Int) ≤ (ii : Int) := by omega
        have hii1 : (ii : Int) < (j : Int) := by omega
        have hjj : ¬ ((j : Int) < (j : Int)) := by omega
        by_cases hk0 : k < 0
        · obtain rfl : (ii : Int) = n := by rw [← HN.out, if_neg hi0, if_neg (by omega)]
          have hk0' : decide (0 ≤ k) = false := by rw [decide_eq_false_iff_not]; omega
          clear hE he hat hk0 hi0
          go_wp2
          go_quiet (fail)
          go_wp2
          go_ret
          exact ⟨rfl, bdN hBW _⟩
        · have hposY : 0 < Y.length := by
            rcases lastI_at Y with ⟨_, h1⟩ | ⟨q, _, hA⟩
            · rw [HK.out] at h1; omega
            · have := hA.1; omega
          obtain ⟨kk, y, rfl, hkk, hy, _, _⟩ := lastI_nat HK.out hposY
          rw [HYL.out] at hkk
          obtain ⟨b2, off2, rfl, hb2, hat2⟩ := hY6.get hy
          obtain ⟨d0, d1⟩ := stAt_get (hat2.below hB hb2) hy
          have hbr2 : b2 < wr.heap.size := by have := hB.size; omega
          have hY := getD_of hy
          have hk0' : decide (0 ≤ (kk : Int)) = true := by rw [decide_eq_true_iff]; omega
          have hkk0 : (0 : Int) ≤ (kk : Int) := by omega
          have hkk1 : (kk : Int) < (yl : Int) := by omega
          have hn := HN.out
          rw [if_neg hi0, Int.toNat_natCast, Int.toNat_natCast, hE, hY] at hn
          cases hls : lessS e y with
          | true =>
            have HLS := Lib.hid hls
            obtain rfl : (j : Int) + (kk : Int) = n := by rw [← hn, if_pos ⟨by omega, hls⟩]
            clear hE he hat hk0 hi0 hn hls hY hy hat2
            go_wp2
            first | (go_region_held3 (fun w' => w'.cell? ⟨b, off + ii * 2, none⟩ = some (.int .i64 e.h) ∧ w'.cell? ⟨b, off + ii * 2 + 1, none⟩ = some (.int .i64 e.r) ∧ w'.cell? ⟨b2, off2 + kk * 2, none⟩ = some (.int .i64 y.h) ∧ w'.cell? ⟨b2, off2 + kk * 2 + 1, none⟩ = some (.int .i64 y.r)) (first | exact ⟨c0, c1, d0, d1⟩ | exact ⟨(hb1.cell (p := ⟨b, _, none⟩) (by simp; omega)).trans c0, (hb1.cell (p := ⟨b, _, none⟩) (by simp; omega)).trans c1, (hb1.cell (p := ⟨b2, _, none⟩) (by simp; omega)).trans d0, (hb1.cell (p := ⟨b2, _, none⟩) (by simp; omega)).trans d1⟩) (first | (go_at_call 9; refine (less_any e y _).mono ?_; rintro e1 w1 ⟨rfl, hb1⟩; rw [HLS.out]))) | fail
            go_wp2
            go_ret
            exact ⟨ret_bool (by simp), hBW.drew.trans (hb1.mono hBW.drew.size)⟩
          | false =>
            have HLS := Lib.hid hls
            obtain rfl : (ii : Int) = n := by rw [← hn, if_neg (by rw [hls]; simp)]
            clear hE he hat hk0 hi0 hn hls hY hy hat2
            go_wp2
            first | (go_region_held3 (fun w' => w'.cell? ⟨b, off + ii * 2, none⟩ = some (.int .i64 e.h) ∧ w'.cell? ⟨b, off + ii * 2 + 1, none⟩ = some (.int .i64 e.r) ∧ w'.cell? ⟨b2, off2 + kk * 2, none⟩ = some (.int .i64 y.h) ∧ w'.cell? ⟨b2, off2 + kk * 2 + 1, none⟩ = some (.int .i64 y.r)) (first | exact ⟨c0, c1, d0, d1⟩ | exact ⟨(hb1.cell (p := ⟨b, _, none⟩) (by simp; omega)).trans c0, (hb1.cell (p := ⟨b, _, none⟩) (by simp; omega)).trans c1, (hb1.cell (p := ⟨b2, _, none⟩) (by simp; omega)).trans d0, (hb1.cell (p := ⟨b2, _, none⟩) (by simp; omega)).trans d1⟩) (first | (go_at_call 9; refine (less_any e y _).mono ?_; rintro e1 w1 ⟨rfl, hb1⟩; rw [HLS.out]))) | fail
            go_wp2
            go_ret
            exact ⟨ret_bool (by simp), hBW.drew.trans (hb1.mono hBW.drew.size)⟩
end Go.Proofs.Ytldlbnigjomjoaa
