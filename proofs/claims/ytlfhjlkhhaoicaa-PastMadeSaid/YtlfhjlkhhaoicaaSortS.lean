/- slices.swapRangeCmpFunc and slices.rotateCmpFunc, at events. -/
import Derived.Test.YtlfhjlkhhaoicaaSortM
import Derived.Test.YtlfhjlkhhaoicaaSpoiltP
import Derived.Deep.CutBlock
import Derived.Deep.CutRange
namespace Go.Proofs.Ytlfhjlkhhaoicaa
set_option linter.unusedVariables false
set_option linter.unusedSimpArgs false
open Go.RowKit
attribute [local go_sem] q_le0 q_le1 q_le2 q_le3 q_le4 q_le5 q_lt1 q_lt2 q_lt3 q_lt4 q_lt5

/-! Two elements of a list change places. -/
section
variable {U V Z : List Ev} {x y : Ev} {u v : Nat}
theorem sw_u (hu : u = U.length) : (U ++ x :: (V ++ y :: Z))[u]? = some x := by subst hu; simp
theorem sw_v (hv : v = U.length + 1 + V.length) : (U ++ x :: (V ++ y :: Z))[v]? = some y := by
  subst hv
  rw [List.getElem?_append_right (by omega), show U.length + 1 + V.length - U.length = V.length + 1 from by omega]
  simp
theorem sw_len : (U ++ x :: (V ++ y :: Z)).length = U.length + 1 + V.length + 1 + Z.length := by simp; omega
theorem sw_uv (hu : u = U.length) (hv : v = U.length + 1 + V.length) : ((U ++ x :: (V ++ y :: Z)).set u y).set v x = U ++ y :: (V ++ x :: Z) := by
  subst hu hv
  rw [List.set_append_right _ _ (by omega), Nat.sub_self, List.set_cons_zero, List.set_append_right _ _ (by omega), show U.length + 1 + V.length - U.length = V.length + 1 from by omega, List.set_cons_succ, List.set_append_right _ _ (by omega), Nat.sub_self, List.set_cons_zero]
theorem sw_vu (hu : u = U.length) (hv : v = U.length + 1 + V.length) : ((U ++ x :: (V ++ y :: Z)).set v x).set u y = U ++ y :: (V ++ x :: Z) := by
  subst hu hv
  rw [List.set_append_right _ _ (by omega), show U.length + 1 + V.length - U.length = V.length + 1 from by omega, List.set_cons_succ, List.set_append_right _ _ (by omega), Nat.sub_self, List.set_cons_zero, List.set_append_right _ _ (by omega), Nat.sub_self, List.set_cons_zero]
end
def swR (P X M Y Q : List Ev) (i : Nat) : List Ev := P ++ (Y.take i ++ X.drop i) ++ M ++ (X.take i ++ Y.drop i) ++ Q
theorem swR_0 (P X M Y Q : List Ev) : swR P X M Y Q 0 = P ++ X ++ M ++ Y ++ Q := by simp [swR]
theorem swR_n {P X M Y Q : List Ev} {n : Nat} (hx : X.length = n) (hy : Y.length = n) : swR P X M Y Q n = P ++ Y ++ M ++ X ++ Q := by
  unfold swR
  rw [List.take_of_length_le (by omega), List.drop_eq_nil_of_le (by omega), List.take_of_length_le (by omega), List.drop_eq_nil_of_le (by omega)]
  simp
theorem swR_at {P X M Y Q : List Ev} {i : Nat} {x y : Ev} (hx : X[i]? = some x) (hy : Y[i]? = some y) :
    swR P X M Y Q i = (P ++ Y.take i) ++ x :: ((X.drop (i + 1) ++ M ++ X.take i) ++ y :: (Y.drop (i + 1) ++ Q)) ∧ swR P X M Y Q (i + 1) = (P ++ Y.take i) ++ y :: ((X.drop (i + 1) ++ M ++ X.take i) ++ x :: (Y.drop (i + 1) ++ Q)) := by
  obtain ⟨h1, h2⟩ := List.getElem?_eq_some_iff.1 hx
  obtain ⟨h3, h4⟩ := List.getElem?_eq_some_iff.1 hy
  have dx : X.drop i = x :: X.drop (i + 1) := by rw [List.drop_eq_getElem_cons h1, h2]
  have dy : Y.drop i = y :: Y.drop (i + 1) := by rw [List.drop_eq_getElem_cons h3, h4]
  have tx : X.take (i + 1) = X.take i ++ [x] := by rw [List.take_add_one, hx]; rfl
  have ty : Y.take (i + 1) = Y.take i ++ [y] := by rw [List.take_add_one, hy]; rfl
  unfold swR
  rw [dx, dy, tx, ty]
  constructor <;> simp
set_option maxRecDepth 100000 in
set_option maxHeartbeats 4000000 in
theorem swapRange_any (b cap N A B n : Nat) (P X M Y Q : List Ev) (w : World) (h : SR w b (P ++ X ++ M ++ Y ++ Q)) (hx : X.length = n) (hy : Y.length = n) (hA : A = P.length) (hB : B = P.length + X.length + M.length) (hN : N = (P ++ X ++ M ++ Y ++ Q).length) (hN2 : N ≤ 1000) (v : Value) :
    Calls Try.prog 82 #[.slice (some ⟨b, 0, none⟩) N cap, .int .i64 A, .int .i64 B, .int .i64 n, v] w fun e w' => e = .returned (.tuple #[]) ∧ SR w' b (P ++ Y ++ M ++ X ++ Q) ∧ w.grownBy w' (some b) := by
  have HX := Lib.hid hx
  have HY := Lib.hid hy
  have HA := Lib.hid hA
  have HB := Lib.hid hB
  have hlen : P.length + n + M.length + n + Q.length = N := by rw [hN]; simp; omega
  have hbd : A + n ≤ N ∧ B + n ≤ N ∧ A + n ≤ B := by rw [hx] at hB; omega
  have HL := Lib.hid hlen
  rw [← swR_0] at h
  clear hx hy hA hB hN hlen
  obtain ⟨hb1, hb2, hb3⟩ := hbd
  go_enter Try.func82, Try.ntmps82
  go_wp2
  go_loopw [10] (fun v10 wr => ∃ i : Nat, i ≤ n ∧ v10 = .int .i64 i ∧ SR wr b (swR P X M Y Q i) ∧ w.grownBy wr (some b)) (fun v10 _ => n - (intOf v10).toNat)
  case atStart => exact ⟨0, by omega, rfl, h, World.grownBy.refl w _⟩
  case round =>
    clear h
    obtain ⟨i, hi, rfl, hr, hg⟩ := hrel
    by_cases hlt : i < n
    · obtain ⟨x, hx⟩ : ∃ x, X[i]? = some x := ⟨_, List.getElem?_eq_getElem (by rw [HX.out]; exact hlt)⟩
      obtain ⟨y, hy⟩ : ∃ y, Y[i]? = some y := ⟨_, List.getElem?_eq_getElem (by rw [HY.out]; exact hlt)⟩
      have hat := swR_at (P := P) (M := M) (Q := Q) hx hy
      have hr' := hr
      rw [hat.1] at hr'
      obtain ⟨u, hu⟩ : ∃ u, u = A + i := ⟨_, rfl⟩
      obtain ⟨q, hq⟩ : ∃ q, q = B + i := ⟨_, rfl⟩
      have hu2 : u = (P ++ Y.take i).length := by have := HA.out; rw [hu, List.length_append, List.length_take, HY.out]; omega
      have hq2 : q = (P ++ Y.take i).length + 1 + (X.drop (i + 1) ++ M ++ X.take i).length := by
        have h1 := HB.out; have h2 := HX.out; have h3 := HY.out
        rw [hq]; simp; omega
      have hgu := hr'.get (sw_u hu2)
      have hgv := hr'.get (sw_v hq2)
      have HU := Lib.hid hu2
      have HQ := Lib.hid hq2
      have HAT := Lib.hid hat
      have hcu : (A : Int) + (i : Int) = (u : Int) := by omega
      have hcq : (B : Int) + (i : Int) = (q : Int) := by omega
      have hwu : IntKind.i64.wrap (u : Int) = (u : Int) := IntWalk.i64_in _ (by omega)
      have hwq : IntKind.i64.wrap (q : Int) = (q : Int) := IntWalk.i64_in _ (by omega)
      have hu0 : (0 : Int) ≤ (u : Int) := by omega
      have hq0 : (0 : Int) ≤ (q : Int) := by omega
      have huN : (u : Int) < (N : Int) := by omega
      have hqN : (q : Int) < (N : Int) := by omega
      obtain ⟨e0, e1, e2, e3, e4, e5, e6, e7, e8, e9, e10, e11⟩ := hgu
      obtain ⟨f0, f1, f2, f3, f4, f5, f6, f7, f8, f9, f10, f11⟩ := hgv
      clear hx hy hat hu hq hu2 hq2
      have hul : u < ((P ++ Y.take i) ++ x :: ((X.drop (i + 1) ++ M ++ X.take i) ++ y :: (Y.drop (i + 1) ++ Q))).length := by rw [sw_len, HU.out]; omega
      have hql : q < ((P ++ Y.take i) ++ x :: ((X.drop (i + 1) ++ M ++ X.take i) ++ y :: (Y.drop (i + 1) ++ Q))).length := by rw [sw_len, HQ.out]; omega
      go_upto_block 1 with fail
      go_cut [36] (fun s36 wx => SR wx b (swR P X M Y Q (i + 1)) ∧ w.grownBy wx (some b))
      case first =>
        go_wp2
        refine wp_region_held_drew (S := AnyW1) (by kernel_rfl) (anyW1 _) (fun hHeld => ?_)
        (refine wpAnyH_take (i := 0) (oi := ?z1o) (v := ?z1v) ?z11 ?z12 ?z13 ?z14 ?z15 ?z16 ?z18 ?_; (case z11 => rfl); (case z12 => kernel_rfl); (case z13 => kernel_rfl); (case z14 => kernel_rfl); (case z15 => exact fun _ _ _ h => h); (case z16 => refine Or.inl ⟨rfl, ?_⟩; intro w hSw; (try dsimp only at hSw); go_simp; try with_reducible rfl); (case z18 => assumption); try simp only [Act.put, List.getElem_toArray, List.getElem_cons_zero, List.getElem_cons_succ, List.setIfInBounds_toArray, List.set_cons_zero, List.set_cons_succ])
        (refine wpAnyH_take (i := 1) (oi := ?z2o) (v := ?z2v) ?z21 ?z22 ?z23 ?z24 ?z25 ?z26 ?z28 ?_; (case z21 => rfl); (case z22 => kernel_rfl); (case z23 => kernel_rfl); (case z24 => kernel_rfl); (case z25 => exact fun _ _ _ h => h); (case z26 => refine Or.inl ⟨rfl, ?_⟩; intro w hSw; (try dsimp only at hSw); go_simp; try with_reducible rfl); (case z28 => assumption); try simp only [Act.put, List.getElem_toArray, List.getElem_cons_zero, List.getElem_cons_succ, List.setIfInBounds_toArray, List.set_cons_zero, List.set_cons_succ])
        (refine wpAnyH_take (i := 2) (oi := ?z3o) (v := ?z3v) ?z31 ?z32 ?z33 ?z34 ?z35 ?z36 ?z38 ?_; (case z31 => rfl); (case z32 => kernel_rfl); (case z33 => kernel_rfl); (case z34 => kernel_rfl); (case z35 => exact fun _ _ _ h => h); (case z36 => refine Or.inl ⟨rfl, ?_⟩; intro w hSw; (try dsimp only at hSw); go_simp; try with_reducible rfl); (case z38 => assumption); try simp only [Act.put, List.getElem_toArray, List.getElem_cons_zero, List.getElem_cons_succ, List.setIfInBounds_toArray, List.set_cons_zero, List.set_cons_succ])
        (refine wpAnyH_take (i := 3) (oi := ?z4o) (v := ?z4v) ?z41 ?z42 ?z43 ?z44 ?z45 ?z46 ?z48 ?_; (case z41 => rfl); (case z42 => kernel_rfl); (case z43 => kernel_rfl); (case z44 => kernel_rfl); (case z45 => exact fun _ _ _ h => h); (case z46 => refine Or.inl ⟨rfl, ?_⟩; intro w hSw; (try dsimp only at hSw); go_simp; try with_reducible rfl); (case z48 => assumption); try simp only [Act.put, List.getElem_toArray, List.getElem_cons_zero, List.getElem_cons_succ, List.setIfInBounds_toArray, List.set_cons_zero, List.set_cons_succ])
        (refine wpAnyH_take (i := 4) (oi := ?z5o) (v := ?z5v) ?z51 ?z52 ?z53 ?z54 ?z55 ?z56 ?z58 ?_; (case z51 => rfl); (case z52 => kernel_rfl); (case z53 => kernel_rfl); (case z54 => kernel_rfl); (case z55 => exact fun _ _ _ h => h); (case z56 => refine Or.inl ⟨rfl, ?_⟩; intro w hSw; (try dsimp only at hSw); go_simp; try with_reducible rfl); (case z58 => assumption); try simp only [Act.put, List.getElem_toArray, List.getElem_cons_zero, List.getElem_cons_succ, List.setIfInBounds_toArray, List.set_cons_zero, List.set_cons_succ])
        (refine wpAnyH_take (i := 5) (oi := ?z6o) (v := ?z6v) ?z61 ?z62 ?z63 ?z64 ?z65 ?z66 ?z68 ?_; (case z61 => rfl); (case z62 => kernel_rfl); (case z63 => kernel_rfl); (case z64 => kernel_rfl); (case z65 => exact fun _ _ _ h => h); (case z66 => refine Or.inl ⟨rfl, ?_⟩; intro w hSw; (try dsimp only at hSw); go_simp; try with_reducible rfl); (case z68 => assumption); try simp only [Act.put, List.getElem_toArray, List.getElem_cons_zero, List.getElem_cons_succ, List.setIfInBounds_toArray, List.set_cons_zero, List.set_cons_succ])
        (refine wpAnyH_take (i := 6) (oi := ?z7o) (v := ?z7v) ?z71 ?z72 ?z73 ?z74 ?z75 ?z76 ?z78 ?_; (case z71 => rfl); (case z72 => kernel_rfl); (case z73 => kernel_rfl); (case z74 => kernel_rfl); (case z75 => exact fun _ _ _ h => h); (case z76 => refine Or.inl ⟨rfl, ?_⟩; intro w hSw; (try dsimp only at hSw); go_simp; try with_reducible rfl); (case z78 => assumption); try simp only [Act.put, List.getElem_toArray, List.getElem_cons_zero, List.getElem_cons_succ, List.setIfInBounds_toArray, List.set_cons_zero, List.set_cons_succ])
        (refine wpAnyH_take (i := 7) (oi := ?z8o) (v := ?z8v) ?z81 ?z82 ?z83 ?z84 ?z85 ?z86 ?z88 ?_; (case z81 => rfl); (case z82 => kernel_rfl); (case z83 => kernel_rfl); (case z84 => kernel_rfl); (case z85 => exact fun _ _ _ h => h); (case z86 => refine Or.inl ⟨rfl, ?_⟩; intro w hSw; (try dsimp only at hSw); go_simp; try with_reducible rfl); (case z88 => assumption); try simp only [Act.put, List.getElem_toArray, List.getElem_cons_zero, List.getElem_cons_succ, List.setIfInBounds_toArray, List.set_cons_zero, List.set_cons_succ])
        (refine wpAnyH_take (i := 8) (oi := ?z9o) (v := ?z9v) ?z91 ?z92 ?z93 ?z94 ?z95 ?z96 ?z98 ?_; (case z91 => rfl); (case z92 => kernel_rfl); (case z93 => kernel_rfl); (case z94 => kernel_rfl); (case z95 => exact fun _ _ _ h => h); (case z96 => refine Or.inl ⟨rfl, ?_⟩; intro w hSw; (try dsimp only at hSw); go_simp; try with_reducible rfl); (case z98 => assumption); try simp only [Act.put, List.getElem_toArray, List.getElem_cons_zero, List.getElem_cons_succ, List.setIfInBounds_toArray, List.set_cons_zero, List.set_cons_succ])
        (refine wpAnyH_take (i := 9) (oi := ?z10o) (v := ?z10v) ?z101 ?z102 ?z103 ?z104 ?z105 ?z106 ?z108 ?_; (case z101 => rfl); (case z102 => kernel_rfl); (case z103 => kernel_rfl); (case z104 => kernel_rfl); (case z105 => exact fun _ _ _ h => h); (case z106 => refine Or.inl ⟨rfl, ?_⟩; intro w hSw; (try dsimp only at hSw); go_simp; try with_reducible rfl); (case z108 => assumption); try simp only [Act.put, List.getElem_toArray, List.getElem_cons_zero, List.getElem_cons_succ, List.setIfInBounds_toArray, List.set_cons_zero, List.set_cons_succ])
        (refine wpAnyH_take (i := 10) (oi := ?z11o) (v := ?z11v) ?z111 ?z112 ?z113 ?z114 ?z115 ?z116 ?z118 ?_; (case z111 => rfl); (case z112 => kernel_rfl); (case z113 => kernel_rfl); (case z114 => kernel_rfl); (case z115 => exact fun _ _ _ h => h); (case z116 => refine Or.inl ⟨rfl, ?_⟩; intro w hSw; (try dsimp only at hSw); go_simp; try with_reducible rfl); (case z118 => assumption); try simp only [Act.put, List.getElem_toArray, List.getElem_cons_zero, List.getElem_cons_succ, List.setIfInBounds_toArray, List.set_cons_zero, List.set_cons_succ])
        (refine wpAnyH_take (i := 11) (oi := ?z12o) (v := ?z12v) ?z121 ?z122 ?z123 ?z124 ?z125 ?z126 ?z128 ?_; (case z121 => rfl); (case z122 => kernel_rfl); (case z123 => kernel_rfl); (case z124 => kernel_rfl); (case z125 => exact fun _ _ _ h => h); (case z126 => refine Or.inl ⟨rfl, ?_⟩; intro w hSw; (try dsimp only at hSw); go_simp; try with_reducible rfl); (case z128 => assumption); try simp only [Act.put, List.getElem_toArray, List.getElem_cons_zero, List.getElem_cons_succ, List.setIfInBounds_toArray, List.set_cons_zero, List.set_cons_succ])
        (refine wpAnyH_take (i := 12) (oi := ?z13o) (v := ?z13v) ?z131 ?z132 ?z133 ?z134 ?z135 ?z136 ?z138 ?_; (case z131 => rfl); (case z132 => kernel_rfl); (case z133 => kernel_rfl); (case z134 => kernel_rfl); (case z135 => exact fun _ _ _ h => h); (case z136 => refine Or.inl ⟨rfl, ?_⟩; intro w hSw; (try dsimp only at hSw); go_simp; try with_reducible rfl); (case z138 => assumption); try simp only [Act.put, List.getElem_toArray, List.getElem_cons_zero, List.getElem_cons_succ, List.setIfInBounds_toArray, List.set_cons_zero, List.set_cons_succ])
        (refine wpAnyH_take (i := 14) (oi := ?z14o) (v := ?z14v) ?z141 ?z142 ?z143 ?z144 ?z145 ?z146 ?z148 ?_; (case z141 => rfl); (case z142 => kernel_rfl); (case z143 => kernel_rfl); (case z144 => kernel_rfl); (case z145 => exact fun _ _ _ h => h); (case z146 => refine Or.inl ⟨rfl, ?_⟩; intro w hSw; (try dsimp only at hSw); go_simp; try with_reducible rfl); (case z148 => assumption); try simp only [Act.put, List.getElem_toArray, List.getElem_cons_zero, List.getElem_cons_succ, List.setIfInBounds_toArray, List.set_cons_zero, List.set_cons_succ])
        (refine wpAnyH_take (i := 15) (oi := ?z15o) (v := ?z15v) ?z151 ?z152 ?z153 ?z154 ?z155 ?z156 ?z158 ?_; (case z151 => rfl); (case z152 => kernel_rfl); (case z153 => kernel_rfl); (case z154 => kernel_rfl); (case z155 => exact fun _ _ _ h => h); (case z156 => refine Or.inl ⟨rfl, ?_⟩; intro w hSw; (try dsimp only at hSw); go_simp; try with_reducible rfl); (case z158 => assumption); try simp only [Act.put, List.getElem_toArray, List.getElem_cons_zero, List.getElem_cons_succ, List.setIfInBounds_toArray, List.set_cons_zero, List.set_cons_succ])
        (refine wpAnyH_take (i := 16) (oi := ?z16o) (v := ?z16v) ?z161 ?z162 ?z163 ?z164 ?z165 ?z166 ?z168 ?_; (case z161 => rfl); (case z162 => kernel_rfl); (case z163 => kernel_rfl); (case z164 => kernel_rfl); (case z165 => exact fun _ _ _ h => h); (case z166 => refine Or.inl ⟨rfl, ?_⟩; intro w hSw; (try dsimp only at hSw); go_simp; try with_reducible rfl); (case z168 => assumption); try simp only [Act.put, List.getElem_toArray, List.getElem_cons_zero, List.getElem_cons_succ, List.setIfInBounds_toArray, List.set_cons_zero, List.set_cons_succ])
        (refine wpAnyH_take (i := 17) (oi := ?z17o) (v := ?z17v) ?z171 ?z172 ?z173 ?z174 ?z175 ?z176 ?z178 ?_; (case z171 => rfl); (case z172 => kernel_rfl); (case z173 => kernel_rfl); (case z174 => kernel_rfl); (case z175 => exact fun _ _ _ h => h); (case z176 => refine Or.inl ⟨rfl, ?_⟩; intro w hSw; (try dsimp only at hSw); go_simp; try with_reducible rfl); (case z178 => assumption); try simp only [Act.put, List.getElem_toArray, List.getElem_cons_zero, List.getElem_cons_succ, List.setIfInBounds_toArray, List.set_cons_zero, List.set_cons_succ])
        (refine wpAnyH_take (i := 18) (oi := ?z18o) (v := ?z18v) ?z181 ?z182 ?z183 ?z184 ?z185 ?z186 ?z188 ?_; (case z181 => rfl); (case z182 => kernel_rfl); (case z183 => kernel_rfl); (case z184 => kernel_rfl); (case z185 => exact fun _ _ _ h => h); (case z186 => refine Or.inl ⟨rfl, ?_⟩; intro w hSw; (try dsimp only at hSw); go_simp; try with_reducible rfl); (case z188 => assumption); try simp only [Act.put, List.getElem_toArray, List.getElem_cons_zero, List.getElem_cons_succ, List.setIfInBounds_toArray, List.set_cons_zero, List.set_cons_succ])
        refine wpAnyH_ready (rs := [13, 19]) (by kernel_rfl) (by simp) ?_
        refine (AllReadyH.cons rfl (fun K' hK => ?_) (AllReadyH.cons rfl (fun K' hK => ?_) AllReadyH.nil))
        · go_simp
          (refine hK.out _ _ (anyW1 _) (fun hHeld3 => ?_); clear hK K'; (try simp only [Act.put, List.setIfInBounds_toArray, List.set_cons_zero, List.set_cons_succ]))
          refine wpAnyH_ready (rs := [19]) (by kernel_rfl) (by simp) ?_
          refine (AllReadyH.cons rfl (fun K' hK => ?_) AllReadyH.nil)
          · go_simp
            (refine hK.out _ _ (anyW1 _) (fun hHeld3 => ?_); clear hK K'; (try simp only [Act.put, List.setIfInBounds_toArray, List.set_cons_zero, List.set_cons_succ]))
            (refine wpAnyH_take (i := 20) (oi := ?z19o) (v := ?z19v) ?z191 ?z192 ?z193 ?z194 ?z195 ?z196 ?z198 ?_; (case z191 => rfl); (case z192 => kernel_rfl); (case z193 => kernel_rfl); (case z194 => kernel_rfl); (case z195 => exact fun _ _ _ h => h); (case z196 => refine Or.inl ⟨rfl, ?_⟩; intro w hSw; (try dsimp only at hSw); go_simp; try with_reducible rfl); (case z198 => assumption); try simp only [Act.put, List.getElem_toArray, List.getElem_cons_zero, List.getElem_cons_succ, List.setIfInBounds_toArray, List.set_cons_zero, List.set_cons_succ])
            refine wpAnyH_ready (rs := [21]) (by kernel_rfl) (by simp) ?_
            refine (AllReadyH.cons rfl (fun K' hK => ?_) AllReadyH.nil)
            refine step_storeEv (by rfl) _ _ (by rfl) hr'.drew (k := u) hul y (by rfl) (by rfl) ?_
            have hS1 := hr'.drew.put hul y
            have hG1 := setCells_gb b (evK.enc y) (u * 12) wr.drew
            generalize (wr.drew).setCells b (u * 12) (evK.enc y) = W1 at *
            (refine hK.out _ _ (anyW1 _) (fun hHeld3 => ?_); clear hK K'; (try simp only [Act.put, List.setIfInBounds_toArray, List.set_cons_zero, List.set_cons_succ]))
            (refine wpAnyH_take (i := 22) (oi := ?z20o) (v := ?z20v) ?z201 ?z202 ?z203 ?z204 ?z205 ?z206 ?z208 ?_; (case z201 => rfl); (case z202 => kernel_rfl); (case z203 => kernel_rfl); (case z204 => kernel_rfl); (case z205 => exact fun _ _ _ h => h); (case z206 => refine Or.inl ⟨rfl, ?_⟩; intro w hSw; (try dsimp only at hSw); go_simp; try with_reducible rfl); (case z208 => assumption); try simp only [Act.put, List.getElem_toArray, List.getElem_cons_zero, List.getElem_cons_succ, List.setIfInBounds_toArray, List.set_cons_zero, List.set_cons_succ])
            refine wpAnyH_ready (rs := [23]) (by kernel_rfl) (by simp) ?_
            refine (AllReadyH.cons rfl (fun K' hK => ?_) AllReadyH.nil)
            refine step_storeEv (by rfl) _ _ (by rfl) hS1 (k := q) (by rw [List.length_set]; exact hql) x (by rfl) (by rfl) ?_
            have hS2 := hS1.put (k := q) (by rw [List.length_set]; exact hql) x
            have hG2 := setCells_gb b (evK.enc x) (q * 12) W1
            generalize W1.setCells b (q * 12) (evK.enc x) = W2 at *
            (refine hK.out _ _ (anyW1 _) (fun hHeld3 => ?_); clear hK K'; (try simp only [Act.put, List.setIfInBounds_toArray, List.set_cons_zero, List.set_cons_succ]))
            refine wpAnyH_done (by kernel_rfl) ?_ _
            (go_wp2_with fail; go_meet; exact ⟨by rw [HAT.out.2, ← sw_uv HU.out HQ.out]; exact hS2, gb_step (gb_step (gb_drew hg) hG1) hG2⟩)
        · go_simp
          (refine hK.out _ _ (anyW1 _) (fun hHeld3 => ?_); clear hK K'; (try simp only [Act.put, List.setIfInBounds_toArray, List.set_cons_zero, List.set_cons_succ]))
          refine wpAnyH_ready (rs := [13]) (by kernel_rfl) (by simp) ?_
          refine (AllReadyH.cons rfl (fun K' hK => ?_) AllReadyH.nil)
          · go_simp
            (refine hK.out _ _ (anyW1 _) (fun hHeld3 => ?_); clear hK K'; (try simp only [Act.put, List.setIfInBounds_toArray, List.set_cons_zero, List.set_cons_succ]))
            (refine wpAnyH_take (i := 20) (oi := ?z21o) (v := ?z21v) ?z211 ?z212 ?z213 ?z214 ?z215 ?z216 ?z218 ?_; (case z211 => rfl); (case z212 => kernel_rfl); (case z213 => kernel_rfl); (case z214 => kernel_rfl); (case z215 => exact fun _ _ _ h => h); (case z216 => refine Or.inl ⟨rfl, ?_⟩; intro w hSw; (try dsimp only at hSw); go_simp; try with_reducible rfl); (case z218 => assumption); try simp only [Act.put, List.getElem_toArray, List.getElem_cons_zero, List.getElem_cons_succ, List.setIfInBounds_toArray, List.set_cons_zero, List.set_cons_succ])
            refine wpAnyH_ready (rs := [21]) (by kernel_rfl) (by simp) ?_
            refine (AllReadyH.cons rfl (fun K' hK => ?_) AllReadyH.nil)
            refine step_storeEv (by rfl) _ _ (by rfl) hr'.drew (k := u) hul y (by rfl) (by rfl) ?_
            have hS1 := hr'.drew.put hul y
            have hG1 := setCells_gb b (evK.enc y) (u * 12) wr.drew
            generalize (wr.drew).setCells b (u * 12) (evK.enc y) = W1 at *
            (refine hK.out _ _ (anyW1 _) (fun hHeld3 => ?_); clear hK K'; (try simp only [Act.put, List.setIfInBounds_toArray, List.set_cons_zero, List.set_cons_succ]))
            (refine wpAnyH_take (i := 22) (oi := ?z22o) (v := ?z22v) ?z221 ?z222 ?z223 ?z224 ?z225 ?z226 ?z228 ?_; (case z221 => rfl); (case z222 => kernel_rfl); (case z223 => kernel_rfl); (case z224 => kernel_rfl); (case z225 => exact fun _ _ _ h => h); (case z226 => refine Or.inl ⟨rfl, ?_⟩; intro w hSw; (try dsimp only at hSw); go_simp; try with_reducible rfl); (case z228 => assumption); try simp only [Act.put, List.getElem_toArray, List.getElem_cons_zero, List.getElem_cons_succ, List.setIfInBounds_toArray, List.set_cons_zero, List.set_cons_succ])
            refine wpAnyH_ready (rs := [23]) (by kernel_rfl) (by simp) ?_
            refine (AllReadyH.cons rfl (fun K' hK => ?_) AllReadyH.nil)
            refine step_storeEv (by rfl) _ _ (by rfl) hS1 (k := q) (by rw [List.length_set]; exact hql) x (by rfl) (by rfl) ?_
            have hS2 := hS1.put (k := q) (by rw [List.length_set]; exact hql) x
            have hG2 := setCells_gb b (evK.enc x) (q * 12) W1
            generalize W1.setCells b (q * 12) (evK.enc x) = W2 at *
            (refine hK.out _ _ (anyW1 _) (fun hHeld3 => ?_); clear hK K'; (try simp only [Act.put, List.setIfInBounds_toArray, List.set_cons_zero, List.set_cons_succ]))
            refine wpAnyH_done (by kernel_rfl) ?_ _
            (go_wp2_with fail; go_meet; exact ⟨by rw [HAT.out.2, ← sw_uv HU.out HQ.out]; exact hS2, gb_step (gb_step (gb_drew hg) hG1) hG2⟩)
      case rest =>
        obtain ⟨hs, hgx⟩ := hcut
        clear e0 e1 e2 e3 e4 e5 e6 e7 e8 e9 e10 e11 f0 f1 f2 f3 f4 f5 f6 f7 f8 f9 f10 f11 hr hr' hg hcu hcq
        go_wp2
        go_roundw
        case measure => simp [intOf]; omega
        case rel => exact ⟨i + 1, by omega, by go_num, hs, hgx⟩
    · obtain rfl : i = n := by omega
      rw [swR_n HX.out HY.out] at hr
      go_wp2
      go_end0
      exact ⟨rfl, hr, hg⟩
end Go.Proofs.Ytlfhjlkhhaoicaa

namespace Go.Proofs.Ytlfhjlkhhaoicaa
set_option linter.unusedVariables false
set_option linter.unusedSimpArgs false
open Go.RowKit
attribute [local go_sem] q_le0 q_le1 q_le2 q_le3 q_le4 q_le5 q_lt1 q_lt2 q_lt3 q_lt4 q_lt5

structure Rot (N i j A : Nat) (Pre X Y Suf T : List Ev) : Prop where
  x : X.length = i
  y : Y.length = j
  p : Pre.length = A
  t : Pre ++ Y ++ X ++ Suf = T
  n : (Pre ++ X ++ Y ++ Suf).length = N
set_option maxRecDepth 100000 in
set_option maxHeartbeats 2000000 in
theorem rotate_any (b cap N a m e : Nat) (P X Y Q : List Ev) (w : World) (h : SR w b (P ++ X ++ Y ++ Q)) (ha : a = P.length) (hm : m = P.length + X.length) (he : e = P.length + X.length + Y.length) (hx : 0 < X.length) (hy : 0 < Y.length) (hN : N = (P ++ X ++ Y ++ Q).length) (hN2 : N ≤ 1000) (v : Value) :
    Calls Try.prog 81 #[.slice (some ⟨b, 0, none⟩) N cap, .int .i64 a, .int .i64 m, .int .i64 e, v] w fun x w' => x = .returned (.tuple #[]) ∧ SR w' b (P ++ Y ++ X ++ Q) ∧ w.grownBy w' (some b) := by
  have hst : ∃ (i j A : Nat) (Pre X' Y' Suf : List Ev), (m : Int) - (a : Int) = (i : Int) ∧ (e : Int) - (m : Int) = (j : Int) ∧ 0 < i ∧ 0 < j ∧ A + i = m ∧ m + j ≤ N ∧ Hid (Rot N i j A Pre X' Y' Suf (P ++ Y ++ X ++ Q)) ∧ SR w b (Pre ++ X' ++ Y' ++ Suf) :=
    ⟨X.length, Y.length, P.length, P, X, Y, Q, by omega, by omega, hx, hy, by omega, by simp at hN; omega, ⟨rfl, rfl, rfl, rfl, hN.symm⟩, h⟩
  generalize P ++ Y ++ X ++ Q = T at *
  have hbd : a ≤ m ∧ m ≤ e ∧ e ≤ N := by simp at hN; omega
  clear h ha hm he hx hy hN
  obtain ⟨i0, j0, A0, Pre0, X0, Y0, Suf0, hi0, hj0, h1, h2, h3, h4, hR0, hS0⟩ := hst
  obtain ⟨hb1, hb2, hb3⟩ := hbd
  go_enter Try.func81, Try.ntmps81
  go_wp2
  go_loopw [10, 11] (fun v10 v11 wr => ∃ (i j A : Nat) (Pre X' Y' Suf : List Ev), v10 = .int .i64 i ∧ v11 = .int .i64 j ∧ 0 < i ∧ 0 < j ∧ A + i = m ∧ m + j ≤ N ∧ Hid (Rot N i j A Pre X' Y' Suf T) ∧ SR wr b (Pre ++ X' ++ Y' ++ Suf) ∧ w.grownBy wr (some b)) (fun v10 v11 _ => (intOf v10).toNat + (intOf v11).toNat)
  case atStart => exact ⟨i0, j0, A0, Pre0, X0, Y0, Suf0, rfl, rfl, h1, h2, h3, h4, hR0, hS0, World.grownBy.refl w _⟩
  case round =>
    clear h1 h2 h3 h4 hR0 hS0 hi0 hj0
    obtain ⟨i, j, A, Pre, X', Y', Suf, rfl, rfl, h1, h2, h3, h4, hR, hS, hg⟩ := hrel
    have hmi : (m : Int) - (i : Int) = (A : Int) := by omega
    rcases Nat.lt_trichotomy i j with hij | hij | hij
    · obtain ⟨B, hB⟩ : ∃ B : Nat, (m : Int) + (j : Int) - (i : Int) = (B : Int) := ⟨m + j - i, by omega⟩
      obtain ⟨Y1, Y2, hy, hy1, hy2⟩ : ∃ Y1 Y2, Y' = Y1 ++ Y2 ∧ Y1.length = j - i ∧ Y2.length = i := ⟨Y'.take (j - i), Y'.drop (j - i), (List.take_append_drop _ _).symm, by rw [List.length_take, hR.out.y]; omega, by rw [List.length_drop, hR.out.y]; omega⟩
      have hS' : SR wr b (Pre ++ X' ++ Y1 ++ Y2 ++ Suf) := by rw [hy] at hS; simpa using hS
      have hc := swapRange_any b cap N A B i Pre X' Y1 Y2 Suf wr hS' hR.out.x hy2 hR.out.p.symm (by have := hR.out.x; have := hR.out.p; omega) (by rw [← hR.out.n, hy]; simp) hN2 v
      have HC := Lib.hid hc
      have hR' : Rot N i (j - i) A Pre Y2 Y1 (X' ++ Suf) T := ⟨hy2, hy1, hR.out.p, by rw [← hR.out.t, hy]; simp, by rw [← hR.out.n, hy]; simp; omega⟩
      have HR' := Lib.hid hR'
      have hji : (j : Int) - (i : Int) = ((j - i : Nat) : Int) := by omega
      have hjd : 0 < j - i := by omega
      have hd1 : ¬ (i : Int) > (j : Int) := by omega
      have hd2 : ¬ (i : Int) = (j : Int) := by omega
      have hm4 : m + (j - i) ≤ N := by omega
      clear hc hR' hy hy1 hy2 hS hS'
      go_wp2_with (first | (go_at_call 82; refine HC.out.mono ?_; rintro e5 w5 ⟨rfl, hs5, hg5⟩))
      go_roundw
      case measure => simp [intOf]; omega
      case rel => exact ⟨i, j - i, A, Pre, Y2, Y1, X' ++ Suf, rfl, by first | rfl | go_num | (rw [hji]), h1, hjd, h3, hm4, HR', by simpa using hs5, gb_step hg hg5⟩
    · obtain rfl : j = i := hij.symm
      have hc := swapRange_any b cap N A m j Pre X' [] Y' Suf wr (by simpa using hS) hR.out.x hR.out.y hR.out.p.symm (by have := hR.out.x; have := hR.out.p; simp; omega) (by rw [← hR.out.n]; simp) hN2 v
      have HC := Lib.hid hc
      have HT := Lib.hid hR.out.t
      have hjj : ((j : Int) != (j : Int)) = false := by simp
      clear hc hS hij
      go_wp2_with (first | (go_at_call 82; refine HC.out.mono ?_; rintro e5 w5 ⟨rfl, hs5, hg5⟩))
      go_end0
      exact ⟨rfl, by rw [← HT.out]; simpa using hs5, gb_step hg hg5⟩
    · obtain ⟨X1, X2, hx, hx1, hx2⟩ : ∃ X1 X2, X' = X1 ++ X2 ∧ X1.length = j ∧ X2.length = i - j := ⟨X'.take j, X'.drop j, (List.take_append_drop _ _).symm, by rw [List.length_take, hR.out.x]; omega, by rw [List.length_drop, hR.out.x]⟩
      have hS' : SR wr b (Pre ++ X1 ++ X2 ++ Y' ++ Suf) := by rw [hx] at hS; simpa using hS
      have hc := swapRange_any b cap N A m j Pre X1 X2 Y' Suf wr hS' hx1 hR.out.y hR.out.p.symm (by have := hR.out.x; have := hR.out.p; omega) (by rw [← hR.out.n, hx]; simp) hN2 v
      have HC := Lib.hid hc
      have hR' : Rot N (i - j) j (A + j) (Pre ++ Y') X2 X1 Suf T := ⟨hx2, hx1, by rw [List.length_append, hR.out.p, hR.out.y], by rw [← hR.out.t, hx]; simp, by rw [← hR.out.n, hx]; simp; omega⟩
      have HR' := Lib.hid hR'
      have hji : (i : Int) - (j : Int) = ((i - j : Nat) : Int) := by omega
      have hjd : 0 < i - j := by omega
      have hd1 : (i : Int) > (j : Int) := by omega
      have hd2 : ¬ (i : Int) = (j : Int) := by omega
      have hm4 : A + j + (i - j) = m := by omega
      clear hc hR' hx hx1 hx2 hS hS'
      go_wp2_with (first | (go_at_call 82; refine HC.out.mono ?_; rintro e5 w5 ⟨rfl, hs5, hg5⟩))
      go_roundw
      case measure => simp [intOf]; omega
      case rel => exact ⟨i - j, j, A + j, Pre ++ Y', X2, X1, Suf, by first | rfl | go_num | (rw [hji]), rfl, hjd, h2, hm4, h4, HR', by simpa using hs5, gb_step hg hg5⟩
end Go.Proofs.Ytlfhjlkhhaoicaa
