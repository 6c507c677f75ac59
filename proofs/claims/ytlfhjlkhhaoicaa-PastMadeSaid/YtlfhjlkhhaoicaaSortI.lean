/- slices.insertionSortCmpFunc, at events. -/
import Derived.Test.YtlfhjlkhhaoicaaSortS
namespace Go.Proofs.Ytlfhjlkhhaoicaa
set_option linter.unusedVariables false
set_option linter.unusedSimpArgs false
open Go.RowKit
attribute [local go_sem] q_le0 q_le1 q_le2 q_le3 q_le4 q_le5 q_lt1 q_lt2 q_lt3 q_lt4 q_lt5

theorem keepTwo {w w' : World} {b k1 k2 : Nat} {d : List Ev} {x y : Ev} (h : SR w b d) (h1 : d[k1]? = some x) (h2 : d[k2]? = some y) (hb : Below w.heap.size w w') : (w'.cell? ⟨b, k1 * 12, none⟩ = some (.int .i64 x.r) ∧ w'.cell? ⟨b, k1 * 12 + 1, none⟩ = some (.int .i64 x.n) ∧ w'.cell? ⟨b, k1 * 12 + 2, none⟩ = some (.int .i64 x.c.x0) ∧ w'.cell? ⟨b, k1 * 12 + 3, none⟩ = some (.int .i64 x.c.x1) ∧ w'.cell? ⟨b, k1 * 12 + 4, none⟩ = some (.int .i64 x.c.x2) ∧ w'.cell? ⟨b, k1 * 12 + 5, none⟩ = some (.int .i64 x.c.x3) ∧ w'.cell? ⟨b, k1 * 12 + 6, none⟩ = some (.int .i64 x.c.x4) ∧ w'.cell? ⟨b, k1 * 12 + 7, none⟩ = some (.int .i64 x.h) ∧ w'.cell? ⟨b, k1 * 12 + 8, none⟩ = some (.int .i64 x.k) ∧ w'.cell? ⟨b, k1 * 12 + 9, none⟩ = some (.string x.key) ∧ w'.cell? ⟨b, k1 * 12 + 10, none⟩ = some (.int .i64 x.lab) ∧ w'.cell? ⟨b, k1 * 12 + 11, none⟩ = some (.string x.val)) ∧ (w'.cell? ⟨b, k2 * 12, none⟩ = some (.int .i64 y.r) ∧ w'.cell? ⟨b, k2 * 12 + 1, none⟩ = some (.int .i64 y.n) ∧ w'.cell? ⟨b, k2 * 12 + 2, none⟩ = some (.int .i64 y.c.x0) ∧ w'.cell? ⟨b, k2 * 12 + 3, none⟩ = some (.int .i64 y.c.x1) ∧ w'.cell? ⟨b, k2 * 12 + 4, none⟩ = some (.int .i64 y.c.x2) ∧ w'.cell? ⟨b, k2 * 12 + 5, none⟩ = some (.int .i64 y.c.x3) ∧ w'.cell? ⟨b, k2 * 12 + 6, none⟩ = some (.int .i64 y.c.x4) ∧ w'.cell? ⟨b, k2 * 12 + 7, none⟩ = some (.int .i64 y.h) ∧ w'.cell? ⟨b, k2 * 12 + 8, none⟩ = some (.int .i64 y.k) ∧ w'.cell? ⟨b, k2 * 12 + 9, none⟩ = some (.string y.key) ∧ w'.cell? ⟨b, k2 * 12 + 10, none⟩ = some (.int .i64 y.lab) ∧ w'.cell? ⟨b, k2 * 12 + 11, none⟩ = some (.string y.val)) ∧ Below w.heap.size w w' := ⟨(h.below hb).get h1, (h.below hb).get h2, hb⟩
/-- What sorting the middle part gives. -/
structure Sorted (M S : List Ev) : Prop where
  stb : Stb M S
  srt : Srt S
theorem Sorted.len {M S : List Ev} (h : Sorted M S) : S.length = M.length := h.stb.perm.length_eq.symm
theorem ins_exit {M S L1 L2 : List Ev} {k : Nat} {x : Ev} (hk : S.length = k ∧ Sorted (M.take k) S) (hTK : M.take (k + 1) = M.take k ++ [x]) (hj : L1 ++ L2 = S ∧ ∀ y ∈ L2, ltE x y) (h : ∀ y, L1.getLast? = some y → leE y x) :
    (L1 ++ x :: L2).length = k + 1 ∧ Sorted (M.take (k + 1)) (L1 ++ x :: L2) := by
  obtain ⟨hk1, hk2⟩ := hk
  obtain ⟨rfl, hj2⟩ := hj
  refine ⟨by simp at hk1 ⊢; omega, ?_, ins_stop hk2.srt hj2 h⟩
  rw [hTK]
  exact (hk2.stb.append (Stb.refl [x])).trans (ins_stb hj2)
def InsPost (P M Q : List Ev) (b : Nat) (w : World) (x : Ending) (w' : World) : Prop := x = .returned (.tuple #[]) ∧ (∃ S, Sorted M S ∧ SR w' b (P ++ S ++ Q)) ∧ w.grownBy w' (some b)
set_option maxRecDepth 100000 in
set_option maxHeartbeats 4000000 in
theorem insertion_any (b cap N a e : Nat) (P M Q : List Ev) (w : World) (h : SR w b (P ++ M ++ Q)) (ha : a = P.length) (he : e = P.length + M.length) (hN : N = (P ++ M ++ Q).length) (hN2 : N ≤ 1000) :
    Calls Try.prog 79 #[.slice (some ⟨b, 0, none⟩) N cap, .int .i64 a, .int .i64 e, SortFn] w (InsPost P M Q b w) := by
  unfold SortFn
  have HA := Lib.hid ha
  have HE := Lib.hid he
  have HN := Lib.hid hN
  have hbd : a ≤ e ∧ e ≤ N := by simp at hN; omega
  obtain ⟨hb1, hb2⟩ := hbd
  by_cases hM : M.length = 0
  · have hea : e = a := by omega
    have hne : ¬ ((a : Int) + 1 < (e : Int)) := by omega
    obtain rfl : M = [] := List.eq_nil_of_length_eq_zero hM
    clear ha he hN hM
    go_enter Try.func79, Try.ntmps79
    go_wp2
    go_loopw [8] (fun v8 wr => v8 = .int .i64 ((a : Int) + 1) ∧ wr = w) (fun _ _ => 0)
    case atStart => exact ⟨rfl, rfl⟩
    case round =>
      obtain ⟨rfl, rfl⟩ := hrel
      go_wp2
      go_end0
      exact ⟨rfl, ⟨[], ⟨Stb.refl _, List.Pairwise.nil⟩, h⟩, World.grownBy.refl _ _⟩
  · have h0 : ∃ (i k : Nat) (S : List Ev), 1 ≤ k ∧ a + k = i ∧ i ≤ e ∧ (a : Int) + 1 = (i : Int) ∧ Hid (S.length = k ∧ Sorted (M.take k) S) ∧ SR w b (P ++ S ++ M.drop k ++ Q) := by
      refine ⟨a + 1, 1, M.take 1, by omega, by omega, by omega, by omega, ⟨by rw [List.length_take]; omega, Stb.refl _, ?_⟩, by rw [List.append_assoc P, List.take_append_drop]; exact h⟩
      cases M with
      | nil => simp at hM
      | cons x M => simp
    obtain ⟨i0, k0, S0, hk0, hk1, hie, hk2, hS0, hr0⟩ := h0
    clear ha he hN hM h
    go_enter Try.func79, Try.ntmps79
    go_wp2
    go_loopw [8] (fun v8 wr => ∃ (i k : Nat) (S : List Ev), 1 ≤ k ∧ a + k = i ∧ i ≤ e ∧ v8 = .int .i64 i ∧ Hid (S.length = k ∧ Sorted (M.take k) S) ∧ SR wr b (P ++ S ++ M.drop k ++ Q) ∧ w.grownBy wr (some b)) (fun v8 _ => e - (intOf v8).toNat)
    case atStart => exact ⟨i0, k0, S0, hk0, hk1, hie, rfl, hS0, hr0, World.grownBy.refl w _⟩
    case round =>
      clear hk0 hk1 hk2 hie hS0 hr0
      obtain ⟨i, k, S, hk0, hki, hie, rfl, hS, hr, hg⟩ := hrel
      by_cases hlt : i < e
      · obtain ⟨x, hx⟩ : ∃ x, M[k]? = some x := ⟨_, List.getElem?_eq_getElem (by have := HA.out; have := HE.out; omega)⟩
        have hdr : M.drop k = x :: M.drop (k + 1) := by
          obtain ⟨h1, h2⟩ := List.getElem?_eq_some_iff.1 hx
          rw [List.drop_eq_getElem_cons h1, h2]
        have HTK := Lib.hid (show M.take (k + 1) = M.take k ++ [x] by rw [List.take_add_one, hx]; rfl)
        rw [hdr, List.append_assoc, List.cons_append] at hr
        generalize hT : M.drop (k + 1) ++ Q = T at *
        have HT := Lib.hid hT
        have hti : (i : Int) < (e : Int) := by omega
        clear hx hdr hT
        have hj0 : ∃ (L1 L2 : List Ev), a + L1.length = i ∧ Hid (L1 ++ L2 = S ∧ ∀ y ∈ L2, ltE x y) ∧ SR wr b (P ++ L1 ++ x :: (L2 ++ T)) :=
          ⟨S, [], by rw [hS.out.1]; exact hki, ⟨by simp, by simp⟩, by simpa using hr⟩
        obtain ⟨L10, L20, hj1, hj2, hj3⟩ := hj0
        have HKI := Lib.hid hki
        clear hr hki
        go_wp2
        go_loopw [9] (fun v9 wr => ∃ (j : Nat) (L1 L2 : List Ev), v9 = .int .i64 j ∧ a + L1.length = j ∧ j ≤ i ∧ Hid (L1 ++ L2 = S ∧ ∀ y ∈ L2, ltE x y) ∧ SR wr b (P ++ L1 ++ x :: (L2 ++ T)) ∧ w.grownBy wr (some b)) (fun v9 _ => (intOf v9).toNat)
        case atStart => exact ⟨i, L10, L20, rfl, hj1, Nat.le_refl _, hj2, hj3, hg⟩
        case round =>
          clear hj1 hj2 hj3 hg
          obtain ⟨j, L1, L2, rfl, hj1, hji, hj2, hr, hg⟩ := hrel
          rcases List.eq_nil_or_concat L1 with hL1 | ⟨L, y, hL1⟩
          · subst hL1
            obtain rfl : j = a := by simpa using hj1.symm
            have hex := ins_exit hS.out HTK.out hj2.out (fun y hy => by simp at hy)
            have HEX := Lib.hid hex
            have hrw : SR wr b (P ++ ([] ++ x :: L2) ++ M.drop (k + 1) ++ Q) := by have := HT.out; rw [← this] at hr; simpa using hr
            clear hj1 hj2 hex hr
            go_wp2
            refine wp_region_held_drew (S := AnyW1) (by kernel_rfl) (anyW1 _) (fun hHeld => ?_)
            (refine wpAnyH_take (i := 0) (oi := ?z1o) (v := ?z1v) ?z11 ?z12 ?z13 ?z14 ?z15 ?z16 ?z18 ?_; (case z11 => rfl); (case z12 => kernel_rfl); (case z13 => kernel_rfl); (case z14 => kernel_rfl); (case z15 => exact fun _ _ _ h => h); (case z16 => refine Or.inl ⟨rfl, ?_⟩; intro w hSw; (try dsimp only at hSw); go_simp; try with_reducible rfl); (case z18 => assumption); try simp only [Act.put, List.getElem_toArray, List.getElem_cons_zero, List.getElem_cons_succ, List.setIfInBounds_toArray, List.set_cons_zero, List.set_cons_succ])
            (refine wpAnyH_take (i := 1) (oi := ?z2o) (v := ?z2v) ?z21 ?z22 ?z23 ?z24 ?z25 ?z26 ?z28 ?_; (case z21 => rfl); (case z22 => kernel_rfl); (case z23 => kernel_rfl); (case z24 => kernel_rfl); (case z25 => exact fun _ _ _ h => h); (case z26 => refine Or.inl ⟨rfl, ?_⟩; intro w hSw; (try dsimp only at hSw); go_simp; try with_reducible rfl); (case z28 => assumption); try simp only [Act.put, List.getElem_toArray, List.getElem_cons_zero, List.getElem_cons_succ, List.setIfInBounds_toArray, List.set_cons_zero, List.set_cons_succ])
            (refine wpAnyH_take (i := 2) (oi := ?z3o) (v := ?z3v) ?z31 ?z32 ?z33 ?z34 ?z35 ?z36 ?z38 ?_; (case z31 => rfl); (case z32 => kernel_rfl); (case z33 => kernel_rfl); (case z34 => kernel_rfl); (case z35 => exact fun _ _ _ h => h); (case z36 => refine Or.inl ⟨rfl, ?_⟩; intro w hSw; (try dsimp only at hSw); go_simp; try with_reducible rfl); (case z38 => assumption); try simp only [Act.put, List.getElem_toArray, List.getElem_cons_zero, List.getElem_cons_succ, List.setIfInBounds_toArray, List.set_cons_zero, List.set_cons_succ])
            (refine wpAnyH_take (i := 3) (oi := ?z4o) (v := ?z4v) ?z41 ?z42 ?z43 ?z44 ?z45 ?z46 ?z48 ?_; (case z41 => rfl); (case z42 => kernel_rfl); (case z43 => kernel_rfl); (case z44 => kernel_rfl); (case z45 => exact fun _ _ _ h => h); (case z46 => refine Or.inl ⟨rfl, ?_⟩; intro w hSw; (try dsimp only at hSw); go_simp; try with_reducible rfl); (case z48 => assumption); try simp only [Act.put, List.getElem_toArray, List.getElem_cons_zero, List.getElem_cons_succ, List.setIfInBounds_toArray, List.set_cons_zero, List.set_cons_succ])
            (refine wpAnyH_take (i := 4) (oi := ?z5o) (v := undef) ?z51 ?z52 ?z53 ?z54 ?z55 ?z56 ?z58 ?_; (case z51 => rfl); (case z52 => kernel_rfl); (case z53 => kernel_rfl); (case z54 => kernel_rfl); (case z55 => exact fun _ _ _ h => h); (case z56 => exact Or.inr ⟨rfl, rfl⟩); (case z58 => assumption); try simp only [Act.put, List.getElem_toArray, List.getElem_cons_zero, List.getElem_cons_succ, List.setIfInBounds_toArray, List.set_cons_zero, List.set_cons_succ])
            (refine wpAnyH_take (i := 5) (oi := ?z6o) (v := undef) ?z61 ?z62 ?z63 ?z64 ?z65 ?z66 ?z68 ?_; (case z61 => rfl); (case z62 => kernel_rfl); (case z63 => kernel_rfl); (case z64 => kernel_rfl); (case z65 => exact fun _ _ _ h => h); (case z66 => exact Or.inr ⟨rfl, rfl⟩); (case z68 => assumption); try simp only [Act.put, List.getElem_toArray, List.getElem_cons_zero, List.getElem_cons_succ, List.setIfInBounds_toArray, List.set_cons_zero, List.set_cons_succ])
            (refine wpAnyH_take (i := 6) (oi := ?z7o) (v := undef) ?z71 ?z72 ?z73 ?z74 ?z75 ?z76 ?z78 ?_; (case z71 => rfl); (case z72 => kernel_rfl); (case z73 => kernel_rfl); (case z74 => kernel_rfl); (case z75 => exact fun _ _ _ h => h); (case z76 => exact Or.inr ⟨rfl, rfl⟩); (case z78 => assumption); try simp only [Act.put, List.getElem_toArray, List.getElem_cons_zero, List.getElem_cons_succ, List.setIfInBounds_toArray, List.set_cons_zero, List.set_cons_succ])
            (refine wpAnyH_take (i := 7) (oi := ?z8o) (v := undef) ?z81 ?z82 ?z83 ?z84 ?z85 ?z86 ?z88 ?_; (case z81 => rfl); (case z82 => kernel_rfl); (case z83 => kernel_rfl); (case z84 => kernel_rfl); (case z85 => exact fun _ _ _ h => h); (case z86 => exact Or.inr ⟨rfl, rfl⟩); (case z88 => assumption); try simp only [Act.put, List.getElem_toArray, List.getElem_cons_zero, List.getElem_cons_succ, List.setIfInBounds_toArray, List.set_cons_zero, List.set_cons_succ])
            (refine wpAnyH_take (i := 8) (oi := ?z9o) (v := undef) ?z91 ?z92 ?z93 ?z94 ?z95 ?z96 ?z98 ?_; (case z91 => rfl); (case z92 => kernel_rfl); (case z93 => kernel_rfl); (case z94 => kernel_rfl); (case z95 => exact fun _ _ _ h => h); (case z96 => exact Or.inr ⟨rfl, rfl⟩); (case z98 => assumption); try simp only [Act.put, List.getElem_toArray, List.getElem_cons_zero, List.getElem_cons_succ, List.setIfInBounds_toArray, List.set_cons_zero, List.set_cons_succ])
            (refine wpAnyH_take (i := 9) (oi := ?z10o) (v := undef) ?z101 ?z102 ?z103 ?z104 ?z105 ?z106 ?z108 ?_; (case z101 => rfl); (case z102 => kernel_rfl); (case z103 => kernel_rfl); (case z104 => kernel_rfl); (case z105 => exact fun _ _ _ h => h); (case z106 => exact Or.inr ⟨rfl, rfl⟩); (case z108 => assumption); try simp only [Act.put, List.getElem_toArray, List.getElem_cons_zero, List.getElem_cons_succ, List.setIfInBounds_toArray, List.set_cons_zero, List.set_cons_succ])
            (refine wpAnyH_take (i := 10) (oi := ?z11o) (v := undef) ?z111 ?z112 ?z113 ?z114 ?z115 ?z116 ?z118 ?_; (case z111 => rfl); (case z112 => kernel_rfl); (case z113 => kernel_rfl); (case z114 => kernel_rfl); (case z115 => exact fun _ _ _ h => h); (case z116 => exact Or.inr ⟨rfl, rfl⟩); (case z118 => assumption); try simp only [Act.put, List.getElem_toArray, List.getElem_cons_zero, List.getElem_cons_succ, List.setIfInBounds_toArray, List.set_cons_zero, List.set_cons_succ])
            (refine wpAnyH_take (i := 11) (oi := ?z12o) (v := undef) ?z121 ?z122 ?z123 ?z124 ?z125 ?z126 ?z128 ?_; (case z121 => rfl); (case z122 => kernel_rfl); (case z123 => kernel_rfl); (case z124 => kernel_rfl); (case z125 => exact fun _ _ _ h => h); (case z126 => exact Or.inr ⟨rfl, rfl⟩); (case z128 => assumption); try simp only [Act.put, List.getElem_toArray, List.getElem_cons_zero, List.getElem_cons_succ, List.setIfInBounds_toArray, List.set_cons_zero, List.set_cons_succ])
            (refine wpAnyH_take (i := 12) (oi := ?z13o) (v := undef) ?z131 ?z132 ?z133 ?z134 ?z135 ?z136 ?z138 ?_; (case z131 => rfl); (case z132 => kernel_rfl); (case z133 => kernel_rfl); (case z134 => kernel_rfl); (case z135 => exact fun _ _ _ h => h); (case z136 => exact Or.inr ⟨rfl, rfl⟩); (case z138 => assumption); try simp only [Act.put, List.getElem_toArray, List.getElem_cons_zero, List.getElem_cons_succ, List.setIfInBounds_toArray, List.set_cons_zero, List.set_cons_succ])
            (refine wpAnyH_take (i := 13) (oi := ?z14o) (v := undef) ?z141 ?z142 ?z143 ?z144 ?z145 ?z146 ?z148 ?_; (case z141 => rfl); (case z142 => kernel_rfl); (case z143 => kernel_rfl); (case z144 => kernel_rfl); (case z145 => exact fun _ _ _ h => h); (case z146 => exact Or.inr ⟨rfl, rfl⟩); (case z148 => assumption); try simp only [Act.put, List.getElem_toArray, List.getElem_cons_zero, List.getElem_cons_succ, List.setIfInBounds_toArray, List.set_cons_zero, List.set_cons_succ])
            (refine wpAnyH_take (i := 14) (oi := ?z15o) (v := undef) ?z151 ?z152 ?z153 ?z154 ?z155 ?z156 ?z158 ?_; (case z151 => rfl); (case z152 => kernel_rfl); (case z153 => kernel_rfl); (case z154 => kernel_rfl); (case z155 => exact fun _ _ _ h => h); (case z156 => exact Or.inr ⟨rfl, rfl⟩); (case z158 => assumption); try simp only [Act.put, List.getElem_toArray, List.getElem_cons_zero, List.getElem_cons_succ, List.setIfInBounds_toArray, List.set_cons_zero, List.set_cons_succ])
            (refine wpAnyH_take (i := 15) (oi := ?z16o) (v := undef) ?z161 ?z162 ?z163 ?z164 ?z165 ?z166 ?z168 ?_; (case z161 => rfl); (case z162 => kernel_rfl); (case z163 => kernel_rfl); (case z164 => kernel_rfl); (case z165 => exact fun _ _ _ h => h); (case z166 => exact Or.inr ⟨rfl, rfl⟩); (case z168 => assumption); try simp only [Act.put, List.getElem_toArray, List.getElem_cons_zero, List.getElem_cons_succ, List.setIfInBounds_toArray, List.set_cons_zero, List.set_cons_succ])
            (refine wpAnyH_take (i := 16) (oi := ?z17o) (v := ?z17v) ?z171 ?z172 ?z173 ?z174 ?z175 ?z176 ?z178 ?_; (case z171 => rfl); (case z172 => kernel_rfl); (case z173 => kernel_rfl); (case z174 => kernel_rfl); (case z175 => exact fun _ _ _ h => h); (case z176 => refine Or.inl ⟨rfl, ?_⟩; intro w hSw; (try dsimp only at hSw); go_simp; try with_reducible rfl); (case z178 => assumption); try simp only [Act.put, List.getElem_toArray, List.getElem_cons_zero, List.getElem_cons_succ, List.setIfInBounds_toArray, List.set_cons_zero, List.set_cons_succ])
            refine wpAnyH_done (by kernel_rfl) ?_ _
            go_wp2
            go_roundw
            case measure => simp [intOf]; omega
            case rel => exact ⟨i + 1, k + 1, _, by omega, by have := HKI.out; omega, by omega, by go_num, HEX, hrw.drew, gb_drew hg⟩
          · rw [List.concat_eq_append] at hL1
            subst hL1
            obtain ⟨u, hju⟩ : ∃ u, j = u + 1 := ⟨a + L.length, by simp at hj1; omega⟩
            subst hju
            have hLu : u = (P ++ L).length := by have := HA.out; simp at hj1 ⊢; omega
            have hvu : u + 1 = (P ++ L).length + 1 + ([] : List Ev).length := by rw [hLu]; simp
            have hrs : SR wr b ((P ++ L) ++ y :: ([] ++ x :: (L2 ++ T))) := by simpa using hr
            have gu := sw_u (U := P ++ L) (V := []) (Z := L2 ++ T) (x := y) (y := x) hLu
            have gv := sw_v (U := P ++ L) (V := []) (Z := L2 ++ T) (x := y) (y := x) hvu
            have GU := Lib.hid gu
            have GV := Lib.hid gv
            have HLU := Lib.hid hLu
            have HVU := Lib.hid hvu
            have hja : a < u + 1 := by simp at hj1; omega
            have hjN : u + 1 < N := by omega
            have hd1 : decide (((u + 1 : Nat) : Int) > (a : Int)) = true := decide_eq_true (by omega)
            have hd2 : decide ((u : Int) + 1 > (a : Int)) = true := decide_eq_true (by omega)
            have hw1 : IntKind.i64.wrap ((u : Int) + 1 - 1) = (u : Int) := by rw [Int.add_sub_cancel]; exact IntWalk.i64_in _ (by omega)
            have hw2 : IntKind.i64.wrap (u : Int) = (u : Int) := IntWalk.i64_in _ (by omega)
            have hu0 : (0 : Int) ≤ (u : Int) := by omega
            have hu1 : (0 : Int) ≤ (u : Int) + 1 := by omega
            have huN : (u : Int) < (N : Int) := by omega
            have huN1 : (u : Int) + 1 < (N : Int) := by omega
            clear hj1 hr gu gv hLu hvu
            by_cases hlt' : ltE x y
            · skip
              have hc1 : decide (cmpE x y < 0) = true := decide_eq_true (cmpE_lt.2 hlt')
              go_wp2
              first | (go_region_held3 (fun w' => (w'.cell? ⟨b, (u + 1) * 12, none⟩ = some (.int .i64 x.r) ∧ w'.cell? ⟨b, (u + 1) * 12 + 1, none⟩ = some (.int .i64 x.n) ∧ w'.cell? ⟨b, (u + 1) * 12 + 2, none⟩ = some (.int .i64 x.c.x0) ∧ w'.cell? ⟨b, (u + 1) * 12 + 3, none⟩ = some (.int .i64 x.c.x1) ∧ w'.cell? ⟨b, (u + 1) * 12 + 4, none⟩ = some (.int .i64 x.c.x2) ∧ w'.cell? ⟨b, (u + 1) * 12 + 5, none⟩ = some (.int .i64 x.c.x3) ∧ w'.cell? ⟨b, (u + 1) * 12 + 6, none⟩ = some (.int .i64 x.c.x4) ∧ w'.cell? ⟨b, (u + 1) * 12 + 7, none⟩ = some (.int .i64 x.h) ∧ w'.cell? ⟨b, (u + 1) * 12 + 8, none⟩ = some (.int .i64 x.k) ∧ w'.cell? ⟨b, (u + 1) * 12 + 9, none⟩ = some (.string x.key) ∧ w'.cell? ⟨b, (u + 1) * 12 + 10, none⟩ = some (.int .i64 x.lab) ∧ w'.cell? ⟨b, (u + 1) * 12 + 11, none⟩ = some (.string x.val)) ∧ (w'.cell? ⟨b, u * 12, none⟩ = some (.int .i64 y.r) ∧ w'.cell? ⟨b, u * 12 + 1, none⟩ = some (.int .i64 y.n) ∧ w'.cell? ⟨b, u * 12 + 2, none⟩ = some (.int .i64 y.c.x0) ∧ w'.cell? ⟨b, u * 12 + 3, none⟩ = some (.int .i64 y.c.x1) ∧ w'.cell? ⟨b, u * 12 + 4, none⟩ = some (.int .i64 y.c.x2) ∧ w'.cell? ⟨b, u * 12 + 5, none⟩ = some (.int .i64 y.c.x3) ∧ w'.cell? ⟨b, u * 12 + 6, none⟩ = some (.int .i64 y.c.x4) ∧ w'.cell? ⟨b, u * 12 + 7, none⟩ = some (.int .i64 y.h) ∧ w'.cell? ⟨b, u * 12 + 8, none⟩ = some (.int .i64 y.k) ∧ w'.cell? ⟨b, u * 12 + 9, none⟩ = some (.string y.key) ∧ w'.cell? ⟨b, u * 12 + 10, none⟩ = some (.int .i64 y.lab) ∧ w'.cell? ⟨b, u * 12 + 11, none⟩ = some (.string y.val)) ∧ Below wr.heap.size wr w')
                (first | with_reducible exact keepTwo hrs GV.out GU.out hB5 | with_reducible exact keepTwo hrs GV.out GU.out (Below.refl _ _).drew)
                (first | (go_at_call 63; refine (cmp_any x y _).mono ?_; rintro e5 w5 ⟨rfl, hb5⟩; have hB5 : Below wr.heap.size wr w5 := (Below.refl _ _).drew.trans hb5))) | fail
              have hr5 := hrs.below hB5
              have hg5 := gb_bel hg hB5
              have hge := hr5.get GU.out
              have hgf := hr5.get GV.out
              obtain ⟨e0, e1, e2, e3, e4, e5, e6, e7, e8, e9, e10, e11⟩ := hge
              obtain ⟨f0, f1, f2, f3, f4, f5, f6, f7, f8, f9, f10, f11⟩ := hgf
              have hul : u < ((P ++ L) ++ y :: ([] ++ x :: (L2 ++ T))).length := by rw [sw_len, HLU.out]; omega
              have hvl : u + 1 < ((P ++ L) ++ y :: ([] ++ x :: (L2 ++ T))).length := by rw [sw_len, HLU.out]; simp; omega
              clear hb5 hB5 hrs hg
              go_upto_block 3 with fail
              go_cut [52] (fun s52 wx => SR wx b ((P ++ L) ++ x :: ([] ++ y :: (L2 ++ T))) ∧ w.grownBy wx (some b))
              case first =>
                go_wp2
                refine wp_region_held_drew (S := AnyW1) (by kernel_rfl) (anyW1 _) (fun hHeld => ?_)
                (refine wpAnyH_take (i := 0) (oi := ?z18o) (v := ?z18v) ?z181 ?z182 ?z183 ?z184 ?z185 ?z186 ?z188 ?_; (case z181 => rfl); (case z182 => kernel_rfl); (case z183 => kernel_rfl); (case z184 => kernel_rfl); (case z185 => exact fun _ _ _ h => h); (case z186 => refine Or.inl ⟨rfl, ?_⟩; intro w hSw; (try dsimp only at hSw); go_simp; try with_reducible rfl); (case z188 => assumption); try simp only [Act.put, List.getElem_toArray, List.getElem_cons_zero, List.getElem_cons_succ, List.setIfInBounds_toArray, List.set_cons_zero, List.set_cons_succ])
                (refine wpAnyH_take (i := 1) (oi := ?z19o) (v := ?z19v) ?z191 ?z192 ?z193 ?z194 ?z195 ?z196 ?z198 ?_; (case z191 => rfl); (case z192 => kernel_rfl); (case z193 => kernel_rfl); (case z194 => kernel_rfl); (case z195 => exact fun _ _ _ h => h); (case z196 => refine Or.inl ⟨rfl, ?_⟩; intro w hSw; (try dsimp only at hSw); go_simp; try with_reducible rfl); (case z198 => assumption); try simp only [Act.put, List.getElem_toArray, List.getElem_cons_zero, List.getElem_cons_succ, List.setIfInBounds_toArray, List.set_cons_zero, List.set_cons_succ])
                (refine wpAnyH_take (i := 2) (oi := ?z20o) (v := ?z20v) ?z201 ?z202 ?z203 ?z204 ?z205 ?z206 ?z208 ?_; (case z201 => rfl); (case z202 => kernel_rfl); (case z203 => kernel_rfl); (case z204 => kernel_rfl); (case z205 => exact fun _ _ _ h => h); (case z206 => refine Or.inl ⟨rfl, ?_⟩; intro w hSw; (try dsimp only at hSw); go_simp; try with_reducible rfl); (case z208 => assumption); try simp only [Act.put, List.getElem_toArray, List.getElem_cons_zero, List.getElem_cons_succ, List.setIfInBounds_toArray, List.set_cons_zero, List.set_cons_succ])
                (refine wpAnyH_take (i := 3) (oi := ?z21o) (v := ?z21v) ?z211 ?z212 ?z213 ?z214 ?z215 ?z216 ?z218 ?_; (case z211 => rfl); (case z212 => kernel_rfl); (case z213 => kernel_rfl); (case z214 => kernel_rfl); (case z215 => exact fun _ _ _ h => h); (case z216 => refine Or.inl ⟨rfl, ?_⟩; intro w hSw; (try dsimp only at hSw); go_simp; try with_reducible rfl); (case z218 => assumption); try simp only [Act.put, List.getElem_toArray, List.getElem_cons_zero, List.getElem_cons_succ, List.setIfInBounds_toArray, List.set_cons_zero, List.set_cons_succ])
                (refine wpAnyH_take (i := 4) (oi := ?z22o) (v := ?z22v) ?z221 ?z222 ?z223 ?z224 ?z225 ?z226 ?z228 ?_; (case z221 => rfl); (case z222 => kernel_rfl); (case z223 => kernel_rfl); (case z224 => kernel_rfl); (case z225 => exact fun _ _ _ h => h); (case z226 => refine Or.inl ⟨rfl, ?_⟩; intro w hSw; (try dsimp only at hSw); go_simp; try with_reducible rfl); (case z228 => assumption); try simp only [Act.put, List.getElem_toArray, List.getElem_cons_zero, List.getElem_cons_succ, List.setIfInBounds_toArray, List.set_cons_zero, List.set_cons_succ])
                (refine wpAnyH_take (i := 5) (oi := ?z23o) (v := ?z23v) ?z231 ?z232 ?z233 ?z234 ?z235 ?z236 ?z238 ?_; (case z231 => rfl); (case z232 => kernel_rfl); (case z233 => kernel_rfl); (case z234 => kernel_rfl); (case z235 => exact fun _ _ _ h => h); (case z236 => refine Or.inl ⟨rfl, ?_⟩; intro w hSw; (try dsimp only at hSw); go_simp; try with_reducible rfl); (case z238 => assumption); try simp only [Act.put, List.getElem_toArray, List.getElem_cons_zero, List.getElem_cons_succ, List.setIfInBounds_toArray, List.set_cons_zero, List.set_cons_succ])
                (refine wpAnyH_take (i := 6) (oi := ?z24o) (v := ?z24v) ?z241 ?z242 ?z243 ?z244 ?z245 ?z246 ?z248 ?_; (case z241 => rfl); (case z242 => kernel_rfl); (case z243 => kernel_rfl); (case z244 => kernel_rfl); (case z245 => exact fun _ _ _ h => h); (case z246 => refine Or.inl ⟨rfl, ?_⟩; intro w hSw; (try dsimp only at hSw); go_simp; try with_reducible rfl); (case z248 => assumption); try simp only [Act.put, List.getElem_toArray, List.getElem_cons_zero, List.getElem_cons_succ, List.setIfInBounds_toArray, List.set_cons_zero, List.set_cons_succ])
                (refine wpAnyH_take (i := 7) (oi := ?z25o) (v := ?z25v) ?z251 ?z252 ?z253 ?z254 ?z255 ?z256 ?z258 ?_; (case z251 => rfl); (case z252 => kernel_rfl); (case z253 => kernel_rfl); (case z254 => kernel_rfl); (case z255 => exact fun _ _ _ h => h); (case z256 => refine Or.inl ⟨rfl, ?_⟩; intro w hSw; (try dsimp only at hSw); go_simp; try with_reducible rfl); (case z258 => assumption); try simp only [Act.put, List.getElem_toArray, List.getElem_cons_zero, List.getElem_cons_succ, List.setIfInBounds_toArray, List.set_cons_zero, List.set_cons_succ])
                (refine wpAnyH_take (i := 8) (oi := ?z26o) (v := ?z26v) ?z261 ?z262 ?z263 ?z264 ?z265 ?z266 ?z268 ?_; (case z261 => rfl); (case z262 => kernel_rfl); (case z263 => kernel_rfl); (case z264 => kernel_rfl); (case z265 => exact fun _ _ _ h => h); (case z266 => refine Or.inl ⟨rfl, ?_⟩; intro w hSw; (try dsimp only at hSw); go_simp; try with_reducible rfl); (case z268 => assumption); try simp only [Act.put, List.getElem_toArray, List.getElem_cons_zero, List.getElem_cons_succ, List.setIfInBounds_toArray, List.set_cons_zero, List.set_cons_succ])
                (refine wpAnyH_take (i := 10) (oi := ?z27o) (v := ?z27v) ?z271 ?z272 ?z273 ?z274 ?z275 ?z276 ?z278 ?_; (case z271 => rfl); (case z272 => kernel_rfl); (case z273 => kernel_rfl); (case z274 => kernel_rfl); (case z275 => exact fun _ _ _ h => h); (case z276 => refine Or.inl ⟨rfl, ?_⟩; intro w hSw; (try dsimp only at hSw); go_simp; try with_reducible rfl); (case z278 => assumption); try simp only [Act.put, List.getElem_toArray, List.getElem_cons_zero, List.getElem_cons_succ, List.setIfInBounds_toArray, List.set_cons_zero, List.set_cons_succ])
                (refine wpAnyH_take (i := 11) (oi := ?z28o) (v := ?z28v) ?z281 ?z282 ?z283 ?z284 ?z285 ?z286 ?z288 ?_; (case z281 => rfl); (case z282 => kernel_rfl); (case z283 => kernel_rfl); (case z284 => kernel_rfl); (case z285 => exact fun _ _ _ h => h); (case z286 => refine Or.inl ⟨rfl, ?_⟩; intro w hSw; (try dsimp only at hSw); go_simp; try with_reducible rfl); (case z288 => assumption); try simp only [Act.put, List.getElem_toArray, List.getElem_cons_zero, List.getElem_cons_succ, List.setIfInBounds_toArray, List.set_cons_zero, List.set_cons_succ])
                (refine wpAnyH_take (i := 12) (oi := ?z29o) (v := ?z29v) ?z291 ?z292 ?z293 ?z294 ?z295 ?z296 ?z298 ?_; (case z291 => rfl); (case z292 => kernel_rfl); (case z293 => kernel_rfl); (case z294 => kernel_rfl); (case z295 => exact fun _ _ _ h => h); (case z296 => refine Or.inl ⟨rfl, ?_⟩; intro w hSw; (try dsimp only at hSw); go_simp; try with_reducible rfl); (case z298 => assumption); try simp only [Act.put, List.getElem_toArray, List.getElem_cons_zero, List.getElem_cons_succ, List.setIfInBounds_toArray, List.set_cons_zero, List.set_cons_succ])
                refine wpAnyH_ready (rs := [9, 13]) (by kernel_rfl) (by simp) ?_
                refine (AllReadyH.cons rfl (fun K' hK => ?_) (AllReadyH.cons rfl (fun K' hK => ?_) AllReadyH.nil))
                · go_simp
                  (refine hK.out _ _ (anyW1 _) (fun hHeld3 => ?_); clear hK K'; (try simp only [Act.put, List.setIfInBounds_toArray, List.set_cons_zero, List.set_cons_succ]))
                  refine wpAnyH_ready (rs := [13]) (by kernel_rfl) (by simp) ?_
                  refine (AllReadyH.cons rfl (fun K' hK => ?_) AllReadyH.nil)
                  · go_simp
                    (refine hK.out _ _ (anyW1 _) (fun hHeld3 => ?_); clear hK K'; (try simp only [Act.put, List.setIfInBounds_toArray, List.set_cons_zero, List.set_cons_succ]))
                    (refine wpAnyH_take (i := 14) (oi := ?z30o) (v := ?z30v) ?z301 ?z302 ?z303 ?z304 ?z305 ?z306 ?z308 ?_; (case z301 => rfl); (case z302 => kernel_rfl); (case z303 => kernel_rfl); (case z304 => kernel_rfl); (case z305 => exact fun _ _ _ h => h); (case z306 => refine Or.inl ⟨rfl, ?_⟩; intro w hSw; (try dsimp only at hSw); go_simp; try with_reducible rfl); (case z308 => assumption); try simp only [Act.put, List.getElem_toArray, List.getElem_cons_zero, List.getElem_cons_succ, List.setIfInBounds_toArray, List.set_cons_zero, List.set_cons_succ])
                    refine wpAnyH_ready (rs := [15]) (by kernel_rfl) (by simp) ?_
                    refine (AllReadyH.cons rfl (fun K' hK => ?_) AllReadyH.nil)
                    refine step_storeEv (by rfl) _ _ (by rfl) hr5.drew (k := (u + 1)) hvl y (by rfl) (by rfl) ?_
                    have hS1 := hr5.drew.put hvl y
                    have hG1 := setCells_gb b (evK.enc y) ((u + 1) * 12) w5.drew
                    generalize (w5.drew).setCells b ((u + 1) * 12) (evK.enc y) = W1 at *
                    (refine hK.out _ _ (anyW1 _) (fun hHeld3 => ?_); clear hK K'; (try simp only [Act.put, List.setIfInBounds_toArray, List.set_cons_zero, List.set_cons_succ]))
                    (refine wpAnyH_take (i := 16) (oi := ?z31o) (v := ?z31v) ?z311 ?z312 ?z313 ?z314 ?z315 ?z316 ?z318 ?_; (case z311 => rfl); (case z312 => kernel_rfl); (case z313 => kernel_rfl); (case z314 => kernel_rfl); (case z315 => exact fun _ _ _ h => h); (case z316 => refine Or.inl ⟨rfl, ?_⟩; intro w hSw; (try dsimp only at hSw); go_simp; try with_reducible rfl); (case z318 => assumption); try simp only [Act.put, List.getElem_toArray, List.getElem_cons_zero, List.getElem_cons_succ, List.setIfInBounds_toArray, List.set_cons_zero, List.set_cons_succ])
                    refine wpAnyH_ready (rs := [17]) (by kernel_rfl) (by simp) ?_
                    refine (AllReadyH.cons rfl (fun K' hK => ?_) AllReadyH.nil)
                    refine step_storeEv (by rfl) _ _ (by rfl) hS1 (k := u) (by rw [List.length_set]; exact hul) x (by rfl) (by rfl) ?_
                    have hS2 := hS1.put (k := u) (by rw [List.length_set]; exact hul) x
                    have hG2 := setCells_gb b (evK.enc x) (u * 12) W1
                    generalize W1.setCells b (u * 12) (evK.enc x) = W2 at *
                    (refine hK.out _ _ (anyW1 _) (fun hHeld3 => ?_); clear hK K'; (try simp only [Act.put, List.setIfInBounds_toArray, List.set_cons_zero, List.set_cons_succ]))
                    refine wpAnyH_done (by kernel_rfl) ?_ _
                    (go_wp2_with fail; go_meet; exact ⟨by rw [← sw_vu HLU.out HVU.out]; exact hS2, gb_step (gb_step (gb_drew hg5) hG1) hG2⟩)
                · go_simp
                  (refine hK.out _ _ (anyW1 _) (fun hHeld3 => ?_); clear hK K'; (try simp only [Act.put, List.setIfInBounds_toArray, List.set_cons_zero, List.set_cons_succ]))
                  refine wpAnyH_ready (rs := [9]) (by kernel_rfl) (by simp) ?_
                  refine (AllReadyH.cons rfl (fun K' hK => ?_) AllReadyH.nil)
                  · go_simp
                    (refine hK.out _ _ (anyW1 _) (fun hHeld3 => ?_); clear hK K'; (try simp only [Act.put, List.setIfInBounds_toArray, List.set_cons_zero, List.set_cons_succ]))
                    (refine wpAnyH_take (i := 14) (oi := ?z32o) (v := ?z32v) ?z321 ?z322 ?z323 ?z324 ?z325 ?z326 ?z328 ?_; (case z321 => rfl); (case z322 => kernel_rfl); (case z323 => kernel_rfl); (case z324 => kernel_rfl); (case z325 => exact fun _ _ _ h => h); (case z326 => refine Or.inl ⟨rfl, ?_⟩; intro w hSw; (try dsimp only at hSw); go_simp; try with_reducible rfl); (case z328 => assumption); try simp only [Act.put, List.getElem_toArray, List.getElem_cons_zero, List.getElem_cons_succ, List.setIfInBounds_toArray, List.set_cons_zero, List.set_cons_succ])
                    refine wpAnyH_ready (rs := [15]) (by kernel_rfl) (by simp) ?_
                    refine (AllReadyH.cons rfl (fun K' hK => ?_) AllReadyH.nil)
                    refine step_storeEv (by rfl) _ _ (by rfl) hr5.drew (k := (u + 1)) hvl y (by rfl) (by rfl) ?_
                    have hS1 := hr5.drew.put hvl y
                    have hG1 := setCells_gb b (evK.enc y) ((u + 1) * 12) w5.drew
                    generalize (w5.drew).setCells b ((u + 1) * 12) (evK.enc y) = W1 at *
                    (refine hK.out _ _ (anyW1 _) (fun hHeld3 => ?_); clear hK K'; (try simp only [Act.put, List.setIfInBounds_toArray, List.set_cons_zero, List.set_cons_succ]))
                    (refine wpAnyH_take (i := 16) (oi := ?z33o) (v := ?z33v) ?z331 ?z332 ?z333 ?z334 ?z335 ?z336 ?z338 ?_; (case z331 => rfl); (case z332 => kernel_rfl); (case z333 => kernel_rfl); (case z334 => kernel_rfl); (case z335 => exact fun _ _ _ h => h); (case z336 => refine Or.inl ⟨rfl, ?_⟩; intro w hSw; (try dsimp only at hSw); go_simp; try with_reducible rfl); (case z338 => assumption); try simp only [Act.put, List.getElem_toArray, List.getElem_cons_zero, List.getElem_cons_succ, List.setIfInBounds_toArray, List.set_cons_zero, List.set_cons_succ])
                    refine wpAnyH_ready (rs := [17]) (by kernel_rfl) (by simp) ?_
                    refine (AllReadyH.cons rfl (fun K' hK => ?_) AllReadyH.nil)
                    refine step_storeEv (by rfl) _ _ (by rfl) hS1 (k := u) (by rw [List.length_set]; exact hul) x (by rfl) (by rfl) ?_
                    have hS2 := hS1.put (k := u) (by rw [List.length_set]; exact hul) x
                    have hG2 := setCells_gb b (evK.enc x) (u * 12) W1
                    generalize W1.setCells b (u * 12) (evK.enc x) = W2 at *
                    (refine hK.out _ _ (anyW1 _) (fun hHeld3 => ?_); clear hK K'; (try simp only [Act.put, List.setIfInBounds_toArray, List.set_cons_zero, List.set_cons_succ]))
                    refine wpAnyH_done (by kernel_rfl) ?_ _
                    (go_wp2_with fail; go_meet; exact ⟨by rw [← sw_vu HLU.out HVU.out]; exact hS2, gb_step (gb_step (gb_drew hg5) hG1) hG2⟩)
              case rest =>
                obtain ⟨hs, hgx⟩ := hcut
                have hs' : SR wc b (P ++ L ++ x :: (y :: L2 ++ T)) := by simpa using hs
                have hj' : Hid (L ++ y :: L2 = S ∧ ∀ z ∈ y :: L2, ltE x z) := ⟨by have := hj2.out.1; simpa using this, fun z hz => by rcases List.mem_cons.1 hz with rfl | hz; exact hlt'; exact hj2.out.2 z hz⟩
                have hju : a + L.length = u := by have h1 := HLU.out; have h2 := HA.out; rw [List.length_append] at h1; omega
                clear e0 e1 e2 e3 e4 e5 e6 e7 e8 e9 e10 e11 f0 f1 f2 f3 f4 f5 f6 f7 f8 f9 f10 f11 hr5 hg5 hs hc1
                go_wp2
                go_roundw
                case measure => first | (simp [intOf]; done) | (simp [intOf]; omega)
                case rel => exact ⟨u, L, y :: L2, rfl, hju, by omega, hj', hs', hgx⟩
            · skip
              have hc1 : decide (cmpE x y < 0) = false := decide_eq_false (fun hc => hlt' (cmpE_lt.1 hc))
              have hex := ins_exit hS.out HTK.out hj2.out (fun z hz => by simp at hz; subst hz; exact hlt')
              have HEX := Lib.hid hex
              go_wp2
              first | (go_region_held3 (fun w' => (w'.cell? ⟨b, (u + 1) * 12, none⟩ = some (.int .i64 x.r) ∧ w'.cell? ⟨b, (u + 1) * 12 + 1, none⟩ = some (.int .i64 x.n) ∧ w'.cell? ⟨b, (u + 1) * 12 + 2, none⟩ = some (.int .i64 x.c.x0) ∧ w'.cell? ⟨b, (u + 1) * 12 + 3, none⟩ = some (.int .i64 x.c.x1) ∧ w'.cell? ⟨b, (u + 1) * 12 + 4, none⟩ = some (.int .i64 x.c.x2) ∧ w'.cell? ⟨b, (u + 1) * 12 + 5, none⟩ = some (.int .i64 x.c.x3) ∧ w'.cell? ⟨b, (u + 1) * 12 + 6, none⟩ = some (.int .i64 x.c.x4) ∧ w'.cell? ⟨b, (u + 1) * 12 + 7, none⟩ = some (.int .i64 x.h) ∧ w'.cell? ⟨b, (u + 1) * 12 + 8, none⟩ = some (.int .i64 x.k) ∧ w'.cell? ⟨b, (u + 1) * 12 + 9, none⟩ = some (.string x.key) ∧ w'.cell? ⟨b, (u + 1) * 12 + 10, none⟩ = some (.int .i64 x.lab) ∧ w'.cell? ⟨b, (u + 1) * 12 + 11, none⟩ = some (.string x.val)) ∧ (w'.cell? ⟨b, u * 12, none⟩ = some (.int .i64 y.r) ∧ w'.cell? ⟨b, u * 12 + 1, none⟩ = some (.int .i64 y.n) ∧ w'.cell? ⟨b, u * 12 + 2, none⟩ = some (.int .i64 y.c.x0) ∧ w'.cell? ⟨b, u * 12 + 3, none⟩ = some (.int .i64 y.c.x1) ∧ w'.cell? ⟨b, u * 12 + 4, none⟩ = some (.int .i64 y.c.x2) ∧ w'.cell? ⟨b, u * 12 + 5, none⟩ = some (.int .i64 y.c.x3) ∧ w'.cell? ⟨b, u * 12 + 6, none⟩ = some (.int .i64 y.c.x4) ∧ w'.cell? ⟨b, u * 12 + 7, none⟩ = some (.int .i64 y.h) ∧ w'.cell? ⟨b, u * 12 + 8, none⟩ = some (.int .i64 y.k) ∧ w'.cell? ⟨b, u * 12 + 9, none⟩ = some (.string y.key) ∧ w'.cell? ⟨b, u * 12 + 10, none⟩ = some (.int .i64 y.lab) ∧ w'.cell? ⟨b, u * 12 + 11, none⟩ = some (.string y.val)) ∧ Below wr.heap.size wr w')
                (first | with_reducible exact keepTwo hrs GV.out GU.out hB5 | with_reducible exact keepTwo hrs GV.out GU.out (Below.refl _ _).drew)
                (first | (go_at_call 63; refine (cmp_any x y _).mono ?_; rintro e5 w5 ⟨rfl, hb5⟩; have hB5 : Below wr.heap.size wr w5 := (Below.refl _ _).drew.trans hb5))) | fail
              have hr5 := hrs.below hB5
              have hg5 := gb_bel hg hB5
              have hrw : SR w5 b (P ++ (L ++ [y] ++ x :: L2) ++ M.drop (k + 1) ++ Q) := by have := HT.out; rw [← this] at hr5; simpa using hr5
              clear hb5 hB5 hrs hg hex hr5
              go_wp2
              go_roundw
              case measure => simp [intOf]; omega
              case rel => exact ⟨i + 1, k + 1, _, by omega, by have := HKI.out; omega, by omega, by go_num, HEX, hrw, hg5⟩
      · have hke : i = e := by omega
        have hti : ¬ ((i : Int) < (e : Int)) := by omega
        have hML : k = M.length := by have := HA.out; have := HE.out; omega
        have hfin : ∃ S, Sorted M S ∧ SR wr b (P ++ S ++ Q) := ⟨S, by have := hS.out.2; rwa [hML, List.take_length] at this, by rw [hML, List.drop_length, List.append_nil] at hr; exact hr⟩
        clear hML hS hr hke
        go_wp2
        go_end0
        exact ⟨rfl, hfin, hg⟩
end Go.Proofs.Ytlfhjlkhhaoicaa
