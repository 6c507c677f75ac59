/- slices.symMergeCmpFunc, at events: where one of the rows is of one element. -/
import Derived.Test.YtlfhjlkhhaoicaaSortI
namespace Go.Proofs.Ytlfhjlkhhaoicaa
set_option linter.unusedVariables false
set_option linter.unusedSimpArgs false
open Go.RowKit
attribute [local go_sem] q_le0 q_le1 q_le2 q_le3 q_le4 q_le5 q_lt1 q_lt2 q_lt3 q_lt4 q_lt5

def MrgPost (P X Y Q : List Ev) (b : Nat) (w : World) (x : Ending) (w' : World) : Prop := x = .returned (.tuple #[]) ∧ (∃ Z, Sorted (X ++ Y) Z ∧ SR w' b (P ++ Z ++ Q)) ∧ w.grownBy w' (some b)
theorem one_x {P Y Q : List Ev} {x : Ev} {a : Nat} (ha : a = P.length) : (P ++ [x] ++ Y ++ Q)[a]? = some x := by subst ha; simp
theorem one_y {P Y Q : List Ev} {x y : Ev} {k c : Nat} (hk : k = P.length + 1 + c) (hy : Y[c]? = some y) : (P ++ [x] ++ Y ++ Q)[k]? = some y := by
  have hc := (List.getElem?_eq_some_iff.1 hy).1
  rw [List.getElem?_append_left (by simp; omega), List.getElem?_append_right (by simp; omega), hk]
  simp only [List.length_append, List.length_singleton, Nat.add_sub_cancel_left]
  exact hy
/-- Where the first search stands. -/
structure Bs1 (Y : List Ev) (x : Ev) (i j : Nat) : Prop where
  lo : i = 0 ∨ ∃ y, Y[i - 1]? = some y ∧ ltE y x
  hi : j = Y.length ∨ ∃ y, Y[j]? = some y ∧ leE x y
set_option maxRecDepth 100000 in
set_option maxHeartbeats 4000000 in
theorem symMerge_one (b cap N a m e : Nat) (P Y Q : List Ev) (x : Ev) (w : World) (h : SR w b (P ++ [x] ++ Y ++ Q)) (ha : a = P.length) (hm : m = a + 1) (he : e = m + Y.length) (hY : Srt Y) (hN : N = (P ++ [x] ++ Y ++ Q).length) (hN2 : N ≤ 1000) :
    Calls Try.prog 80 #[.slice (some ⟨b, 0, none⟩) N cap, .int .i64 a, .int .i64 m, .int .i64 e, SortFn] w (MrgPost P [x] Y Q b w) := by
  unfold SortFn
  have HA := Lib.hid ha
  have HN := Lib.hid hN
  have HSY := Lib.hid hY
  have hbd : e ≤ N := by simp at hN; omega
  have hma : (m : Int) - (a : Int) = 1 := by omega
  obtain ⟨ny, hny⟩ : ∃ ny, Y.length = ny := ⟨_, rfl⟩
  have HNY := Lib.hid hny
  rw [hny] at he
  have HM := Lib.hid hm
  have HE := Lib.hid he
  clear ha hN hny hY hm he
  go_enter Try.func80, Try.ntmps80
  go_wp2
  go_loopw [10, 11] (fun v10 v11 wr => ∃ i j : Nat, i ≤ j ∧ j ≤ ny ∧ v10 = .int .i64 ((m + i : Nat) : Int) ∧ v11 = .int .i64 ((m + j : Nat) : Int) ∧ Hid (Bs1 Y x i j) ∧ SR wr b (P ++ [x] ++ Y ++ Q) ∧ w.grownBy wr (some b)) (fun v10 v11 _ => (intOf v11).toNat - (intOf v10).toNat)
  case atStart => exact ⟨0, ny, by omega, by omega, rfl, by rw [HE.out], ⟨.inl rfl, .inl HNY.out.symm⟩, h, World.grownBy.refl w _⟩
  case round =>
    clear h
    obtain ⟨i, j, hij, hjn, rfl, rfl, hb, hr, hg⟩ := hrel
    obtain ⟨mi, hmi⟩ : ∃ mi, m + i = mi := ⟨_, rfl⟩
    obtain ⟨mj, hmj⟩ : ∃ mj, m + j = mj := ⟨_, rfl⟩
    rw [hmi, hmj]
    by_cases hlt : mi < mj
    · obtain ⟨k, hk⟩ : ∃ k, (mi + mj) / 2 = k := ⟨_, rfl⟩
      have hkd : ((mi : Int) + (mj : Int)) / 2 = (k : Int) := by omega
      have hb1 : mj ≤ 1000 := by have := HE.out; omega
      have hb2 : mi ≤ 1000 := by omega
      have hw1 : IntKind.u64.wrap ((mi : Int) + (mj : Int)) = (mi : Int) + (mj : Int) := by unfold IntKind.wrap; simp [IntKind.signed, IntKind.bits]; omega
      have HMI := Lib.hid hmi
      have HMJ := Lib.hid hmj
      clear hmi hmj
      obtain ⟨c, hc⟩ : ∃ c, k = m + c := ⟨k - m, by have := HMI.out; omega⟩
      have hcj : c < j ∧ i ≤ c := by have := HMI.out; have := HMJ.out; omega
      obtain ⟨y, hy⟩ : ∃ y, Y[c]? = some y := ⟨_, List.getElem?_eq_getElem (by rw [HNY.out]; omega)⟩
      have hgx : (P ++ [x] ++ Y ++ Q)[a]? = some x := one_x HA.out
      have hgy : (P ++ [x] ++ Y ++ Q)[k]? = some y := one_y (by have := HA.out; have := HM.out; omega) hy
      have GX := Lib.hid hgx
      have GY := Lib.hid hgy
      have HC := Lib.hid hc
      have hk0 : (0 : Int) ≤ (k : Int) := by omega
      have hkN : (k : Int) < (N : Int) := by have := HE.out; omega
      have ha0 : (0 : Int) ≤ (a : Int) := by omega
      have haN : (a : Int) < (N : Int) := by have := HE.out; have := HM.out; omega
      clear hgx hgy hc hk
      by_cases hly : ltE y x
      · have hc1 : decide (cmpE y x < 0) = true := decide_eq_true (cmpE_lt.2 hly)
        have hb' : Hid (Bs1 Y x (c + 1) j) := ⟨.inr ⟨y, by simpa using hy, hly⟩, hb.out.hi⟩
        clear hy
        go_wp2
        first | (go_region_held3 (fun w' => (w'.cell? ⟨b, k * 12, none⟩ = some (.int .i64 y.r) ∧ w'.cell? ⟨b, k * 12 + 1, none⟩ = some (.int .i64 y.n) ∧ w'.cell? ⟨b, k * 12 + 2, none⟩ = some (.int .i64 y.c.x0) ∧ w'.cell? ⟨b, k * 12 + 3, none⟩ = some (.int .i64 y.c.x1) ∧ w'.cell? ⟨b, k * 12 + 4, none⟩ = some (.int .i64 y.c.x2) ∧ w'.cell? ⟨b, k * 12 + 5, none⟩ = some (.int .i64 y.c.x3) ∧ w'.cell? ⟨b, k * 12 + 6, none⟩ = some (.int .i64 y.c.x4) ∧ w'.cell? ⟨b, k * 12 + 7, none⟩ = some (.int .i64 y.h) ∧ w'.cell? ⟨b, k * 12 + 8, none⟩ = some (.int .i64 y.k) ∧ w'.cell? ⟨b, k * 12 + 9, none⟩ = some (.string y.key) ∧ w'.cell? ⟨b, k * 12 + 10, none⟩ = some (.int .i64 y.lab) ∧ w'.cell? ⟨b, k * 12 + 11, none⟩ = some (.string y.val)) ∧ (w'.cell? ⟨b, a * 12, none⟩ = some (.int .i64 x.r) ∧ w'.cell? ⟨b, a * 12 + 1, none⟩ = some (.int .i64 x.n) ∧ w'.cell? ⟨b, a * 12 + 2, none⟩ = some (.int .i64 x.c.x0) ∧ w'.cell? ⟨b, a * 12 + 3, none⟩ = some (.int .i64 x.c.x1) ∧ w'.cell? ⟨b, a * 12 + 4, none⟩ = some (.int .i64 x.c.x2) ∧ w'.cell? ⟨b, a * 12 + 5, none⟩ = some (.int .i64 x.c.x3) ∧ w'.cell? ⟨b, a * 12 + 6, none⟩ = some (.int .i64 x.c.x4) ∧ w'.cell? ⟨b, a * 12 + 7, none⟩ = some (.int .i64 x.h) ∧ w'.cell? ⟨b, a * 12 + 8, none⟩ = some (.int .i64 x.k) ∧ w'.cell? ⟨b, a * 12 + 9, none⟩ = some (.string x.key) ∧ w'.cell? ⟨b, a * 12 + 10, none⟩ = some (.int .i64 x.lab) ∧ w'.cell? ⟨b, a * 12 + 11, none⟩ = some (.string x.val)) ∧ Below wr.heap.size wr w')
          (first | with_reducible exact keepTwo hr GY.out GX.out hB5 | with_reducible exact keepTwo hr GY.out GX.out (Below.refl _ _).drew)
          (first | (go_at_call 63; refine (cmp_any y x _).mono ?_; rintro e5 w5 ⟨rfl, hb5⟩; have hB5 : Below wr.heap.size wr w5 := (Below.refl _ _).drew.trans hb5))) | fail
        have hr5 := hr.below hB5
        have hg5 := gb_bel hg hB5
        clear hb5 hB5 hr hg
        go_wp2
        go_roundw
        case measure => simp [intOf]; omega
        case rel => exact ⟨c + 1, j, by omega, by omega, by have := HC.out; first | go_num | (rw [show m + (c + 1) = k + 1 from by omega]; go_num), by rw [HMJ.out], hb', hr5, hg5⟩
      · have hc1 : decide (cmpE y x < 0) = false := decide_eq_false (fun hc => hly (cmpE_lt.1 hc))
        have hb' : Hid (Bs1 Y x i c) := ⟨hb.out.lo, .inr ⟨y, hy, hly⟩⟩
        clear hy
        go_wp2
        first | (go_region_held3 (fun w' => (w'.cell? ⟨b, k * 12, none⟩ = some (.int .i64 y.r) ∧ w'.cell? ⟨b, k * 12 + 1, none⟩ = some (.int .i64 y.n) ∧ w'.cell? ⟨b, k * 12 + 2, none⟩ = some (.int .i64 y.c.x0) ∧ w'.cell? ⟨b, k * 12 + 3, none⟩ = some (.int .i64 y.c.x1) ∧ w'.cell? ⟨b, k * 12 + 4, none⟩ = some (.int .i64 y.c.x2) ∧ w'.cell? ⟨b, k * 12 + 5, none⟩ = some (.int .i64 y.c.x3) ∧ w'.cell? ⟨b, k * 12 + 6, none⟩ = some (.int .i64 y.c.x4) ∧ w'.cell? ⟨b, k * 12 + 7, none⟩ = some (.int .i64 y.h) ∧ w'.cell? ⟨b, k * 12 + 8, none⟩ = some (.int .i64 y.k) ∧ w'.cell? ⟨b, k * 12 + 9, none⟩ = some (.string y.key) ∧ w'.cell? ⟨b, k * 12 + 10, none⟩ = some (.int .i64 y.lab) ∧ w'.cell? ⟨b, k * 12 + 11, none⟩ = some (.string y.val)) ∧ (w'.cell? ⟨b, a * 12, none⟩ = some (.int .i64 x.r) ∧ w'.cell? ⟨b, a * 12 + 1, none⟩ = some (.int .i64 x.n) ∧ w'.cell? ⟨b, a * 12 + 2, none⟩ = some (.int .i64 x.c.x0) ∧ w'.cell? ⟨b, a * 12 + 3, none⟩ = some (.int .i64 x.c.x1) ∧ w'.cell? ⟨b, a * 12 + 4, none⟩ = some (.int .i64 x.c.x2) ∧ w'.cell? ⟨b, a * 12 + 5, none⟩ = some (.int .i64 x.c.x3) ∧ w'.cell? ⟨b, a * 12 + 6, none⟩ = some (.int .i64 x.c.x4) ∧ w'.cell? ⟨b, a * 12 + 7, none⟩ = some (.int .i64 x.h) ∧ w'.cell? ⟨b, a * 12 + 8, none⟩ = some (.int .i64 x.k) ∧ w'.cell? ⟨b, a * 12 + 9, none⟩ = some (.string x.key) ∧ w'.cell? ⟨b, a * 12 + 10, none⟩ = some (.int .i64 x.lab) ∧ w'.cell? ⟨b, a * 12 + 11, none⟩ = some (.string x.val)) ∧ Below wr.heap.size wr w')
          (first | with_reducible exact keepTwo hr GY.out GX.out hB5 | with_reducible exact keepTwo hr GY.out GX.out (Below.refl _ _).drew)
          (first | (go_at_call 63; refine (cmp_any y x _).mono ?_; rintro e5 w5 ⟨rfl, hb5⟩; have hB5 : Below wr.heap.size wr w5 := (Below.refl _ _).drew.trans hb5))) | fail
        have hr5 := hr.below hB5
        have hg5 := gb_bel hg hB5
        clear hb5 hB5 hr hg
        go_wp2
        go_roundw
        case measure => simp [intOf]; omega
        case rel => exact ⟨i, c, by omega, by omega, by rw [HMI.out], by rw [HC.out], hb', hr5, hg5⟩
    · obtain rfl : j = i := by omega
      have hmm : mi = mj := by omega
      subst hmm
      have hd0 : ¬ ((mi : Int) < (mi : Int)) := by omega
      have HMI := Lib.hid hmi
      have HY1 := Lib.hid (show (Y.take j).length = j by rw [List.length_take, HNY.out]; omega)
      have hmo : Sorted ([x] ++ Y) (Y.take j ++ x :: Y.drop j) := by
        have h1 := merge_one (x := x) (Y1 := Y.take j) (Y2 := Y.drop j) (by rw [List.take_append_drop]; exact HSY.out) (fun y hy => by
          rcases hb.out.lo with h0 | ⟨z, hz, hl⟩
          · subst h0; simp at hy
          · have hz' : (Y.take j).getLast? = some z := by
              rw [List.getLast?_eq_getElem?, HY1.out, List.getElem?_take_of_lt (by
                rcases Nat.eq_zero_or_pos j with h0 | h0
                · subst h0; simp at hy
                · omega)]
              exact hz
            rw [hz'] at hy
            cases hy; exact hl) (fun y hy => by
          rcases hb.out.hi with h0 | ⟨z, hz, hl⟩
          · rw [h0, List.drop_length] at hy; simp at hy
          · rw [List.head?_drop, hz] at hy
            cases hy; exact hl)
        rw [List.take_append_drop] at h1
        exact ⟨h1.1, h1.2⟩
      have HMO := Lib.hid hmo
      have hr0 : SR wr b (P ++ (Y.take j).take 0 ++ x :: ((Y.take j).drop 0 ++ (Y.drop j ++ Q))) := by
        have h1 : P ++ [x] ++ Y ++ Q = P ++ (Y.take j).take 0 ++ x :: ((Y.take j).drop 0 ++ (Y.drop j ++ Q)) := by
          simp only [List.take_zero, List.drop_zero, List.append_nil, List.append_assoc, List.cons_append, List.nil_append]
          rw [← List.append_assoc (Y.take j), List.take_append_drop]
        rw [← h1]; exact hr
      generalize Y.take j = Y1 at *
      generalize Y.drop j = Y2 at *
      have hmi1 : (mi : Int) - 1 = ((a + j : Nat) : Int) := by have := HM.out; omega
      have hpos : (1 : Int) ≤ (mi : Int) := by have := HM.out; omega
      have hmiN : mi ≤ 1000 := by have := HE.out; omega
      obtain ⟨aj, haj⟩ : ∃ aj, a + j = aj := ⟨_, rfl⟩
      rw [haj] at hmi1
      have HAJ := Lib.hid haj
      clear hmo hb hr haj hmi
      go_wp2
      go_loopw [13] (fun v13 wr => ∃ t u : Nat, t ≤ j ∧ a + t = u ∧ v13 = .int .i64 u ∧ SR wr b (P ++ Y1.take t ++ x :: (Y1.drop t ++ (Y2 ++ Q))) ∧ w.grownBy wr (some b)) (fun v13 _ => aj - (intOf v13).toNat)
      case atStart => exact ⟨0, a, by omega, by omega, rfl, hr0, hg⟩
      case round =>
        clear hr0 hg
        obtain ⟨t, u, htj, htu, rfl, hr, hg⟩ := hrel
        by_cases hlt2 : t < j
        · have hti : (u : Int) < (aj : Int) := by have := HAJ.out; omega
          obtain ⟨y, hy⟩ : ∃ y, Y1[t]? = some y := ⟨_, List.getElem?_eq_getElem (by rw [HY1.out]; exact hlt2)⟩
          have hdr : Y1.drop t = y :: Y1.drop (t + 1) := by
            obtain ⟨h1, h2⟩ := List.getElem?_eq_some_iff.1 hy
            rw [List.drop_eq_getElem_cons h1, h2]
          have htk : Y1.take (t + 1) = Y1.take t ++ [y] := by rw [List.take_add_one, hy]; rfl
          have HTK := Lib.hid htk
          rw [hdr] at hr
          have hrs : SR wr b ((P ++ Y1.take t) ++ x :: ([] ++ y :: (Y1.drop (t + 1) ++ (Y2 ++ Q)))) := by simpa using hr
          have hLu : u = (P ++ Y1.take t).length := by rw [List.length_append, List.length_take, HY1.out, ← HA.out]; omega
          have hvu : u + 1 = (P ++ Y1.take t).length + 1 + ([] : List Ev).length := by rw [hLu]; simp
          have HLU := Lib.hid hLu
          have HVU := Lib.hid hvu
          have hul : u < ((P ++ Y1.take t) ++ x :: ([] ++ y :: (Y1.drop (t + 1) ++ (Y2 ++ Q)))).length := by rw [sw_len, hLu]; omega
          have hvl : u + 1 < ((P ++ Y1.take t) ++ x :: ([] ++ y :: (Y1.drop (t + 1) ++ (Y2 ++ Q)))).length := by rw [sw_len, hLu]; simp; omega
          have gu := hrs.get (sw_u (U := P ++ Y1.take t) (V := []) (Z := Y1.drop (t + 1) ++ (Y2 ++ Q)) (x := x) (y := y) hLu)
          have gv := hrs.get (sw_v (U := P ++ Y1.take t) (V := []) (Z := Y1.drop (t + 1) ++ (Y2 ++ Q)) (x := x) (y := y) hvu)
          obtain ⟨e0, e1, e2, e3, e4, e5, e6, e7, e8, e9, e10, e11⟩ := gu
          obtain ⟨f0, f1, f2, f3, f4, f5, f6, f7, f8, f9, f10, f11⟩ := gv
          have hw1 : IntKind.i64.wrap ((u : Int) + 1) = (u : Int) + 1 := IntWalk.i64_in _ (by omega)
          have hu0 : (0 : Int) ≤ (u : Int) := by omega
          have hu1 : (0 : Int) ≤ (u : Int) + 1 := by omega
          have huN : (u : Int) < (N : Int) := by have := HAJ.out; have := HE.out; have := HM.out; omega
          have huN1 : (u : Int) + 1 < (N : Int) := by have := HAJ.out; have := HE.out; have := HM.out; omega
          clear hy hdr htk hr hLu hvu
          go_upto_block 3 with fail
          go_cut [76] (fun s76 wx => SR wx b ((P ++ Y1.take t) ++ y :: ([] ++ x :: (Y1.drop (t + 1) ++ (Y2 ++ Q)))) ∧ w.grownBy wx (some b))
          case first =>
            go_wp2
            refine wp_region_held_drew (S := AnyW1) (by kernel_rfl) (anyW1 _) (fun hHeld => ?_)
            (refine wpAnyH_take (i := 0) (oi := ?z1o) (v := ?z1v) ?z11 ?z12 ?z13 ?z14 ?z15 ?z16 ?z18 ?_; (case z11 => rfl); (case z12 => kernel_rfl); (case z13 => kernel_rfl); (case z14 => kernel_rfl); (case z15 => exact fun _ _ _ h => h); (case z16 => refine Or.inl ⟨rfl, ?_⟩; intro w hSw; (try dsimp only at hSw); go_simp; try with_reducible rfl); (case z18 => assumption); try simp only [Act.put, List.getElem_toArray, List.getElem_cons_zero, List.getElem_cons_succ, List.setIfInBounds_toArray, List.set_cons_zero, List.set_cons_succ])
            (refine wpAnyH_take (i := 1) (oi := ?z2o) (v := ?z2v) ?z21 ?z22 ?z23 ?z24 ?z25 ?z26 ?z28 ?_; (case z21 => rfl); (case z22 => kernel_rfl); (case z23 => kernel_rfl); (case z24 => kernel_rfl); (case z25 => exact fun _ _ _ h => h); (case z26 => refine Or.inl ⟨rfl, ?_⟩; intro w hSw; (try dsimp only at hSw); go_simp; try with_reducible rfl); (case z28 => assumption); try simp only [Act.put, List.getElem_toArray, List.getElem_cons_zero, List.getElem_cons_succ, List.setIfInBounds_toArray, List.set_cons_zero, List.set_cons_succ])
            (refine wpAnyH_take (i := 2) (oi := ?z3o) (v := ?z3v) ?z31 ?z32 ?z33 ?z34 ?z35 ?z36 ?z38 ?_; (case z31 => rfl); (case z32 => kernel_rfl); (case z33 => kernel_rfl); (case z34 => kernel_rfl); (case z35 => exact fun _ _ _ h => h); (case z36 => refine Or.inl ⟨rfl, ?_⟩; intro w hSw; (try dsimp only at hSw); go_simp; try with_reducible rfl); (case z38 => assumption); try simp only [Act.put, List.getElem_toArray, List.getElem_cons_zero, List.getElem_cons_succ, List.setIfInBounds_toArray, List.set_cons_zero, List.set_cons_succ])
            (refine wpAnyH_take (i := 3) (oi := ?z4o) (v := ?z4v) ?z41 ?z42 ?z43 ?z44 ?z45 ?z46 ?z48 ?_; (case z41 => rfl); (case z42 => kernel_rfl); (case z43 => kernel_rfl); (case z44 => kernel_rfl); (case z45 => exact fun _ _ _ h => h); (case z46 => refine Or.inl ⟨rfl, ?_⟩; intro w hSw; (try dsimp only at hSw); go_simp; try with_reducible rfl); (case z48 => assumption); try simp only [Act.put, List.getElem_toArray, List.getElem_cons_zero, List.getElem_cons_succ, List.setIfInBounds_toArray, List.set_cons_zero, List.set_cons_succ])
            (refine wpAnyH_take (i := 4) (oi := ?z5o) (v := ?z5v) ?z51 ?z52 ?z53 ?z54 ?z55 ?z56 ?z58 ?_; (case z51 => rfl); (case z52 => kernel_rfl); (case z53 => kernel_rfl); (case z54 => kernel_rfl); (case z55 => exact fun _ _ _ h => h); (case z56 => refine Or.inl ⟨rfl, ?_⟩; intro w hSw; (try dsimp only at hSw); go_simp; try with_reducible rfl); (case z58 => assumption); try simp only [Act.put, List.getElem_toArray, List.getElem_cons_zero, List.getElem_cons_succ, List.setIfInBounds_toArray, List.set_cons_zero, List.set_cons_succ])
            (refine wpAnyH_take (i := 5) (oi := ?z6o) (v := ?z6v) ?z61 ?z62 ?z63 ?z64 ?z65 ?z66 ?z68 ?_; (case z61 => rfl); (case z62 => kernel_rfl); (case z63 => kernel_rfl); (case z64 => kernel_rfl); (case z65 => exact fun _ _ _ h => h); (case z66 => refine Or.inl ⟨rfl, ?_⟩; intro w hSw; (try dsimp only at hSw); go_simp; try with_reducible rfl); (case z68 => assumption); try simp only [Act.put, List.getElem_toArray, List.getElem_cons_zero, List.getElem_cons_succ, List.setIfInBounds_toArray, List.set_cons_zero, List.set_cons_succ])
            (refine wpAnyH_take (i := 6) (oi := ?z7o) (v := ?z7v) ?z71 ?z72 ?z73 ?z74 ?z75 ?z76 ?z78 ?_; (case z71 => rfl); (case z72 => kernel_rfl); (case z73 => kernel_rfl); (case z74 => kernel_rfl); (case z75 => exact fun _ _ _ h => h); (case z76 => refine Or.inl ⟨rfl, ?_⟩; intro w hSw; (try dsimp only at hSw); go_simp; try with_reducible rfl); (case z78 => assumption); try simp only [Act.put, List.getElem_toArray, List.getElem_cons_zero, List.getElem_cons_succ, List.setIfInBounds_toArray, List.set_cons_zero, List.set_cons_succ])
            (refine wpAnyH_take (i := 7) (oi := ?z8o) (v := ?z8v) ?z81 ?z82 ?z83 ?z84 ?z85 ?z86 ?z88 ?_; (case z81 => rfl); (case z82 => kernel_rfl); (case z83 => kernel_rfl); (case z84 => kernel_rfl); (case z85 => exact fun _ _ _ h => h); (case z86 => refine Or.inl ⟨rfl, ?_⟩; intro w hSw; (try dsimp only at hSw); go_simp; try with_reducible rfl); (case z88 => assumption); try simp only [Act.put, List.getElem_toArray, List.getElem_cons_zero, List.getElem_cons_succ, List.setIfInBounds_toArray, List.set_cons_zero, List.set_cons_succ])
            (refine wpAnyH_take (i := 8) (oi := ?z9o) (v := ?z9v) ?z91 ?z92 ?z93 ?z94 ?z95 ?z96 ?z98 ?_; (case z91 => rfl); (case z92 => kernel_rfl); (case z93 => kernel_rfl); (case z94 => kernel_rfl); (case z95 => exact fun _ _ _ h => h); (case z96 => refine Or.inl ⟨rfl, ?_⟩; intro w hSw; (try dsimp only at hSw); go_simp; try with_reducible rfl); (case z98 => assumption); try simp only [Act.put, List.getElem_toArray, List.getElem_cons_zero, List.getElem_cons_succ, List.setIfInBounds_toArray, List.set_cons_zero, List.set_cons_succ])
            (refine wpAnyH_take (i := 10) (oi := ?z10o) (v := ?z10v) ?z101 ?z102 ?z103 ?z104 ?z105 ?z106 ?z108 ?_; (case z101 => rfl); (case z102 => kernel_rfl); (case z103 => kernel_rfl); (case z104 => kernel_rfl); (case z105 => exact fun _ _ _ h => h); (case z106 => refine Or.inl ⟨rfl, ?_⟩; intro w hSw; (try dsimp only at hSw); go_simp; try with_reducible rfl); (case z108 => assumption); try simp only [Act.put, List.getElem_toArray, List.getElem_cons_zero, List.getElem_cons_succ, List.setIfInBounds_toArray, List.set_cons_zero, List.set_cons_succ])
            (refine wpAnyH_take (i := 11) (oi := ?z11o) (v := ?z11v) ?z111 ?z112 ?z113 ?z114 ?z115 ?z116 ?z118 ?_; (case z111 => rfl); (case z112 => kernel_rfl); (case z113 => kernel_rfl); (case z114 => kernel_rfl); (case z115 => exact fun _ _ _ h => h); (case z116 => refine Or.inl ⟨rfl, ?_⟩; intro w hSw; (try dsimp only at hSw); go_simp; try with_reducible rfl); (case z118 => assumption); try simp only [Act.put, List.getElem_toArray, List.getElem_cons_zero, List.getElem_cons_succ, List.setIfInBounds_toArray, List.set_cons_zero, List.set_cons_succ])
            (refine wpAnyH_take (i := 12) (oi := ?z12o) (v := ?z12v) ?z121 ?z122 ?z123 ?z124 ?z125 ?z126 ?z128 ?_; (case z121 => rfl); (case z122 => kernel_rfl); (case z123 => kernel_rfl); (case z124 => kernel_rfl); (case z125 => exact fun _ _ _ h => h); (case z126 => refine Or.inl ⟨rfl, ?_⟩; intro w hSw; (try dsimp only at hSw); go_simp; try with_reducible rfl); (case z128 => assumption); try simp only [Act.put, List.getElem_toArray, List.getElem_cons_zero, List.getElem_cons_succ, List.setIfInBounds_toArray, List.set_cons_zero, List.set_cons_succ])
            refine wpAnyH_ready (rs := [9, 13]) (by kernel_rfl) (by simp) ?_
            refine (AllReadyH.cons rfl (fun K' hK => ?_) (AllReadyH.cons rfl (fun K' hK => ?_) AllReadyH.nil))
            · go_simp
              (refine hK.out _ _ (anyW1 _) (fun hHeld3 => ?_); clear hK K'; (try simp only [Act.put, List.setIfInBounds_toArray, List.set_cons_zero, List.set_cons_succ]))
              refine wpAnyH_ready (rs := [13]) (by kernel_rfl) (by simp) ?_
              refine (AllReadyH.cons rfl (fun K' hK => ?_) AllReadyH.nil)
              · go_simp
                (refine hK.out _ _ (anyW1 _) (fun hHeld3 => ?_); clear hK K'; (try simp only [Act.put, List.setIfInBounds_toArray, List.set_cons_zero, List.set_cons_succ]))
                (refine wpAnyH_take (i := 14) (oi := ?z13o) (v := ?z13v) ?z131 ?z132 ?z133 ?z134 ?z135 ?z136 ?z138 ?_; (case z131 => rfl); (case z132 => kernel_rfl); (case z133 => kernel_rfl); (case z134 => kernel_rfl); (case z135 => exact fun _ _ _ h => h); (case z136 => refine Or.inl ⟨rfl, ?_⟩; intro w hSw; (try dsimp only at hSw); go_simp; try with_reducible rfl); (case z138 => assumption); try simp only [Act.put, List.getElem_toArray, List.getElem_cons_zero, List.getElem_cons_succ, List.setIfInBounds_toArray, List.set_cons_zero, List.set_cons_succ])
                refine wpAnyH_ready (rs := [15]) (by kernel_rfl) (by simp) ?_
                refine (AllReadyH.cons rfl (fun K' hK => ?_) AllReadyH.nil)
                refine step_storeEv (by rfl) _ _ (by rfl) hrs.drew (k := u) hul y (by rfl) (by rfl) ?_
                have hS1 := hrs.drew.put hul y
                have hG1 := setCells_gb b (evK.enc y) (u * 12) wr.drew
                generalize (wr.drew).setCells b (u * 12) (evK.enc y) = W1 at *
                (refine hK.out _ _ (anyW1 _) (fun hHeld3 => ?_); clear hK K'; (try simp only [Act.put, List.setIfInBounds_toArray, List.set_cons_zero, List.set_cons_succ]))
                (refine wpAnyH_take (i := 16) (oi := ?z14o) (v := ?z14v) ?z141 ?z142 ?z143 ?z144 ?z145 ?z146 ?z148 ?_; (case z141 => rfl); (case z142 => kernel_rfl); (case z143 => kernel_rfl); (case z144 => kernel_rfl); (case z145 => exact fun _ _ _ h => h); (case z146 => refine Or.inl ⟨rfl, ?_⟩; intro w hSw; (try dsimp only at hSw); go_simp; try with_reducible rfl); (case z148 => assumption); try simp only [Act.put, List.getElem_toArray, List.getElem_cons_zero, List.getElem_cons_succ, List.setIfInBounds_toArray, List.set_cons_zero, List.set_cons_succ])
                refine wpAnyH_ready (rs := [17]) (by kernel_rfl) (by simp) ?_
                refine (AllReadyH.cons rfl (fun K' hK => ?_) AllReadyH.nil)
                refine step_storeEv (by rfl) _ _ (by rfl) hS1 (k := (u + 1)) (by rw [List.length_set]; exact hvl) x (by rfl) (by rfl) ?_
                have hS2 := hS1.put (k := (u + 1)) (by rw [List.length_set]; exact hvl) x
                have hG2 := setCells_gb b (evK.enc x) ((u + 1) * 12) W1
                generalize W1.setCells b ((u + 1) * 12) (evK.enc x) = W2 at *
                (refine hK.out _ _ (anyW1 _) (fun hHeld3 => ?_); clear hK K'; (try simp only [Act.put, List.setIfInBounds_toArray, List.set_cons_zero, List.set_cons_succ]))
                refine wpAnyH_done (by kernel_rfl) ?_ _
                (go_wp2_with fail; go_meet; exact ⟨by rw [← sw_uv HLU.out HVU.out]; exact hS2, gb_step (gb_step (gb_drew hg) hG1) hG2⟩)
            · go_simp
              (refine hK.out _ _ (anyW1 _) (fun hHeld3 => ?_); clear hK K'; (try simp only [Act.put, List.setIfInBounds_toArray, List.set_cons_zero, List.set_cons_succ]))
              refine wpAnyH_ready (rs := [9]) (by kernel_rfl) (by simp) ?_
              refine (AllReadyH.cons rfl (fun K' hK => ?_) AllReadyH.nil)
              · go_simp
                (refine hK.out _ _ (anyW1 _) (fun hHeld3 => ?_); clear hK K'; (try simp only [Act.put, List.setIfInBounds_toArray, List.set_cons_zero, List.set_cons_succ]))
                (refine wpAnyH_take (i := 14) (oi := ?z15o) (v := ?z15v) ?z151 ?z152 ?z153 ?z154 ?z155 ?z156 ?z158 ?_; (case z151 => rfl); (case z152 => kernel_rfl); (case z153 => kernel_rfl); (case z154 => kernel_rfl); (case z155 => exact fun _ _ _ h => h); (case z156 => refine Or.inl ⟨rfl, ?_⟩; intro w hSw; (try dsimp only at hSw); go_simp; try with_reducible rfl); (case z158 => assumption); try simp only [Act.put, List.getElem_toArray, List.getElem_cons_zero, List.getElem_cons_succ, List.setIfInBounds_toArray, List.set_cons_zero, List.set_cons_succ])
                refine wpAnyH_ready (rs := [15]) (by kernel_rfl) (by simp) ?_
                refine (AllReadyH.cons rfl (fun K' hK => ?_) AllReadyH.nil)
                refine step_storeEv (by rfl) _ _ (by rfl) hrs.drew (k := u) hul y (by rfl) (by rfl) ?_
                have hS1 := hrs.drew.put hul y
                have hG1 := setCells_gb b (evK.enc y) (u * 12) wr.drew
                generalize (wr.drew).setCells b (u * 12) (evK.enc y) = W1 at *
                (refine hK.out _ _ (anyW1 _) (fun hHeld3 => ?_); clear hK K'; (try simp only [Act.put, List.setIfInBounds_toArray, List.set_cons_zero, List.set_cons_succ]))
                (refine wpAnyH_take (i := 16) (oi := ?z16o) (v := ?z16v) ?z161 ?z162 ?z163 ?z164 ?z165 ?z166 ?z168 ?_; (case z161 => rfl); (case z162 => kernel_rfl); (case z163 => kernel_rfl); (case z164 => kernel_rfl); (case z165 => exact fun _ _ _ h => h); (case z166 => refine Or.inl ⟨rfl, ?_⟩; intro w hSw; (try dsimp only at hSw); go_simp; try with_reducible rfl); (case z168 => assumption); try simp only [Act.put, List.getElem_toArray, List.getElem_cons_zero, List.getElem_cons_succ, List.setIfInBounds_toArray, List.set_cons_zero, List.set_cons_succ])
                refine wpAnyH_ready (rs := [17]) (by kernel_rfl) (by simp) ?_
                refine (AllReadyH.cons rfl (fun K' hK => ?_) AllReadyH.nil)
                refine step_storeEv (by rfl) _ _ (by rfl) hS1 (k := (u + 1)) (by rw [List.length_set]; exact hvl) x (by rfl) (by rfl) ?_
                have hS2 := hS1.put (k := (u + 1)) (by rw [List.length_set]; exact hvl) x
                have hG2 := setCells_gb b (evK.enc x) ((u + 1) * 12) W1
                generalize W1.setCells b ((u + 1) * 12) (evK.enc x) = W2 at *
                (refine hK.out _ _ (anyW1 _) (fun hHeld3 => ?_); clear hK K'; (try simp only [Act.put, List.setIfInBounds_toArray, List.set_cons_zero, List.set_cons_succ]))
                refine wpAnyH_done (by kernel_rfl) ?_ _
                (go_wp2_with fail; go_meet; exact ⟨by rw [← sw_uv HLU.out HVU.out]; exact hS2, gb_step (gb_step (gb_drew hg) hG1) hG2⟩)
          case rest =>
            obtain ⟨hs, hgx⟩ := hcut
            have hs' : SR wc b (P ++ Y1.take (t + 1) ++ x :: (Y1.drop (t + 1) ++ (Y2 ++ Q))) := by rw [HTK.out]; simpa using hs
            clear e0 e1 e2 e3 e4 e5 e6 e7 e8 e9 e10 e11 f0 f1 f2 f3 f4 f5 f6 f7 f8 f9 f10 f11 hrs hg hs
            have hajt := HAJ.out
            go_wp2
            go_roundw
            case measure => simp [intOf]; omega
            case rel => exact ⟨t + 1, u + 1, by omega, by omega, by go_num, hs', hgx⟩
        · have hti : ¬ (u : Int) < (aj : Int) := by have := HAJ.out; omega
          have htt : t = j := by omega
          have hfin : ∃ Z, Sorted ([x] ++ Y) Z ∧ SR wr b (P ++ Z ++ Q) := ⟨Y1 ++ x :: Y2, HMO.out, by rw [htt, List.take_of_length_le (by rw [HY1.out]; exact Nat.le_refl _), List.drop_eq_nil_of_le (by rw [HY1.out]; exact Nat.le_refl _)] at hr; simpa using hr⟩
          clear hr htt
          go_wp2
          go_end0
          exact ⟨rfl, hfin, hg⟩
end Go.Proofs.Ytlfhjlkhhaoicaa

namespace Go.Proofs.Ytlfhjlkhhaoicaa
set_option linter.unusedVariables false
set_option linter.unusedSimpArgs false
open Go.RowKit
attribute [local go_sem] q_le0 q_le1 q_le2 q_le3 q_le4 q_le5 q_lt1 q_lt2 q_lt3 q_lt4 q_lt5

theorem lst_x {P X Q : List Ev} {x y : Ev} {k c : Nat} (hk : k = P.length + c) (hx : X[c]? = some x) : (P ++ X ++ [y] ++ Q)[k]? = some x := by
  have hc := (List.getElem?_eq_some_iff.1 hx).1
  rw [List.append_assoc, List.getElem?_append_left (by simp; omega), List.getElem?_append_right (by omega), hk, Nat.add_sub_cancel_left]
  exact hx
theorem lst_y {P X Q : List Ev} {y : Ev} {m : Nat} (hm : m = P.length + X.length) : (P ++ X ++ [y] ++ Q)[m]? = some y := by
  subst hm
  rw [List.append_assoc, List.getElem?_append_right (by simp)]
  simp
/-- Where the second search stands. -/
structure Bs2 (X : List Ev) (y : Ev) (i j : Nat) : Prop where
  lo : i = 0 ∨ ∃ x, X[i - 1]? = some x ∧ leE x y
  hi : j = X.length ∨ ∃ x, X[j]? = some x ∧ ltE y x
set_option maxRecDepth 100000 in
set_option maxHeartbeats 4000000 in
theorem symMerge_last (b cap N a m e : Nat) (P X Q : List Ev) (y : Ev) (w : World) (h : SR w b (P ++ X ++ [y] ++ Q)) (ha : a = P.length) (hm : m = a + X.length) (he : e = m + 1) (h2 : 2 ≤ X.length) (hX : Srt X) (hN : N = (P ++ X ++ [y] ++ Q).length) (hN2 : N ≤ 1000) :
    Calls Try.prog 80 #[.slice (some ⟨b, 0, none⟩) N cap, .int .i64 a, .int .i64 m, .int .i64 e, SortFn] w (MrgPost P X [y] Q b w) := by
  unfold SortFn
  have HA := Lib.hid ha
  have HN := Lib.hid hN
  have HSX := Lib.hid hX
  have hbd : e ≤ N := by simp at hN; omega
  have hem : (e : Int) - (m : Int) = 1 := by omega
  obtain ⟨nx, hnx⟩ : ∃ nx, X.length = nx := ⟨_, rfl⟩
  have HNX := Lib.hid hnx
  rw [hnx] at hm h2
  have hma : (m : Int) - (a : Int) = (nx : Int) := by omega
  have hma1 : ((nx : Int) == 1) = false := by simp; omega
  have HM := Lib.hid hm
  have HE := Lib.hid he
  clear ha hN hnx hX hm he
  go_enter Try.func80, Try.ntmps80
  go_wp2
  go_loopw [14, 15] (fun v14 v15 wr => ∃ i j : Nat, i ≤ j ∧ j ≤ nx ∧ v14 = .int .i64 ((a + i : Nat) : Int) ∧ v15 = .int .i64 ((a + j : Nat) : Int) ∧ Hid (Bs2 X y i j) ∧ SR wr b (P ++ X ++ [y] ++ Q) ∧ w.grownBy wr (some b)) (fun v14 v15 _ => (intOf v15).toNat - (intOf v14).toNat)
  case atStart => exact ⟨0, nx, by omega, by omega, rfl, by rw [HM.out], ⟨.inl rfl, .inl HNX.out.symm⟩, h, World.grownBy.refl w _⟩
  case round =>
    clear h
    obtain ⟨i, j, hij, hjn, rfl, rfl, hb, hr, hg⟩ := hrel
    obtain ⟨mi, hmi⟩ : ∃ mi, a + i = mi := ⟨_, rfl⟩
    obtain ⟨mj, hmj⟩ : ∃ mj, a + j = mj := ⟨_, rfl⟩
    rw [hmi, hmj]
    by_cases hlt : mi < mj
    · obtain ⟨k, hk⟩ : ∃ k, (mi + mj) / 2 = k := ⟨_, rfl⟩
      have hkd : ((mi : Int) + (mj : Int)) / 2 = (k : Int) := by omega
      have hb1 : mj ≤ 1000 := by have := HE.out; have := HM.out; omega
      have hb2 : mi ≤ 1000 := by omega
      have hw1 : IntKind.u64.wrap ((mi : Int) + (mj : Int)) = (mi : Int) + (mj : Int) := by unfold IntKind.wrap; simp [IntKind.signed, IntKind.bits]; omega
      have HMI := Lib.hid hmi
      have HMJ := Lib.hid hmj
      clear hmi hmj
      obtain ⟨c, hc⟩ : ∃ c, k = a + c := ⟨k - a, by have := HMI.out; omega⟩
      have hcj : c < j ∧ i ≤ c := by have := HMI.out; have := HMJ.out; omega
      obtain ⟨x, hx⟩ : ∃ x, X[c]? = some x := ⟨_, List.getElem?_eq_getElem (by rw [HNX.out]; omega)⟩
      have hgx : (P ++ X ++ [y] ++ Q)[k]? = some x := lst_x (by have := HA.out; omega) hx
      have hgy : (P ++ X ++ [y] ++ Q)[m]? = some y := lst_y (by have := HA.out; have := HM.out; have := HNX.out; omega)
      have GX := Lib.hid hgx
      have GY := Lib.hid hgy
      have HC := Lib.hid hc
      have hk0 : (0 : Int) ≤ (k : Int) := by omega
      have hkN : (k : Int) < (N : Int) := by have := HE.out; have := HM.out; omega
      have ha0 : (0 : Int) ≤ (m : Int) := by omega
      have haN : (m : Int) < (N : Int) := by have := HE.out; omega
      clear hgx hgy hc hk
      by_cases hly : ltE y x
      · have hc1 : decide (cmpE y x < 0) = true := decide_eq_true (cmpE_lt.2 hly)
        have hb' : Hid (Bs2 X y i c) := ⟨hb.out.lo, .inr ⟨x, hx, hly⟩⟩
        clear hx
        go_wp2
        first | (go_region_held3 (fun w' => (w'.cell? ⟨b, m * 12, none⟩ = some (.int .i64 y.r) ∧ w'.cell? ⟨b, m * 12 + 1, none⟩ = some (.int .i64 y.n) ∧ w'.cell? ⟨b, m * 12 + 2, none⟩ = some (.int .i64 y.c.x0) ∧ w'.cell? ⟨b, m * 12 + 3, none⟩ = some (.int .i64 y.c.x1) ∧ w'.cell? ⟨b, m * 12 + 4, none⟩ = some (.int .i64 y.c.x2) ∧ w'.cell? ⟨b, m * 12 + 5, none⟩ = some (.int .i64 y.c.x3) ∧ w'.cell? ⟨b, m * 12 + 6, none⟩ = some (.int .i64 y.c.x4) ∧ w'.cell? ⟨b, m * 12 + 7, none⟩ = some (.int .i64 y.h) ∧ w'.cell? ⟨b, m * 12 + 8, none⟩ = some (.int .i64 y.k) ∧ w'.cell? ⟨b, m * 12 + 9, none⟩ = some (.string y.key) ∧ w'.cell? ⟨b, m * 12 + 10, none⟩ = some (.int .i64 y.lab) ∧ w'.cell? ⟨b, m * 12 + 11, none⟩ = some (.string y.val)) ∧ (w'.cell? ⟨b, k * 12, none⟩ = some (.int .i64 x.r) ∧ w'.cell? ⟨b, k * 12 + 1, none⟩ = some (.int .i64 x.n) ∧ w'.cell? ⟨b, k * 12 + 2, none⟩ = some (.int .i64 x.c.x0) ∧ w'.cell? ⟨b, k * 12 + 3, none⟩ = some (.int .i64 x.c.x1) ∧ w'.cell? ⟨b, k * 12 + 4, none⟩ = some (.int .i64 x.c.x2) ∧ w'.cell? ⟨b, k * 12 + 5, none⟩ = some (.int .i64 x.c.x3) ∧ w'.cell? ⟨b, k * 12 + 6, none⟩ = some (.int .i64 x.c.x4) ∧ w'.cell? ⟨b, k * 12 + 7, none⟩ = some (.int .i64 x.h) ∧ w'.cell? ⟨b, k * 12 + 8, none⟩ = some (.int .i64 x.k) ∧ w'.cell? ⟨b, k * 12 + 9, none⟩ = some (.string x.key) ∧ w'.cell? ⟨b, k * 12 + 10, none⟩ = some (.int .i64 x.lab) ∧ w'.cell? ⟨b, k * 12 + 11, none⟩ = some (.string x.val)) ∧ Below wr.heap.size wr w')
          (first | with_reducible exact keepTwo hr GY.out GX.out hB5 | with_reducible exact keepTwo hr GY.out GX.out (Below.refl _ _).drew)
          (first | (go_at_call 63; refine (cmp_any y x _).mono ?_; rintro e5 w5 ⟨rfl, hb5⟩; have hB5 : Below wr.heap.size wr w5 := (Below.refl _ _).drew.trans hb5))) | fail
        have hr5 := hr.below hB5
        have hg5 := gb_bel hg hB5
        clear hb5 hB5 hr hg
        go_wp2
        go_roundw
        case measure => simp [intOf]; omega
        case rel => exact ⟨i, c, by omega, by omega, by rw [HMI.out], by rw [HC.out], hb', hr5, hg5⟩
      · have hc1 : decide (cmpE y x < 0) = false := decide_eq_false (fun hc => hly (cmpE_lt.1 hc))
        have hb' : Hid (Bs2 X y (c + 1) j) := ⟨.inr ⟨x, by simpa using hx, hly⟩, hb.out.hi⟩
        clear hx
        go_wp2
        first | (go_region_held3 (fun w' => (w'.cell? ⟨b, m * 12, none⟩ = some (.int .i64 y.r) ∧ w'.cell? ⟨b, m * 12 + 1, none⟩ = some (.int .i64 y.n) ∧ w'.cell? ⟨b, m * 12 + 2, none⟩ = some (.int .i64 y.c.x0) ∧ w'.cell? ⟨b, m * 12 + 3, none⟩ = some (.int .i64 y.c.x1) ∧ w'.cell? ⟨b, m * 12 + 4, none⟩ = some (.int .i64 y.c.x2) ∧ w'.cell? ⟨b, m * 12 + 5, none⟩ = some (.int .i64 y.c.x3) ∧ w'.cell? ⟨b, m * 12 + 6, none⟩ = some (.int .i64 y.c.x4) ∧ w'.cell? ⟨b, m * 12 + 7, none⟩ = some (.int .i64 y.h) ∧ w'.cell? ⟨b, m * 12 + 8, none⟩ = some (.int .i64 y.k) ∧ w'.cell? ⟨b, m * 12 + 9, none⟩ = some (.string y.key) ∧ w'.cell? ⟨b, m * 12 + 10, none⟩ = some (.int .i64 y.lab) ∧ w'.cell? ⟨b, m * 12 + 11, none⟩ = some (.string y.val)) ∧ (w'.cell? ⟨b, k * 12, none⟩ = some (.int .i64 x.r) ∧ w'.cell? ⟨b, k * 12 + 1, none⟩ = some (.int .i64 x.n) ∧ w'.cell? ⟨b, k * 12 + 2, none⟩ = some (.int .i64 x.c.x0) ∧ w'.cell? ⟨b, k * 12 + 3, none⟩ = some (.int .i64 x.c.x1) ∧ w'.cell? ⟨b, k * 12 + 4, none⟩ = some (.int .i64 x.c.x2) ∧ w'.cell? ⟨b, k * 12 + 5, none⟩ = some (.int .i64 x.c.x3) ∧ w'.cell? ⟨b, k * 12 + 6, none⟩ = some (.int .i64 x.c.x4) ∧ w'.cell? ⟨b, k * 12 + 7, none⟩ = some (.int .i64 x.h) ∧ w'.cell? ⟨b, k * 12 + 8, none⟩ = some (.int .i64 x.k) ∧ w'.cell? ⟨b, k * 12 + 9, none⟩ = some (.string x.key) ∧ w'.cell? ⟨b, k * 12 + 10, none⟩ = some (.int .i64 x.lab) ∧ w'.cell? ⟨b, k * 12 + 11, none⟩ = some (.string x.val)) ∧ Below wr.heap.size wr w')
          (first | with_reducible exact keepTwo hr GY.out GX.out hB5 | with_reducible exact keepTwo hr GY.out GX.out (Below.refl _ _).drew)
          (first | (go_at_call 63; refine (cmp_any y x _).mono ?_; rintro e5 w5 ⟨rfl, hb5⟩; have hB5 : Below wr.heap.size wr w5 := (Below.refl _ _).drew.trans hb5))) | fail
        have hr5 := hr.below hB5
        have hg5 := gb_bel hg hB5
        clear hb5 hB5 hr hg
        go_wp2
        go_roundw
        case measure => simp [intOf]; omega
        case rel => exact ⟨c + 1, j, by omega, by omega, by have := HC.out; first | go_num | (rw [show a + (c + 1) = k + 1 from by omega]; go_num), by rw [HMJ.out], hb', hr5, hg5⟩
    · obtain rfl : j = i := by omega
      have hmm : mi = mj := by omega
      subst hmm
      have hd0 : ¬ ((mi : Int) < (mi : Int)) := by omega
      have HMI := Lib.hid hmi
      have HX1 := Lib.hid (show (X.take j).length = j by rw [List.length_take, HNX.out]; omega)
      have HX2 := Lib.hid (show (X.drop j).length = nx - j by rw [List.length_drop, HNX.out])
      have hmo : Sorted (X ++ [y]) (X.take j ++ y :: X.drop j) := by
        have h1 := merge_last (y := y) (X1 := X.take j) (X2 := X.drop j) (by rw [List.take_append_drop]; exact HSX.out) (fun x hx => by
          rcases hb.out.lo with h0 | ⟨z, hz, hl⟩
          · subst h0; simp at hx
          · have hz' : (X.take j).getLast? = some z := by
              rw [List.getLast?_eq_getElem?, HX1.out, List.getElem?_take_of_lt (by
                rcases Nat.eq_zero_or_pos j with h0 | h0
                · subst h0; simp at hx
                · omega)]
              exact hz
            rw [hz'] at hx
            cases hx; exact hl) (fun x hx => by
          rcases hb.out.hi with h0 | ⟨z, hz, hl⟩
          · rw [h0, List.drop_length] at hx; simp at hx
          · rw [List.head?_drop, hz] at hx
            cases hx; exact hl)
        rw [List.take_append_drop] at h1
        exact ⟨h1.1, h1.2⟩
      have HMO := Lib.hid hmo
      have hr0 : SR wr b (P ++ X.take j ++ (X.drop j).take (nx - j) ++ y :: ((X.drop j).drop (nx - j) ++ Q)) := by
        have h1 : P ++ X ++ [y] ++ Q = P ++ X.take j ++ (X.drop j).take (nx - j) ++ y :: ((X.drop j).drop (nx - j) ++ Q) := by
          have e1 : (X.drop j).take (nx - j) = X.drop j := List.take_of_length_le (by rw [HX2.out]; exact Nat.le_refl _)
          have e2 : (X.drop j).drop (nx - j) = [] := List.drop_eq_nil_of_le (by rw [HX2.out]; exact Nat.le_refl _)
          rw [e1, e2, List.append_assoc P (X.take j), List.take_append_drop]
          simp
        rw [← h1]; exact hr
      generalize X.take j = X1 at *
      generalize X.drop j = X2 at *
      have hmiN : mi ≤ 1000 := by have := HE.out; have := HM.out; omega
      have ht0 : mi + (nx - j) = m := by have := HM.out; omega
      clear hmo hb hr hmi
      go_wp2
      go_loopw [17] (fun v17 wr => ∃ t u : Nat, t ≤ nx - j ∧ mi + t = u ∧ v17 = .int .i64 u ∧ SR wr b (P ++ X1 ++ X2.take t ++ y :: (X2.drop t ++ Q)) ∧ w.grownBy wr (some b)) (fun v17 _ => (intOf v17).toNat)
      case atStart => exact ⟨nx - j, m, by omega, ht0, rfl, hr0, hg⟩
      case round =>
        clear hr0 hg ht0
        obtain ⟨t, u', htj, htu, rfl, hr, hg⟩ := hrel
        by_cases hlt2 : 0 < t
        · obtain ⟨t, rfl⟩ : ∃ t', t = t' + 1 := ⟨t - 1, by omega⟩
          obtain ⟨u, rfl⟩ : ∃ u, u' = u + 1 := ⟨u' - 1, by omega⟩
          have htu2 : mi + t = u := by omega
          have hti : (u : Int) + 1 > (mi : Int) := by omega
          obtain ⟨x, hx⟩ : ∃ x, X2[t]? = some x := ⟨_, List.getElem?_eq_getElem (by rw [HX2.out]; omega)⟩
          have hdr : X2.drop t = x :: X2.drop (t + 1) := by
            obtain ⟨h1, h2⟩ := List.getElem?_eq_some_iff.1 hx
            rw [List.drop_eq_getElem_cons h1, h2]
          have htk : X2.take (t + 1) = X2.take t ++ [x] := by rw [List.take_add_one, hx]; rfl
          have HDR := Lib.hid hdr
          rw [htk] at hr
          have hrs : SR wr b ((P ++ X1 ++ X2.take t) ++ x :: ([] ++ y :: (X2.drop (t + 1) ++ Q))) := by simpa using hr
          have hLu : u = (P ++ X1 ++ X2.take t).length := by have := HA.out; have := HMI.out; rw [List.length_append, List.length_append, List.length_take, HX2.out, HX1.out]; omega
          have hvu : u + 1 = (P ++ X1 ++ X2.take t).length + 1 + ([] : List Ev).length := by rw [hLu]; simp
          have HLU := Lib.hid hLu
          have HVU := Lib.hid hvu
          have hul : u < ((P ++ X1 ++ X2.take t) ++ x :: ([] ++ y :: (X2.drop (t + 1) ++ Q))).length := by rw [sw_len, hLu]; omega
          have hvl : u + 1 < ((P ++ X1 ++ X2.take t) ++ x :: ([] ++ y :: (X2.drop (t + 1) ++ Q))).length := by rw [sw_len, hLu]; simp; omega
          have gu := hrs.get (sw_u (U := P ++ X1 ++ X2.take t) (V := []) (Z := X2.drop (t + 1) ++ Q) (x := x) (y := y) hLu)
          have gv := hrs.get (sw_v (U := P ++ X1 ++ X2.take t) (V := []) (Z := X2.drop (t + 1) ++ Q) (x := x) (y := y) hvu)
          obtain ⟨e0, e1, e2, e3, e4, e5, e6, e7, e8, e9, e10, e11⟩ := gu
          obtain ⟨f0, f1, f2, f3, f4, f5, f6, f7, f8, f9, f10, f11⟩ := gv
          have hw1 : IntKind.i64.wrap ((u : Int) + 1 - 1) = (u : Int) := by rw [Int.add_sub_cancel]; exact IntWalk.i64_in _ (by omega)
          have hw2 : IntKind.i64.wrap (u : Int) = (u : Int) := IntWalk.i64_in _ (by omega)
          have hu0 : (0 : Int) ≤ (u : Int) := by omega
          have hu1 : (0 : Int) ≤ (u : Int) + 1 := by omega
          have huN : (u : Int) < (N : Int) := by have := HMI.out; have := HE.out; have := HM.out; omega
          have huN1 : (u : Int) + 1 < (N : Int) := by have := HMI.out; have := HE.out; have := HM.out; omega
          have HTU := Lib.hid htu2
          clear hx hdr htk hr hLu hvu htu htu2
          go_upto_block 7 with fail
          go_cut [128] (fun s128 wx => SR wx b ((P ++ X1 ++ X2.take t) ++ y :: ([] ++ x :: (X2.drop (t + 1) ++ Q))) ∧ w.grownBy wx (some b))
          case first =>
            go_wp2
            refine wp_region_held_drew (S := AnyW1) (by kernel_rfl) (anyW1 _) (fun hHeld => ?_)
            (refine wpAnyH_take (i := 0) (oi := ?z17o) (v := ?z17v) ?z171 ?z172 ?z173 ?z174 ?z175 ?z176 ?z178 ?_; (case z171 => rfl); (case z172 => kernel_rfl); (case z173 => kernel_rfl); (case z174 => kernel_rfl); (case z175 => exact fun _ _ _ h => h); (case z176 => refine Or.inl ⟨rfl, ?_⟩; intro w hSw; (try dsimp only at hSw); go_simp; try with_reducible rfl); (case z178 => assumption); try simp only [Act.put, List.getElem_toArray, List.getElem_cons_zero, List.getElem_cons_succ, List.setIfInBounds_toArray, List.set_cons_zero, List.set_cons_succ])
            (refine wpAnyH_take (i := 1) (oi := ?z18o) (v := ?z18v) ?z181 ?z182 ?z183 ?z184 ?z185 ?z186 ?z188 ?_; (case z181 => rfl); (case z182 => kernel_rfl); (case z183 => kernel_rfl); (case z184 => kernel_rfl); (case z185 => exact fun _ _ _ h => h); (case z186 => refine Or.inl ⟨rfl, ?_⟩; intro w hSw; (try dsimp only at hSw); go_simp; try with_reducible rfl); (case z188 => assumption); try simp only [Act.put, List.getElem_toArray, List.getElem_cons_zero, List.getElem_cons_succ, List.setIfInBounds_toArray, List.set_cons_zero, List.set_cons_succ])
            (refine wpAnyH_take (i := 2) (oi := ?z19o) (v := ?z19v) ?z191 ?z192 ?z193 ?z194 ?z195 ?z196 ?z198 ?_; (case z191 => rfl); (case z192 => kernel_rfl); (case z193 => kernel_rfl); (case z194 => kernel_rfl); (case z195 => exact fun _ _ _ h => h); (case z196 => refine Or.inl ⟨rfl, ?_⟩; intro w hSw; (try dsimp only at hSw); go_simp; try with_reducible rfl); (case z198 => assumption); try simp only [Act.put, List.getElem_toArray, List.getElem_cons_zero, List.getElem_cons_succ, List.setIfInBounds_toArray, List.set_cons_zero, List.set_cons_succ])
            (refine wpAnyH_take (i := 3) (oi := ?z20o) (v := ?z20v) ?z201 ?z202 ?z203 ?z204 ?z205 ?z206 ?z208 ?_; (case z201 => rfl); (case z202 => kernel_rfl); (case z203 => kernel_rfl); (case z204 => kernel_rfl); (case z205 => exact fun _ _ _ h => h); (case z206 => refine Or.inl ⟨rfl, ?_⟩; intro w hSw; (try dsimp only at hSw); go_simp; try with_reducible rfl); (case z208 => assumption); try simp only [Act.put, List.getElem_toArray, List.getElem_cons_zero, List.getElem_cons_succ, List.setIfInBounds_toArray, List.set_cons_zero, List.set_cons_succ])
            (refine wpAnyH_take (i := 4) (oi := ?z21o) (v := ?z21v) ?z211 ?z212 ?z213 ?z214 ?z215 ?z216 ?z218 ?_; (case z211 => rfl); (case z212 => kernel_rfl); (case z213 => kernel_rfl); (case z214 => kernel_rfl); (case z215 => exact fun _ _ _ h => h); (case z216 => refine Or.inl ⟨rfl, ?_⟩; intro w hSw; (try dsimp only at hSw); go_simp; try with_reducible rfl); (case z218 => assumption); try simp only [Act.put, List.getElem_toArray, List.getElem_cons_zero, List.getElem_cons_succ, List.setIfInBounds_toArray, List.set_cons_zero, List.set_cons_succ])
            (refine wpAnyH_take (i := 5) (oi := ?z22o) (v := ?z22v) ?z221 ?z222 ?z223 ?z224 ?z225 ?z226 ?z228 ?_; (case z221 => rfl); (case z222 => kernel_rfl); (case z223 => kernel_rfl); (case z224 => kernel_rfl); (case z225 => exact fun _ _ _ h => h); (case z226 => refine Or.inl ⟨rfl, ?_⟩; intro w hSw; (try dsimp only at hSw); go_simp; try with_reducible rfl); (case z228 => assumption); try simp only [Act.put, List.getElem_toArray, List.getElem_cons_zero, List.getElem_cons_succ, List.setIfInBounds_toArray, List.set_cons_zero, List.set_cons_succ])
            (refine wpAnyH_take (i := 6) (oi := ?z23o) (v := ?z23v) ?z231 ?z232 ?z233 ?z234 ?z235 ?z236 ?z238 ?_; (case z231 => rfl); (case z232 => kernel_rfl); (case z233 => kernel_rfl); (case z234 => kernel_rfl); (case z235 => exact fun _ _ _ h => h); (case z236 => refine Or.inl ⟨rfl, ?_⟩; intro w hSw; (try dsimp only at hSw); go_simp; try with_reducible rfl); (case z238 => assumption); try simp only [Act.put, List.getElem_toArray, List.getElem_cons_zero, List.getElem_cons_succ, List.setIfInBounds_toArray, List.set_cons_zero, List.set_cons_succ])
            (refine wpAnyH_take (i := 7) (oi := ?z24o) (v := ?z24v) ?z241 ?z242 ?z243 ?z244 ?z245 ?z246 ?z248 ?_; (case z241 => rfl); (case z242 => kernel_rfl); (case z243 => kernel_rfl); (case z244 => kernel_rfl); (case z245 => exact fun _ _ _ h => h); (case z246 => refine Or.inl ⟨rfl, ?_⟩; intro w hSw; (try dsimp only at hSw); go_simp; try with_reducible rfl); (case z248 => assumption); try simp only [Act.put, List.getElem_toArray, List.getElem_cons_zero, List.getElem_cons_succ, List.setIfInBounds_toArray, List.set_cons_zero, List.set_cons_succ])
            (refine wpAnyH_take (i := 8) (oi := ?z25o) (v := ?z25v) ?z251 ?z252 ?z253 ?z254 ?z255 ?z256 ?z258 ?_; (case z251 => rfl); (case z252 => kernel_rfl); (case z253 => kernel_rfl); (case z254 => kernel_rfl); (case z255 => exact fun _ _ _ h => h); (case z256 => refine Or.inl ⟨rfl, ?_⟩; intro w hSw; (try dsimp only at hSw); go_simp; try with_reducible rfl); (case z258 => assumption); try simp only [Act.put, List.getElem_toArray, List.getElem_cons_zero, List.getElem_cons_succ, List.setIfInBounds_toArray, List.set_cons_zero, List.set_cons_succ])
            (refine wpAnyH_take (i := 10) (oi := ?z26o) (v := ?z26v) ?z261 ?z262 ?z263 ?z264 ?z265 ?z266 ?z268 ?_; (case z261 => rfl); (case z262 => kernel_rfl); (case z263 => kernel_rfl); (case z264 => kernel_rfl); (case z265 => exact fun _ _ _ h => h); (case z266 => refine Or.inl ⟨rfl, ?_⟩; intro w hSw; (try dsimp only at hSw); go_simp; try with_reducible rfl); (case z268 => assumption); try simp only [Act.put, List.getElem_toArray, List.getElem_cons_zero, List.getElem_cons_succ, List.setIfInBounds_toArray, List.set_cons_zero, List.set_cons_succ])
            (refine wpAnyH_take (i := 11) (oi := ?z27o) (v := ?z27v) ?z271 ?z272 ?z273 ?z274 ?z275 ?z276 ?z278 ?_; (case z271 => rfl); (case z272 => kernel_rfl); (case z273 => kernel_rfl); (case z274 => kernel_rfl); (case z275 => exact fun _ _ _ h => h); (case z276 => refine Or.inl ⟨rfl, ?_⟩; intro w hSw; (try dsimp only at hSw); go_simp; try with_reducible rfl); (case z278 => assumption); try simp only [Act.put, List.getElem_toArray, List.getElem_cons_zero, List.getElem_cons_succ, List.setIfInBounds_toArray, List.set_cons_zero, List.set_cons_succ])
            (refine wpAnyH_take (i := 12) (oi := ?z28o) (v := ?z28v) ?z281 ?z282 ?z283 ?z284 ?z285 ?z286 ?z288 ?_; (case z281 => rfl); (case z282 => kernel_rfl); (case z283 => kernel_rfl); (case z284 => kernel_rfl); (case z285 => exact fun _ _ _ h => h); (case z286 => refine Or.inl ⟨rfl, ?_⟩; intro w hSw; (try dsimp only at hSw); go_simp; try with_reducible rfl); (case z288 => assumption); try simp only [Act.put, List.getElem_toArray, List.getElem_cons_zero, List.getElem_cons_succ, List.setIfInBounds_toArray, List.set_cons_zero, List.set_cons_succ])
            refine wpAnyH_ready (rs := [9, 13]) (by kernel_rfl) (by simp) ?_
            refine (AllReadyH.cons rfl (fun K' hK => ?_) (AllReadyH.cons rfl (fun K' hK => ?_) AllReadyH.nil))
            · go_simp
              (refine hK.out _ _ (anyW1 _) (fun hHeld3 => ?_); clear hK K'; (try simp only [Act.put, List.setIfInBounds_toArray, List.set_cons_zero, List.set_cons_succ]))
              refine wpAnyH_ready (rs := [13]) (by kernel_rfl) (by simp) ?_
              refine (AllReadyH.cons rfl (fun K' hK => ?_) AllReadyH.nil)
              · go_simp
                (refine hK.out _ _ (anyW1 _) (fun hHeld3 => ?_); clear hK K'; (try simp only [Act.put, List.setIfInBounds_toArray, List.set_cons_zero, List.set_cons_succ]))
                (refine wpAnyH_take (i := 14) (oi := ?z29o) (v := ?z29v) ?z291 ?z292 ?z293 ?z294 ?z295 ?z296 ?z298 ?_; (case z291 => rfl); (case z292 => kernel_rfl); (case z293 => kernel_rfl); (case z294 => kernel_rfl); (case z295 => exact fun _ _ _ h => h); (case z296 => refine Or.inl ⟨rfl, ?_⟩; intro w hSw; (try dsimp only at hSw); go_simp; try with_reducible rfl); (case z298 => assumption); try simp only [Act.put, List.getElem_toArray, List.getElem_cons_zero, List.getElem_cons_succ, List.setIfInBounds_toArray, List.set_cons_zero, List.set_cons_succ])
                refine wpAnyH_ready (rs := [15]) (by kernel_rfl) (by simp) ?_
                refine (AllReadyH.cons rfl (fun K' hK => ?_) AllReadyH.nil)
                refine step_storeEv (by rfl) _ _ (by rfl) hrs.drew (k := (u + 1)) hvl x (by rfl) (by rfl) ?_
                have hS1 := hrs.drew.put hvl x
                have hG1 := setCells_gb b (evK.enc x) ((u + 1) * 12) wr.drew
                generalize (wr.drew).setCells b ((u + 1) * 12) (evK.enc x) = W1 at *
                (refine hK.out _ _ (anyW1 _) (fun hHeld3 => ?_); clear hK K'; (try simp only [Act.put, List.setIfInBounds_toArray, List.set_cons_zero, List.set_cons_succ]))
                (refine wpAnyH_take (i := 16) (oi := ?z30o) (v := ?z30v) ?z301 ?z302 ?z303 ?z304 ?z305 ?z306 ?z308 ?_; (case z301 => rfl); (case z302 => kernel_rfl); (case z303 => kernel_rfl); (case z304 => kernel_rfl); (case z305 => exact fun _ _ _ h => h); (case z306 => refine Or.inl ⟨rfl, ?_⟩; intro w hSw; (try dsimp only at hSw); go_simp; try with_reducible rfl); (case z308 => assumption); try simp only [Act.put, List.getElem_toArray, List.getElem_cons_zero, List.getElem_cons_succ, List.setIfInBounds_toArray, List.set_cons_zero, List.set_cons_succ])
                refine wpAnyH_ready (rs := [17]) (by kernel_rfl) (by simp) ?_
                refine (AllReadyH.cons rfl (fun K' hK => ?_) AllReadyH.nil)
                refine step_storeEv (by rfl) _ _ (by rfl) hS1 (k := u) (by rw [List.length_set]; exact hul) y (by rfl) (by rfl) ?_
                have hS2 := hS1.put (k := u) (by rw [List.length_set]; exact hul) y
                have hG2 := setCells_gb b (evK.enc y) (u * 12) W1
                generalize W1.setCells b (u * 12) (evK.enc y) = W2 at *
                (refine hK.out _ _ (anyW1 _) (fun hHeld3 => ?_); clear hK K'; (try simp only [Act.put, List.setIfInBounds_toArray, List.set_cons_zero, List.set_cons_succ]))
                refine wpAnyH_done (by kernel_rfl) ?_ _
                (go_wp2_with fail; go_meet; exact ⟨by rw [← sw_vu HLU.out HVU.out]; exact hS2, gb_step (gb_step (gb_drew hg) hG1) hG2⟩)
            · go_simp
              (refine hK.out _ _ (anyW1 _) (fun hHeld3 => ?_); clear hK K'; (try simp only [Act.put, List.setIfInBounds_toArray, List.set_cons_zero, List.set_cons_succ]))
              refine wpAnyH_ready (rs := [9]) (by kernel_rfl) (by simp) ?_
              refine (AllReadyH.cons rfl (fun K' hK => ?_) AllReadyH.nil)
              · go_simp
                (refine hK.out _ _ (anyW1 _) (fun hHeld3 => ?_); clear hK K'; (try simp only [Act.put, List.setIfInBounds_toArray, List.set_cons_zero, List.set_cons_succ]))
                (refine wpAnyH_take (i := 14) (oi := ?z31o) (v := ?z31v) ?z311 ?z312 ?z313 ?z314 ?z315 ?z316 ?z318 ?_; (case z311 => rfl); (case z312 => kernel_rfl); (case z313 => kernel_rfl); (case z314 => kernel_rfl); (case z315 => exact fun _ _ _ h => h); (case z316 => refine Or.inl ⟨rfl, ?_⟩; intro w hSw; (try dsimp only at hSw); go_simp; try with_reducible rfl); (case z318 => assumption); try simp only [Act.put, List.getElem_toArray, List.getElem_cons_zero, List.getElem_cons_succ, List.setIfInBounds_toArray, List.set_cons_zero, List.set_cons_succ])
                refine wpAnyH_ready (rs := [15]) (by kernel_rfl) (by simp) ?_
                refine (AllReadyH.cons rfl (fun K' hK => ?_) AllReadyH.nil)
                refine step_storeEv (by rfl) _ _ (by rfl) hrs.drew (k := (u + 1)) hvl x (by rfl) (by rfl) ?_
                have hS1 := hrs.drew.put hvl x
                have hG1 := setCells_gb b (evK.enc x) ((u + 1) * 12) wr.drew
                generalize (wr.drew).setCells b ((u + 1) * 12) (evK.enc x) = W1 at *
                (refine hK.out _ _ (anyW1 _) (fun hHeld3 => ?_); clear hK K'; (try simp only [Act.put, List.setIfInBounds_toArray, List.set_cons_zero, List.set_cons_succ]))
                (refine wpAnyH_take (i := 16) (oi := ?z32o) (v := ?z32v) ?z321 ?z322 ?z323 ?z324 ?z325 ?z326 ?z328 ?_; (case z321 => rfl); (case z322 => kernel_rfl); (case z323 => kernel_rfl); (case z324 => kernel_rfl); (case z325 => exact fun _ _ _ h => h); (case z326 => refine Or.inl ⟨rfl, ?_⟩; intro w hSw; (try dsimp only at hSw); go_simp; try with_reducible rfl); (case z328 => assumption); try simp only [Act.put, List.getElem_toArray, List.getElem_cons_zero, List.getElem_cons_succ, List.setIfInBounds_toArray, List.set_cons_zero, List.set_cons_succ])
                refine wpAnyH_ready (rs := [17]) (by kernel_rfl) (by simp) ?_
                refine (AllReadyH.cons rfl (fun K' hK => ?_) AllReadyH.nil)
                refine step_storeEv (by rfl) _ _ (by rfl) hS1 (k := u) (by rw [List.length_set]; exact hul) y (by rfl) (by rfl) ?_
                have hS2 := hS1.put (k := u) (by rw [List.length_set]; exact hul) y
                have hG2 := setCells_gb b (evK.enc y) (u * 12) W1
                generalize W1.setCells b (u * 12) (evK.enc y) = W2 at *
                (refine hK.out _ _ (anyW1 _) (fun hHeld3 => ?_); clear hK K'; (try simp only [Act.put, List.setIfInBounds_toArray, List.set_cons_zero, List.set_cons_succ]))
                refine wpAnyH_done (by kernel_rfl) ?_ _
                (go_wp2_with fail; go_meet; exact ⟨by rw [← sw_vu HLU.out HVU.out]; exact hS2, gb_step (gb_step (gb_drew hg) hG1) hG2⟩)
          case rest =>
            obtain ⟨hs, hgx⟩ := hcut
            have hs' : SR wc b (P ++ X1 ++ X2.take t ++ y :: (X2.drop t ++ Q)) := by rw [HDR.out]; simpa using hs
            clear e0 e1 e2 e3 e4 e5 e6 e7 e8 e9 e10 e11 f0 f1 f2 f3 f4 f5 f6 f7 f8 f9 f10 f11 hrs hg hs
            go_wp2
            go_roundw
            case measure => first | (simp [intOf]; done) | (simp [intOf]; omega)
            case rel => exact ⟨t, u, by omega, HTU.out, rfl, hs', hgx⟩
        · have ht0 : t = 0 := by omega
          subst ht0
          have huu : u' = mi := by omega
          subst huu
          have hti : ¬ (u' : Int) > (u' : Int) := by omega
          have hfin : ∃ Z, Sorted (X ++ [y]) Z ∧ SR wr b (P ++ Z ++ Q) := ⟨X1 ++ y :: X2, HMO.out, by simpa using hr⟩
          clear hr
          go_wp2
          go_end0
          exact ⟨rfl, hfin, hg⟩
end Go.Proofs.Ytlfhjlkhhaoicaa
