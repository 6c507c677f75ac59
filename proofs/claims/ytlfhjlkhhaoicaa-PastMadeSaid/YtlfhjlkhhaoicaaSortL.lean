/- slices.symMergeCmpFunc, at events: whole. -/
import Derived.Test.YtlfhjlkhhaoicaaSortK
namespace Go.Proofs.Ytlfhjlkhhaoicaa
set_option linter.unusedVariables false
set_option linter.unusedSimpArgs false
open Go.RowKit
attribute [local go_sem] q_le0 q_le1 q_le2 q_le3 q_le4 q_le5 q_lt1 q_lt2 q_lt3 q_lt4 q_lt5

set_option maxRecDepth 100000 in
set_option maxHeartbeats 4000000 in
theorem symMerge_gen (f : Nat) (ih : ∀ (b cap N a m e : Nat) (P X Y Q : List Ev) (w : World), X.length + Y.length < f → SR w b (P ++ X ++ Y ++ Q) → a = P.length → m = a + X.length → e = m + Y.length → 0 < X.length → 0 < Y.length → Srt X → Srt Y → N = (P ++ X ++ Y ++ Q).length → N ≤ 1000 →
      Calls Try.prog 80 #[.slice (some ⟨b, 0, none⟩) N cap, .int .i64 a, .int .i64 m, .int .i64 e, SortFn] w (MrgPost P X Y Q b w))
    (b cap N a m e : Nat) (P X Y Q : List Ev) (w : World) (hf : X.length + Y.length = f) (h : SR w b (P ++ X ++ Y ++ Q)) (ha : a = P.length) (hm : m = a + X.length) (he : e = m + Y.length) (h2 : 2 ≤ X.length) (h3 : 2 ≤ Y.length) (hX : Srt X) (hY : Srt Y) (hN : N = (P ++ X ++ Y ++ Q).length) (hN2 : N ≤ 1000) :
    Calls Try.prog 80 #[.slice (some ⟨b, 0, none⟩) N cap, .int .i64 a, .int .i64 m, .int .i64 e, SortFn] w (MrgPost P X Y Q b w) := by
  unfold SortFn at *
  have HIH := Lib.hid ih
  have HF := Lib.hid hf
  have HA := Lib.hid ha
  have HN := Lib.hid hN
  have HSX := Lib.hid hX
  have HSY := Lib.hid hY
  have hbd : e ≤ N := by simp at hN; omega
  obtain ⟨nx, hnx⟩ : ∃ nx, X.length = nx := ⟨_, rfl⟩
  obtain ⟨ny, hny⟩ : ∃ ny, Y.length = ny := ⟨_, rfl⟩
  have HNX := Lib.hid hnx
  have HNY := Lib.hid hny
  rw [hnx] at hm h2
  rw [hny] at he h3
  have hma : (m : Int) - (a : Int) = (nx : Int) := by omega
  have hma1 : ((nx : Int) == 1) = false := by simp; omega
  have hem : (e : Int) - (m : Int) = (ny : Int) := by omega
  have hem1 : ((ny : Int) == 1) = false := by simp; omega
  obtain ⟨mid, hmid⟩ : ∃ mid, (a + e) / 2 = mid := ⟨_, rfl⟩
  have hkd : ((a : Int) + (e : Int)) / 2 = (mid : Int) := by omega
  have hw1 : IntKind.u64.wrap ((a : Int) + (e : Int)) = (a : Int) + (e : Int) := by unfold IntKind.wrap; simp [IntKind.signed, IntKind.bits]; omega
  obtain ⟨lo, hi, hlh⟩ : ∃ lo hi : Nat, (if mid < m then lo + e = mid + m ∧ hi = mid else lo = a ∧ hi = m) := by
    by_cases hc : mid < m
    · exact ⟨mid + m - e, mid, by rw [if_pos hc]; exact ⟨by omega, rfl⟩⟩
    · exact ⟨a, m, by rw [if_neg hc]; exact ⟨rfl, rfl⟩⟩
  have hfa : a ≤ lo ∧ lo ≤ hi ∧ hi ≤ m ∧ hi ≤ mid ∧ mid + m ≤ e + lo ∧ (lo = a ∨ lo + e = mid + m) ∧ (hi = m ∨ hi = mid) := by
    by_cases hc : mid < m
    · rw [if_pos hc] at hlh; omega
    · rw [if_neg hc] at hlh; omega
  obtain ⟨p, hp⟩ : ∃ p, p + 1 = mid + m := ⟨mid + m - 1, by omega⟩
  have hpp : (mid : Int) + (m : Int) - 1 = (p : Int) := by omega
  have HP := Lib.hid hp
  have HFA := Lib.hid hfa
  have HM := Lib.hid hm
  have HE := Lib.hid he
  have HMID := Lib.hid hmid
  have hme : m + ny = e := he.symm
  have hmidN : mid ≤ 1000 := by omega
  have hmN : m ≤ 1000 := by omega
  clear ih hf ha hN hX hY hnx hny hm he hmid hp hfa hme
  have hmid0 : (0 : Int) ≤ (mid : Int) := by omega
  go_enter Try.func80, Try.ntmps80
  go_upto_if 140 with fail
  go_cut [20, 21] (fun s20 s21 wx => s20 = .int .i64 lo ∧ s21 = .int .i64 hi ∧ w = wx)
  case first =>
    by_cases hc : mid < m
    · rw [if_pos hc] at hlh
      obtain ⟨hl1, hl2⟩ := hlh
      obtain rfl : mid = hi := hl2.symm
      have hlo : (mid : Int) + (m : Int) - (e : Int) = (lo : Int) := by omega
      have hci : (m : Int) > (mid : Int) := by omega
      clear hl1 hl2 hc
      go_wp2_with fail
      go_meet
      exact ⟨rfl, rfl, rfl⟩
    · rw [if_neg hc] at hlh
      obtain ⟨hl1, hl2⟩ := hlh
      obtain rfl : a = lo := hl1.symm
      obtain rfl : m = hi := hl2.symm
      have hci : ¬ (m : Int) > (mid : Int) := by omega
      clear hl1 hl2 hc
      go_wp2_with fail
      go_meet
      exact ⟨rfl, rfl, rfl⟩
  case rest =>
    obtain ⟨rfl, rfl, rfl⟩ := hcut
    clear hlh
    go_upto_block 8 with fail
    clear hkd hw1 hma hma1 hem hem1 hpp
    go_cut [20, 21, 23] (fun s20 s21 s23 wx => ∃ i : Nat, lo ≤ i ∧ i ≤ hi ∧ s20 = .int .i64 i ∧ Hid (Bs3 (P ++ X ++ Y ++ Q) p lo hi i i) ∧ SR wx b (P ++ X ++ Y ++ Q) ∧ w.grownBy wx (some b))
    case first =>
      go_wp2_with fail
      go_loopw [20, 21] (fun v20 v21 wr => ∃ i j : Nat, lo ≤ i ∧ i ≤ j ∧ j ≤ hi ∧ v20 = .int .i64 i ∧ v21 = .int .i64 j ∧ Hid (Bs3 (P ++ X ++ Y ++ Q) p lo hi i j) ∧ SR wr b (P ++ X ++ Y ++ Q) ∧ w.grownBy wr (some b)) (fun v20 v21 _ => (intOf v21).toNat - (intOf v20).toNat)
      case atStart => exact ⟨lo, hi, Nat.le_refl _, HFA.out.2.1, Nat.le_refl _, rfl, rfl, ⟨.inl rfl, .inl rfl⟩, h, World.grownBy.refl _ _⟩
      case round =>
        clear h
        obtain ⟨i, j, hli, hij, hjh, rfl, rfl, hb, hr, hg⟩ := hrel
        by_cases hlt : i < j
        · skip
          obtain ⟨k, hk⟩ : ∃ k, (i + j) / 2 = k := ⟨_, rfl⟩
          have hkd2 : ((i : Int) + (j : Int)) / 2 = (k : Int) := by omega
          have hfa := HFA.out
          have hpo := HP.out
          have hmo := HM.out
          have heo := HE.out
          have hb1 : j ≤ 1000 := by omega
          have hb2 : i ≤ 1000 := by omega
          have hw2 : IntKind.u64.wrap ((i : Int) + (j : Int)) = (i : Int) + (j : Int) := by unfold IntKind.wrap; simp [IntKind.signed, IntKind.bits]; omega
          have hkb : i ≤ k ∧ k < j := by omega
          obtain ⟨q, hq⟩ : ∃ q, k + q = p := ⟨p - k, by omega⟩
          have hqi : (p : Int) - (k : Int) = (q : Int) := by omega
          have hqm : m ≤ q ∧ q < e := by omega
          obtain ⟨x, hx⟩ : ∃ x, X[k - a]? = some x := ⟨_, List.getElem?_eq_getElem (by rw [HNX.out]; omega)⟩
          obtain ⟨z, hz⟩ : ∃ z, Y[q - m]? = some z := ⟨_, List.getElem?_eq_getElem (by rw [HNY.out]; omega)⟩
          have hgx : (P ++ X ++ Y ++ Q)[k]? = some x := two_x (by have := HA.out; omega) hx
          have hgz : (P ++ X ++ Y ++ Q)[q]? = some z := two_y (by have := HA.out; have := HNX.out; omega) hz
          have GX := Lib.hid hgx
          have GZ := Lib.hid hgz
          have HK := Lib.hid hk
          have HQ := Lib.hid hq
          have hk0 : (0 : Int) ≤ (k : Int) := by omega
          have hkN : (k : Int) < (N : Int) := by omega
          have hq0 : (0 : Int) ≤ (q : Int) := by omega
          have hqN : (q : Int) < (N : Int) := by omega
          have hw3 : IntKind.i64.wrap (q : Int) = (q : Int) := IntWalk.i64_in _ (by omega)
          obtain ⟨hk1, hk2⟩ := hkb
          have hpk : p - k = q := by omega
          have HPK := Lib.hid hpk
          clear hgx hgz hx hz hk hq hfa hpo hmo heo hqm hpk
          by_cases hly : ltE z x
          · have hc1 : decide (cmpE z x < 0) = true := decide_eq_true (cmpE_lt.2 hly)
            have hb' : Hid (Bs3 (P ++ X ++ Y ++ Q) p lo hi i k) := ⟨hb.out.lo, .inr ⟨x, z, GX.out, by rw [HPK.out]; exact GZ.out, hly⟩⟩
            go_wp2
            first | (go_region_held3 (fun w' => (w'.cell? ⟨b, q * 12, none⟩ = some (.int .i64 z.r) ∧ w'.cell? ⟨b, q * 12 + 1, none⟩ = some (.int .i64 z.n) ∧ w'.cell? ⟨b, q * 12 + 2, none⟩ = some (.int .i64 z.c.x0) ∧ w'.cell? ⟨b, q * 12 + 3, none⟩ = some (.int .i64 z.c.x1) ∧ w'.cell? ⟨b, q * 12 + 4, none⟩ = some (.int .i64 z.c.x2) ∧ w'.cell? ⟨b, q * 12 + 5, none⟩ = some (.int .i64 z.c.x3) ∧ w'.cell? ⟨b, q * 12 + 6, none⟩ = some (.int .i64 z.c.x4) ∧ w'.cell? ⟨b, q * 12 + 7, none⟩ = some (.int .i64 z.h) ∧ w'.cell? ⟨b, q * 12 + 8, none⟩ = some (.int .i64 z.k) ∧ w'.cell? ⟨b, q * 12 + 9, none⟩ = some (.string z.key) ∧ w'.cell? ⟨b, q * 12 + 10, none⟩ = some (.int .i64 z.lab) ∧ w'.cell? ⟨b, q * 12 + 11, none⟩ = some (.string z.val)) ∧ (w'.cell? ⟨b, k * 12, none⟩ = some (.int .i64 x.r) ∧ w'.cell? ⟨b, k * 12 + 1, none⟩ = some (.int .i64 x.n) ∧ w'.cell? ⟨b, k * 12 + 2, none⟩ = some (.int .i64 x.c.x0) ∧ w'.cell? ⟨b, k * 12 + 3, none⟩ = some (.int .i64 x.c.x1) ∧ w'.cell? ⟨b, k * 12 + 4, none⟩ = some (.int .i64 x.c.x2) ∧ w'.cell? ⟨b, k * 12 + 5, none⟩ = some (.int .i64 x.c.x3) ∧ w'.cell? ⟨b, k * 12 + 6, none⟩ = some (.int .i64 x.c.x4) ∧ w'.cell? ⟨b, k * 12 + 7, none⟩ = some (.int .i64 x.h) ∧ w'.cell? ⟨b, k * 12 + 8, none⟩ = some (.int .i64 x.k) ∧ w'.cell? ⟨b, k * 12 + 9, none⟩ = some (.string x.key) ∧ w'.cell? ⟨b, k * 12 + 10, none⟩ = some (.int .i64 x.lab) ∧ w'.cell? ⟨b, k * 12 + 11, none⟩ = some (.string x.val)) ∧ Below wr.heap.size wr w')
              (first | with_reducible exact keepTwo hr GZ.out GX.out hB5 | with_reducible exact keepTwo hr GZ.out GX.out (Below.refl _ _).drew)
              (first | (go_at_call 63; refine (cmp_any z x _).mono ?_; rintro e5 w5 ⟨rfl, hb5⟩; have hB5 : Below wr.heap.size wr w5 := (Below.refl _ _).drew.trans hb5))) | fail
            have hr5 := hr.below hB5
            have hg5 := gb_bel hg hB5
            clear hb5 hB5 hr hg
            go_wp2
            go_roundw
            case measure => simp [intOf]; omega
            case rel => exact ⟨i, k, hli, by omega, by omega, rfl, rfl, hb', hr5, hg5⟩
          · have hc1 : decide (cmpE z x < 0) = false := decide_eq_false (fun hc => hly (cmpE_lt.1 hc))
            have hb' : Hid (Bs3 (P ++ X ++ Y ++ Q) p lo hi (k + 1) j) := ⟨.inr ⟨x, z, by simpa using GX.out, by rw [Nat.add_sub_cancel, HPK.out]; exact GZ.out, hly⟩, hb.out.hi⟩
            go_wp2
            first | (go_region_held3 (fun w' => (w'.cell? ⟨b, q * 12, none⟩ = some (.int .i64 z.r) ∧ w'.cell? ⟨b, q * 12 + 1, none⟩ = some (.int .i64 z.n) ∧ w'.cell? ⟨b, q * 12 + 2, none⟩ = some (.int .i64 z.c.x0) ∧ w'.cell? ⟨b, q * 12 + 3, none⟩ = some (.int .i64 z.c.x1) ∧ w'.cell? ⟨b, q * 12 + 4, none⟩ = some (.int .i64 z.c.x2) ∧ w'.cell? ⟨b, q * 12 + 5, none⟩ = some (.int .i64 z.c.x3) ∧ w'.cell? ⟨b, q * 12 + 6, none⟩ = some (.int .i64 z.c.x4) ∧ w'.cell? ⟨b, q * 12 + 7, none⟩ = some (.int .i64 z.h) ∧ w'.cell? ⟨b, q * 12 + 8, none⟩ = some (.int .i64 z.k) ∧ w'.cell? ⟨b, q * 12 + 9, none⟩ = some (.string z.key) ∧ w'.cell? ⟨b, q * 12 + 10, none⟩ = some (.int .i64 z.lab) ∧ w'.cell? ⟨b, q * 12 + 11, none⟩ = some (.string z.val)) ∧ (w'.cell? ⟨b, k * 12, none⟩ = some (.int .i64 x.r) ∧ w'.cell? ⟨b, k * 12 + 1, none⟩ = some (.int .i64 x.n) ∧ w'.cell? ⟨b, k * 12 + 2, none⟩ = some (.int .i64 x.c.x0) ∧ w'.cell? ⟨b, k * 12 + 3, none⟩ = some (.int .i64 x.c.x1) ∧ w'.cell? ⟨b, k * 12 + 4, none⟩ = some (.int .i64 x.c.x2) ∧ w'.cell? ⟨b, k * 12 + 5, none⟩ = some (.int .i64 x.c.x3) ∧ w'.cell? ⟨b, k * 12 + 6, none⟩ = some (.int .i64 x.c.x4) ∧ w'.cell? ⟨b, k * 12 + 7, none⟩ = some (.int .i64 x.h) ∧ w'.cell? ⟨b, k * 12 + 8, none⟩ = some (.int .i64 x.k) ∧ w'.cell? ⟨b, k * 12 + 9, none⟩ = some (.string x.key) ∧ w'.cell? ⟨b, k * 12 + 10, none⟩ = some (.int .i64 x.lab) ∧ w'.cell? ⟨b, k * 12 + 11, none⟩ = some (.string x.val)) ∧ Below wr.heap.size wr w')
              (first | with_reducible exact keepTwo hr GZ.out GX.out hB5 | with_reducible exact keepTwo hr GZ.out GX.out (Below.refl _ _).drew)
              (first | (go_at_call 63; refine (cmp_any z x _).mono ?_; rintro e5 w5 ⟨rfl, hb5⟩; have hB5 : Below wr.heap.size wr w5 := (Below.refl _ _).drew.trans hb5))) | fail
            have hr5 := hr.below hB5
            have hg5 := gb_bel hg hB5
            clear hb5 hB5 hr hg
            go_wp2
            go_roundw
            case measure => simp [intOf]; omega
            case rel => exact ⟨k + 1, j, by omega, by omega, by omega, by go_num, rfl, hb', hr5, hg5⟩
        · obtain rfl : i = j := by omega
          have hd0 : ¬ ((i : Int) < (i : Int)) := by omega
          go_wp2_with fail
          go_meet
          exact ⟨i, hli, hjh, rfl, hb, hr, hg⟩
    case rest =>
      obtain ⟨i, hli, hih, rfl, hb, hr, hg⟩ := hcut
      generalize wc = wr at *
      have hfa := HFA.out
      have hpo := HP.out
      have hmo := HM.out
      have heo := HE.out
      obtain ⟨t, ht⟩ : ∃ t, i + t = mid + m := ⟨mid + m - i, by omega⟩
      have hti : (mid : Int) + (m : Int) - (i : Int) = (t : Int) := by omega
      have htb : m ≤ t ∧ t ≤ e := by omega
      have hC4 : Cut4 (X.take (i - a)) (X.drop (i - a)) (Y.take (t - m)) (Y.drop (t - m)) :=
        sym_cut (P := P) (Q := Q) (lo := lo) (hi := hi) HA.out (by rw [HNX.out]; exact hmo) (by rw [HNY.out]; exact heo) HSX.out HSY.out (by omega) (by omega) (by omega) (by omega) ht hfa.2.2.2.2.2.1 hfa.2.2.2.2.2.2 (by have := hb.out; rwa [show p = mid + m - 1 from by omega] at this)
      have l1 : (X.take (i - a)).length = i - a := by rw [List.length_take, HNX.out] <;> omega
      have l2 : (X.drop (i - a)).length = m - i := by rw [List.length_drop, HNX.out] <;> omega
      have l3 : (Y.take (t - m)).length = t - m := by rw [List.length_take, HNY.out] <;> omega
      have l4 : (Y.drop (t - m)).length = e - t := by rw [List.length_drop, HNY.out] <;> omega
      have HXE := Lib.hid (show X = X.take (i - a) ++ X.drop (i - a) from (List.take_append_drop _ _).symm)
      have HYE := Lib.hid (show Y = Y.take (t - m) ++ Y.drop (t - m) from (List.take_append_drop _ _).symm)
      generalize X.take (i - a) = A1 at *
      generalize X.drop (i - a) = L at *
      generalize Y.take (t - m) = R at *
      generalize Y.drop (t - m) = A2 at *
      have HL := Lib.hid (⟨l1, l2, l3, l4⟩ : A1.length = i - a ∧ L.length = m - i ∧ R.length = t - m ∧ A2.length = e - t)
      have HC4 := Lib.hid hC4
      have HT := Lib.hid ht
      obtain ⟨htb1, htb2⟩ := htb
      have hia : a ≤ i := by omega
      have him : i ≤ m := by omega
      have himid : i ≤ mid := by omega
      have hamid : a < mid ∧ mid < e := by have := HMID.out; omega
      have hr1 : SR wr b ((P ++ A1) ++ L ++ R ++ (A2 ++ Q)) := by rw [HXE.out, HYE.out] at hr; simpa using hr
      have hNN : ((P ++ A1) ++ L ++ R ++ (A2 ++ Q)).length = N := by have := HN.out; rw [HXE.out, HYE.out] at this; rw [this]; simp <;> omega
      have HROT := Lib.hid (fun (h1 : 0 < L.length) (h2 : 0 < R.length) => rotate_any b cap N i m t (P ++ A1) L R (A2 ++ Q) wr hr1 (by rw [List.length_append, l1, ← HA.out]; omega) (by rw [List.length_append, l1, l2, ← HA.out]; omega) (by rw [List.length_append, l1, l2, l3, ← HA.out]; omega) h1 h2 hNN.symm hN2 (.func (.func 63) #[] #[]))
      have HLF := Lib.hid (fun (h1 : 0 < A1.length) (h2 : 0 < R.length) w' (hs : SR w' b ((P ++ A1) ++ R ++ L ++ (A2 ++ Q))) => HIH.out b cap N a i mid P A1 R (L ++ (A2 ++ Q)) w' (by rw [l1, l3, ← HF.out, HNX.out, HNY.out]; omega) (by simpa using hs) HA.out (by rw [l1]; omega) (by rw [l3]; omega) h1 h2 hC4.left.1 hC4.left.2.1 (by rw [← hNN]; simp; omega) hN2)
      have HRF := Lib.hid (fun (h1 : 0 < L.length) (h2 : 0 < A2.length) Z1 w' (hz : Sorted (A1 ++ R) Z1) (hs : SR w' b (P ++ Z1 ++ (L ++ (A2 ++ Q)))) => HIH.out b cap N mid t e (P ++ Z1) L A2 Q w' (by rw [l2, l4, ← HF.out, HNX.out, HNY.out]; omega) (by simpa using hs) (by rw [List.length_append, hz.len, List.length_append, l1, l3, ← HA.out]; omega) (by rw [l2]; omega) (by rw [l4]; omega) h1 h2 hC4.left.2.2.1 hC4.left.2.2.2 (by rw [← hNN]; have := hz.len; simp at this ⊢; omega) hN2)
      have he2 : e ≤ 1000 := by omega
      clear hb hr hC4 l1 l2 l3 l4 hfa hpo hmo heo ht hNN hamid
      rename_i hrest
      refine hrest _ _ ?_
      by_cases c1 : i < m
      · by_cases c2 : m < t
        · by_cases c3 : a < i
          · by_cases c4 : t < e
            · exact tl_rlr f b cap N a m e mid i t P X Y Q A1 L R A2 w wr _ _ _ _ _ _ _ _ _ _ _ _ _ _ _ _ _ _ _ _ _ _ _ _ _ _ _ _ _ _ _ _ _ _ _ _ _ _ _ _ _ _ _ _ _ _ _ _ _ _ _ _ _ _ _ _ _ _ _ _ _ _ _ _ _ _ _ _ _ _ _ _ _ _ _ _ _ _ _ _ _ _ _ _ _ _ _ _ _ _ _ _ _ _ _ _ _ _ _ _ _ _ _ _ _ _ _ _ _ _ _ _ _ _ _ _ _ _ _ _ _ _ _ _ _ _ _ _ _ _ _ _ _ _ _ _ _ _ _ _ _ _ _ _ _ _ _ _ _ _ _ _ _ _ _ _ _ _ _ _ _ _ _ _ _ _ _ _ _ _ _ _ _ _ _ _ _ _ _ _ _ _ _ _ _ _ _ _ _ _ _ _ _ _ _ _ _ _ _ _ _ _ _ _ _ _ _ _ _ _ _ _ HROT HLF HRF HC4 HXE HYE HL HT hia him himid htb1 htb2 hti he2 hr1 hg c1 c2 c3 c4
            · exact tl_rl f b cap N a m e mid i t P X Y Q A1 L R A2 w wr _ _ _ _ _ _ _ _ _ _ _ _ _ _ _ _ _ _ _ _ _ _ _ _ _ _ _ _ _ _ _ _ _ _ _ _ _ _ _ _ _ _ _ _ _ _ _ _ _ _ _ _ _ _ _ _ _ _ _ _ _ _ _ _ _ _ _ _ _ _ _ _ _ _ _ _ _ _ _ _ _ _ _ _ _ _ _ _ _ _ _ _ _ _ _ _ _ _ _ _ _ _ _ _ _ _ _ _ _ _ _ _ _ _ _ _ _ _ _ _ _ _ _ _ _ _ _ _ _ _ _ _ _ _ _ _ _ _ _ _ _ _ _ _ _ _ _ _ _ _ _ _ _ _ _ _ _ _ _ _ _ _ _ _ _ _ _ _ _ _ _ _ _ _ _ _ _ _ _ _ _ _ _ _ _ _ _ _ _ _ _ _ _ _ _ _ _ _ _ _ _ _ _ _ _ _ _ _ _ _ _ _ HROT HLF HRF HC4 HXE HYE HL HT hia him himid htb1 htb2 hti he2 hr1 hg c1 c2 c3 c4
          · by_cases c4 : t < e
            · exact tl_rr f b cap N a m e mid i t P X Y Q A1 L R A2 w wr _ _ _ _ _ _ _ _ _ _ _ _ _ _ _ _ _ _ _ _ _ _ _ _ _ _ _ _ _ _ _ _ _ _ _ _ _ _ _ _ _ _ _ _ _ _ _ _ _ _ _ _ _ _ _ _ _ _ _ _ _ _ _ _ _ _ _ _ _ _ _ _ _ _ _ _ _ _ _ _ _ _ _ _ _ _ _ _ _ _ _ _ _ _ _ _ _ _ _ _ _ _ _ _ _ _ _ _ _ _ _ _ _ _ _ _ _ _ _ _ _ _ _ _ _ _ _ _ _ _ _ _ _ _ _ _ _ _ _ _ _ _ _ _ _ _ _ _ _ _ _ _ _ _ _ _ _ _ _ _ _ _ _ _ _ _ _ _ _ _ _ _ _ _ _ _ _ _ _ _ _ _ _ _ _ _ _ _ _ _ _ _ _ _ _ _ _ _ _ _ _ _ _ _ _ _ _ _ _ _ _ _ HROT HLF HRF HC4 HXE HYE HL HT hia him himid htb1 htb2 hti he2 hr1 hg c1 c2 c3 c4
            · exact tl_r f b cap N a m e mid i t P X Y Q A1 L R A2 w wr _ _ _ _ _ _ _ _ _ _ _ _ _ _ _ _ _ _ _ _ _ _ _ _ _ _ _ _ _ _ _ _ _ _ _ _ _ _ _ _ _ _ _ _ _ _ _ _ _ _ _ _ _ _ _ _ _ _ _ _ _ _ _ _ _ _ _ _ _ _ _ _ _ _ _ _ _ _ _ _ _ _ _ _ _ _ _ _ _ _ _ _ _ _ _ _ _ _ _ _ _ _ _ _ _ _ _ _ _ _ _ _ _ _ _ _ _ _ _ _ _ _ _ _ _ _ _ _ _ _ _ _ _ _ _ _ _ _ _ _ _ _ _ _ _ _ _ _ _ _ _ _ _ _ _ _ _ _ _ _ _ _ _ _ _ _ _ _ _ _ _ _ _ _ _ _ _ _ _ _ _ _ _ _ _ _ _ _ _ _ _ _ _ _ _ _ _ _ _ _ _ _ _ _ _ _ _ _ _ _ _ _ HROT HLF HRF HC4 HXE HYE HL HT hia him himid htb1 htb2 hti he2 hr1 hg c1 c2 c3 c4
        · by_cases c3 : a < i
          · by_cases c4 : t < e
            · exact tl_p1 f b cap N a m e mid i t P X Y Q A1 L R A2 w wr _ _ _ _ _ _ _ _ _ _ _ _ _ _ _ _ _ _ _ _ _ _ _ _ _ _ _ _ _ _ _ _ _ _ _ _ _ _ _ _ _ _ _ _ _ _ _ _ _ _ _ _ _ _ _ _ _ _ _ _ _ _ _ _ _ _ _ _ _ _ _ _ _ _ _ _ _ _ _ _ _ _ _ _ _ _ _ _ _ _ _ _ _ _ _ _ _ _ _ _ _ _ _ _ _ _ _ _ _ _ _ _ _ _ _ _ _ _ _ _ _ _ _ _ _ _ _ _ _ _ _ _ _ _ _ _ _ _ _ _ _ _ _ _ _ _ _ _ _ _ _ _ _ _ _ _ _ _ _ _ _ _ _ _ _ _ _ _ _ _ _ _ _ _ _ _ _ _ _ _ _ _ _ _ _ _ _ _ _ _ _ _ _ _ _ _ _ _ _ _ _ _ _ _ _ _ _ _ _ _ _ _ HROT HLF HRF HC4 HXE HYE HL HT hia him himid htb1 htb2 hti he2 hr1 hg c1 c2 c3 c4
            · exact tl_p2 f b cap N a m e mid i t P X Y Q A1 L R A2 w wr _ _ _ _ _ _ _ _ _ _ _ _ _ _ _ _ _ _ _ _ _ _ _ _ _ _ _ _ _ _ _ _ _ _ _ _ _ _ _ _ _ _ _ _ _ _ _ _ _ _ _ _ _ _ _ _ _ _ _ _ _ _ _ _ _ _ _ _ _ _ _ _ _ _ _ _ _ _ _ _ _ _ _ _ _ _ _ _ _ _ _ _ _ _ _ _ _ _ _ _ _ _ _ _ _ _ _ _ _ _ _ _ _ _ _ _ _ _ _ _ _ _ _ _ _ _ _ _ _ _ _ _ _ _ _ _ _ _ _ _ _ _ _ _ _ _ _ _ _ _ _ _ _ _ _ _ _ _ _ _ _ _ _ _ _ _ _ _ _ _ _ _ _ _ _ _ _ _ _ _ _ _ _ _ _ _ _ _ _ _ _ _ _ _ _ _ _ _ _ _ _ _ _ _ _ _ _ _ _ _ _ _ HROT HLF HRF HC4 HXE HYE HL HT hia him himid htb1 htb2 hti he2 hr1 hg c1 c2 c3 c4
          · by_cases c4 : t < e
            · exact tl_p3 f b cap N a m e mid i t P X Y Q A1 L R A2 w wr _ _ _ _ _ _ _ _ _ _ _ _ _ _ _ _ _ _ _ _ _ _ _ _ _ _ _ _ _ _ _ _ _ _ _ _ _ _ _ _ _ _ _ _ _ _ _ _ _ _ _ _ _ _ _ _ _ _ _ _ _ _ _ _ _ _ _ _ _ _ _ _ _ _ _ _ _ _ _ _ _ _ _ _ _ _ _ _ _ _ _ _ _ _ _ _ _ _ _ _ _ _ _ _ _ _ _ _ _ _ _ _ _ _ _ _ _ _ _ _ _ _ _ _ _ _ _ _ _ _ _ _ _ _ _ _ _ _ _ _ _ _ _ _ _ _ _ _ _ _ _ _ _ _ _ _ _ _ _ _ _ _ _ _ _ _ _ _ _ _ _ _ _ _ _ _ _ _ _ _ _ _ _ _ _ _ _ _ _ _ _ _ _ _ _ _ _ _ _ _ _ _ _ _ _ _ _ _ _ _ _ _ HROT HLF HRF HC4 HXE HYE HL HT hia him himid htb1 htb2 hti he2 hr1 hg c1 c2 c3 c4
            · exact tl_p4 f b cap N a m e mid i t P X Y Q A1 L R A2 w wr _ _ _ _ _ _ _ _ _ _ _ _ _ _ _ _ _ _ _ _ _ _ _ _ _ _ _ _ _ _ _ _ _ _ _ _ _ _ _ _ _ _ _ _ _ _ _ _ _ _ _ _ _ _ _ _ _ _ _ _ _ _ _ _ _ _ _ _ _ _ _ _ _ _ _ _ _ _ _ _ _ _ _ _ _ _ _ _ _ _ _ _ _ _ _ _ _ _ _ _ _ _ _ _ _ _ _ _ _ _ _ _ _ _ _ _ _ _ _ _ _ _ _ _ _ _ _ _ _ _ _ _ _ _ _ _ _ _ _ _ _ _ _ _ _ _ _ _ _ _ _ _ _ _ _ _ _ _ _ _ _ _ _ _ _ _ _ _ _ _ _ _ _ _ _ _ _ _ _ _ _ _ _ _ _ _ _ _ _ _ _ _ _ _ _ _ _ _ _ _ _ _ _ _ _ _ _ _ _ _ _ _ HROT HLF HRF HC4 HXE HYE HL HT hia him himid htb1 htb2 hti he2 hr1 hg c1 c2 c3 c4
      · by_cases c2 : m < t
        · by_cases c3 : a < i
          · exact tl_l f b cap N a m e mid i t P X Y Q A1 L R A2 w wr _ _ _ _ _ _ _ _ _ _ _ _ _ _ _ _ _ _ _ _ _ _ _ _ _ _ _ _ _ _ _ _ _ _ _ _ _ _ _ _ _ _ _ _ _ _ _ _ _ _ _ _ _ _ _ _ _ _ _ _ _ _ _ _ _ _ _ _ _ _ _ _ _ _ _ _ _ _ _ _ _ _ _ _ _ _ _ _ _ _ _ _ _ _ _ _ _ _ _ _ _ _ _ _ _ _ _ _ _ _ _ _ _ _ _ _ _ _ _ _ _ _ _ _ _ _ _ _ _ _ _ _ _ _ _ _ _ _ _ _ _ _ _ _ _ _ _ _ _ _ _ _ _ _ _ _ _ _ _ _ _ _ _ _ _ _ _ _ _ _ _ _ _ _ _ _ _ _ _ _ _ _ _ _ _ _ _ _ _ _ _ _ _ _ _ _ _ _ _ _ _ _ _ _ _ _ _ _ _ _ _ _ HROT HLF HRF HC4 HXE HYE HL HT hia him himid htb1 htb2 hti he2 hr1 hg c1 c2 c3
          · exact tl_l0 f b cap N a m e mid i t P X Y Q A1 L R A2 w wr _ _ _ _ _ _ _ _ _ _ _ _ _ _ _ _ _ _ _ _ _ _ _ _ _ _ _ _ _ _ _ _ _ _ _ _ _ _ _ _ _ _ _ _ _ _ _ _ _ _ _ _ _ _ _ _ _ _ _ _ _ _ _ _ _ _ _ _ _ _ _ _ _ _ _ _ _ _ _ _ _ _ _ _ _ _ _ _ _ _ _ _ _ _ _ _ _ _ _ _ _ _ _ _ _ _ _ _ _ _ _ _ _ _ _ _ _ _ _ _ _ _ _ _ _ _ _ _ _ _ _ _ _ _ _ _ _ _ _ _ _ _ _ _ _ _ _ _ _ _ _ _ _ _ _ _ _ _ _ _ _ _ _ _ _ _ _ _ _ _ _ _ _ _ _ _ _ _ _ _ _ _ _ _ _ _ _ _ _ _ _ _ _ _ _ _ _ _ _ _ _ _ _ _ _ _ _ _ _ _ _ _ HROT HLF HRF HC4 HXE HYE HL HT hia him himid htb1 htb2 hti he2 hr1 hg c1 c2 c3
        · by_cases c3 : a < i
          · exact tl_n f b cap N a m e mid i t P X Y Q A1 L R A2 w wr _ _ _ _ _ _ _ _ _ _ _ _ _ _ _ _ _ _ _ _ _ _ _ _ _ _ _ _ _ _ _ _ _ _ _ _ _ _ _ _ _ _ _ _ _ _ _ _ _ _ _ _ _ _ _ _ _ _ _ _ _ _ _ _ _ _ _ _ _ _ _ _ _ _ _ _ _ _ _ _ _ _ _ _ _ _ _ _ _ _ _ _ _ _ _ _ _ _ _ _ _ _ _ _ _ _ _ _ _ _ _ _ _ _ _ _ _ _ _ _ _ _ _ _ _ _ _ _ _ _ _ _ _ _ _ _ _ _ _ _ _ _ _ _ _ _ _ _ _ _ _ _ _ _ _ _ _ _ _ _ _ _ _ _ _ _ _ _ _ _ _ _ _ _ _ _ _ _ _ _ _ _ _ _ _ _ _ _ _ _ _ _ _ _ _ _ _ _ _ _ _ _ _ _ _ _ _ _ _ _ _ _ HROT HLF HRF HC4 HXE HYE HL HT hia him himid htb1 htb2 hti he2 hr1 hg c1 c2 c3
          · exact tl_n0 f b cap N a m e mid i t P X Y Q A1 L R A2 w wr _ _ _ _ _ _ _ _ _ _ _ _ _ _ _ _ _ _ _ _ _ _ _ _ _ _ _ _ _ _ _ _ _ _ _ _ _ _ _ _ _ _ _ _ _ _ _ _ _ _ _ _ _ _ _ _ _ _ _ _ _ _ _ _ _ _ _ _ _ _ _ _ _ _ _ _ _ _ _ _ _ _ _ _ _ _ _ _ _ _ _ _ _ _ _ _ _ _ _ _ _ _ _ _ _ _ _ _ _ _ _ _ _ _ _ _ _ _ _ _ _ _ _ _ _ _ _ _ _ _ _ _ _ _ _ _ _ _ _ _ _ _ _ _ _ _ _ _ _ _ _ _ _ _ _ _ _ _ _ _ _ _ _ _ _ _ _ _ _ _ _ _ _ _ _ _ _ _ _ _ _ _ _ _ _ _ _ _ _ _ _ _ _ _ _ _ _ _ _ _ _ _ _ _ _ _ _ _ _ _ _ _ HROT HLF HRF HC4 HXE HYE HL HT hia him himid htb1 htb2 hti he2 hr1 hg c1 c2 c3
end Go.Proofs.Ytlfhjlkhhaoicaa
