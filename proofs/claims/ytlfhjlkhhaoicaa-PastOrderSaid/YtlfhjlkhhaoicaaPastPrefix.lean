/- The walk of kithlaw08.PastPrefix. -/
import Derived.Test.YtlfhjlkhhaoicaaL08
import Derived.Test.YtlfhjlkhhaoicaaDrainQ
namespace Go.Proofs.Ytlfhjlkhhaoicaa
set_option linter.unusedVariables false
set_option linter.unusedSimpArgs false
open Go.RowKit
attribute [local go_sem] ck_get ck_get? q_le0 q_le1 q_le2 q_le3 q_le4 q_le5 q_lt1 q_lt2 q_lt3 q_lt4 q_lt5

/-- What is below an event, and it. -/
def dnB (y x : Ev) : Bool := decide (x = y) || hasB y.c x.r x.n
theorem down_past {l : List Ev} (h : Past l) {y : Ev} (hy : y ∈ l) : Past (l.filter (dnB y)) := by
  refine h.sub List.filter_sublist fun e he x hx hb => ?_
  rw [List.mem_filter] at he ⊢
  refine ⟨hx, ?_⟩
  obtain ⟨hel, hd⟩ := he
  unfold dnB at hd ⊢
  simp only [Bool.or_eq_true, decide_eq_true_eq] at hd ⊢
  right
  rcases hd with rfl | hd
  · exact hb
  · obtain ⟨z, hz, a, b, hle⟩ := h.down hy hd
    rw [mk_uniq h.nodup hz hel a b] at hle
    exact hasB_mono hle hb
theorem filter_take {l : List Ev} {k : Nat} {x : Ev} (h : l[k]? = some x) (p : Ev → Bool) : (l.take (k + 1)).filter p = (l.take k).filter p ++ (if p x then [x] else []) := by
  rw [List.take_add_one, h]
  rw [List.filter_append]
  cases hp : p x <;> simp [hp]
theorem nodup_idx {l : List Ev} (h : (l.map Ev.mk').Nodup) {i k : Nat} {x y : Ev} (hx : l[i]? = some x) (hy : l[k]? = some y) : x = y ↔ i = k := by
  constructor
  · rintro rfl
    obtain ⟨h1, h2⟩ := List.getElem?_eq_some_iff.1 hx
    obtain ⟨h3, h4⟩ := List.getElem?_eq_some_iff.1 hy
    exact (List.getElem_inj (nodup_of_map h)).1 (h2.trans h4.symm)
  · rintro rfl; rw [hx] at hy; exact Option.some.inj hy

set_option maxRecDepth 100000 in
set_option maxHeartbeats 1000000 in
theorem pastPrefix_any (A : Option Addr) (ca : Nat) (l : List Ch) (at' : Nat) (w : World) (hl : chK.row w A l) (hc : l.length ≤ ca) (hm : ca ≤ maxLen) (hwf : ∀ c ∈ l, c.wf) (hat : at' ≤ 255) :
    Calls Try.prog 8 #[.slice A l.length ca, .int .u8 at'] w fun e w' => e = .returned (.bool true) ∧ Below w.heap.size w w' := by
  have H40 := Lib.hid (show min l.length 40 = (l.take 40).length by rw [List.length_take]; omega)
  have HL40 := Lib.hid (show (l.take 40).length ≤ 40 by rw [List.length_take]; omega)
  have HWF := Lib.hid (fun c (h : c ∈ l.take 40) => hwf c ((List.take_sublist _ _).subset h))
  have hl4 := hl.take 40
  clear hwf hl
  generalize l.take 40 = L4 at *
  go_enter Try.func8, Try.ntmps8
  go_wp2_with fail
  refine (shown08_any _).mono ?_
  rintro e w1 ⟨rfl, hb1⟩
  have hl1 := hl4.below hb1 (Nat.le_refl _)
  go_wp2_with fail
  refine (short08_any A l.length ca _ hc hm).mono ?_
  rintro e w1' ⟨rfl, rfl⟩
  rw [H40.out]
  go_wp2_with fail
  refine (make_any A ca L4 _ hl1 HL40.out HWF.out).mono ?_
  rintro e w2 ⟨v, p, rfl, hP, hp40, ho, hb2⟩
  obtain ⟨A2, c2, rfl, hr2, hcc, hA2⟩ := ho.form
  have hcm : c2 ≤ maxLen := ho.cap_le
  have hB2 := hb1.trans (hb2.mono hb1.size)
  have HP := Lib.hid hP
  have HOK := Lib.hid hP.evOk
  clear hP hl1 hl4 hb1 hb2 ho
  unfold maxLen at hcm
  by_cases h0 : p.length = 0
  · rw [h0]
    go_wp2
    go_ret
    exact ⟨rfl, hB2⟩
  · have hpos : 0 < p.length := by omega
    obtain ⟨k, hk, hkl⟩ : ∃ k, at' % p.length = k ∧ k < p.length := ⟨_, rfl, Nat.mod_lt _ hpos⟩
    have hmod : ((at' : Int) % (p.length : Int)) = (k : Int) := by rw [← hk]; exact (Int.natCast_emod at' p.length).symm
    have hmodt : ((at' : Int).tmod (p.length : Int)) = (k : Int) := by rw [Int.tmod_eq_emod_of_nonneg (by omega)]; exact hmod
    obtain ⟨y, hy⟩ : ∃ y, p[k]? = some y := ⟨_, List.getElem?_eq_getElem hkl⟩
    obtain ⟨b, off, rfl, hb, hat2⟩ := hr2.get hy
    have HY := Lib.hid hy
    have HTK := Lib.hid (show (p.take k).length = k by rw [List.length_take]; omega)
    have HPT := Lib.hid (HP.out.take k)
    have HPD := Lib.hid (down_past HP.out (List.mem_of_getElem? hy))
    clear hk hy
    generalize hnn : p.length = n at *
    have HN := Lib.hid hnn
    have hne : ((n : Int) == 0) = false := by simp; omega
    have hk0 : (0 : Int) ≤ (k : Int) := by omega
    have hk1 : (k : Int) < (n : Int) := by omega
    clear hnn
    have ho0 : evK.own 31 (w2.alloc (Obj.cells #[] 31)) w2.heap.size (.slice (some ⟨w2.heap.size, 0, none⟩) 0 0) [] := World.ownsRow_lit w2 #[] 0 (Nat.le_refl _) (by decide) rfl
    have hBs := (Below.refl w2.heap.size w2).alloc (Nat.le_refl _) (Obj.cells #[] 31)
    go_wp2
    go_loopw [8, 9] (fun v8 v9 wr => ∃ i : Nat, i ≤ n ∧ v9 = .int .i64 i ∧ evK.own 31 wr w2.heap.size v8 ((p.take i).filter (dnB y)) ∧ Below w2.heap.size w2 wr) (fun _ v9 _ => n - (intOf v9).toNat)
    case atStart => exact ⟨0, by omega, rfl, ho0, hBs⟩
    case round =>
      clear ho0 hBs
      obtain ⟨i, hi, rfl, ho, hB⟩ := hrel
      by_cases hlt : i < n
      · obtain ⟨x, hx⟩ : ∃ x, p[i]? = some x := ⟨_, List.getElem?_eq_getElem (by rw [HN.out]; exact hlt)⟩
        have hatr := hat2.below hB hb
        have hsx := evAt_get hatr hx
        have HX := Lib.hid hx
        have HST := Lib.hid (filter_take hx (dnB y))
        have HIK := Lib.hid (nodup_idx HP.out.nodup hx HY.out)
        have hlen : ((p.take i).filter (dnB y)).length ≤ 40 := Nat.le_trans (List.length_filter_le _ _) (by rw [List.length_take]; omega)
        have HLN := Lib.hid (show ((p.take i).filter (dnB y)).length + 1 ≤ 1000000 by omega)
        have hsz := hB.size
        have hi0 : (0 : Int) ≤ (i : Int) := by omega
        have hi1 : (i : Int) < (n : Int) := by omega
        clear hx hlen
        generalize (p.take i).filter (dnB y) = L at *
        by_cases hik : i = k
        · have HD := Lib.hid (show dnB y x = true by unfold dnB; rw [HIK.out.2 hik]; simp)
          have hbk : ((i : Int) == (k : Int)) = true := by simp; omega
          have hbk2 : (i == k) = true := by simp; omega
          obtain rfl : k = i := hik.symm
          clear hik
          obtain ⟨c0, c1, c2', c3, c4, c5, c6, c7, c8, c9, c10, c11⟩ := hsx
          go_wp2
          go_quiet (fail)
          have ho2 := (ho.drewN nq).alloc (Obj.cells #[.int .i64 x.r, .int .i64 x.n, .int .i64 x.c.x0, .int .i64 x.c.x1, .int .i64 x.c.x2, .int .i64 x.c.x3, .int .i64 x.c.x4, .int .i64 x.h, .int .i64 x.k, .string x.key, .int .i64 x.lab, .string x.val] 31)
          have hbs : w2.heap.size ≤ ((wr.drewN nq).alloc (Obj.cells #[.int .i64 x.r, .int .i64 x.n, .int .i64 x.c.x0, .int .i64 x.c.x1, .int .i64 x.c.x2, .int .i64 x.c.x3, .int .i64 x.c.x4, .int .i64 x.h, .int .i64 x.k, .string x.key, .int .i64 x.lab, .string x.val] 31)).heap.size := by simp; omega
          go_wp2_with (first | (at_builtin; refine wpL_app1 evK _ rfl _ _ _ rfl w2.heap.size 31 112 _ Try.underlying24 infoEv rfl u8 L rfl ho2 wr.heap.size x rfl (blk_new (wr.drewN nq) [.int .i64 x.r, .int .i64 x.n, .int .i64 x.c.x0, .int .i64 x.c.x1, .int .i64 x.c.x2, .int .i64 x.c.x3, .int .i64 x.c.x4, .int .i64 x.h, .int .i64 x.k, .string x.key, .int .i64 x.lab, .string x.val] 31) HLN.out (by decide) hbs ?_; intro v8 w3 ho3 hg3))
          go_roundw
          case measure => simp [intOf]; omega
          case rel => exact ⟨k + 1, by omega, by go_num, by rw [HST.out, HD.out, if_pos rfl]; exact ho3, ((bdN hB nq).alloc hsz _).grown hg3 hbs ho2.base_le⟩
        · have hbk : ((i : Int) == (k : Int)) = false := by simp; omega
          have hbk2 : (i == k) = false := by simp; omega
          cases hh : hasB y.c x.r x.n with
          | true =>
            have HD := Lib.hid (show dnB y x = true by unfold dnB; rw [hh]; simp)
            have HHB := Lib.hid hh
            clear hh
            go_wp2
            first | (go_region_held3 (fun w' => (w'.cell? ⟨b, off + i * 12, none⟩ = some (.int .i64 x.r) ∧ w'.cell? ⟨b, off + i * 12 + 1, none⟩ = some (.int .i64 x.n) ∧ w'.cell? ⟨b, off + i * 12 + 2, none⟩ = some (.int .i64 x.c.x0) ∧ w'.cell? ⟨b, off + i * 12 + 3, none⟩ = some (.int .i64 x.c.x1) ∧ w'.cell? ⟨b, off + i * 12 + 4, none⟩ = some (.int .i64 x.c.x2) ∧ w'.cell? ⟨b, off + i * 12 + 5, none⟩ = some (.int .i64 x.c.x3) ∧ w'.cell? ⟨b, off + i * 12 + 6, none⟩ = some (.int .i64 x.c.x4) ∧ w'.cell? ⟨b, off + i * 12 + 7, none⟩ = some (.int .i64 x.h) ∧ w'.cell? ⟨b, off + i * 12 + 8, none⟩ = some (.int .i64 x.k) ∧ w'.cell? ⟨b, off + i * 12 + 9, none⟩ = some (.string x.key) ∧ w'.cell? ⟨b, off + i * 12 + 10, none⟩ = some (.int .i64 x.lab) ∧ w'.cell? ⟨b, off + i * 12 + 11, none⟩ = some (.string x.val)) ∧ (w'.cell? ⟨b, off + k * 12, none⟩ = some (.int .i64 y.r) ∧ w'.cell? ⟨b, off + k * 12 + 1, none⟩ = some (.int .i64 y.n) ∧ w'.cell? ⟨b, off + k * 12 + 2, none⟩ = some (.int .i64 y.c.x0) ∧ w'.cell? ⟨b, off + k * 12 + 3, none⟩ = some (.int .i64 y.c.x1) ∧ w'.cell? ⟨b, off + k * 12 + 4, none⟩ = some (.int .i64 y.c.x2) ∧ w'.cell? ⟨b, off + k * 12 + 5, none⟩ = some (.int .i64 y.c.x3) ∧ w'.cell? ⟨b, off + k * 12 + 6, none⟩ = some (.int .i64 y.c.x4) ∧ w'.cell? ⟨b, off + k * 12 + 7, none⟩ = some (.int .i64 y.h) ∧ w'.cell? ⟨b, off + k * 12 + 8, none⟩ = some (.int .i64 y.k) ∧ w'.cell? ⟨b, off + k * 12 + 9, none⟩ = some (.string y.key) ∧ w'.cell? ⟨b, off + k * 12 + 10, none⟩ = some (.int .i64 y.lab) ∧ w'.cell? ⟨b, off + k * 12 + 11, none⟩ = some (.string y.val)))
              (first | with_reducible exact ⟨evAt_get hat5 HX.out, evAt_get hat5 HY.out⟩ | exact ⟨evAt_get hatr HX.out, evAt_get hatr HY.out⟩)
              (first | (go_at_call 37; refine (below_any x y _).mono ?_; rintro e3 w5 ⟨rfl, hb5⟩; rw [HHB.out]; have hB5 := hB.drew.trans (hb5.mono hB.size); have hat5 := hat2.below hB5 hb))) | fail
            have hs5 := evAt_get hat5 HX.out
            obtain ⟨c0, c1, c2', c3, c4, c5, c6, c7, c8, c9, c10, c11⟩ := hs5
            have ho2 := (ho.drew.below hb5 (Nat.le_refl _)).alloc (Obj.cells #[.int .i64 x.r, .int .i64 x.n, .int .i64 x.c.x0, .int .i64 x.c.x1, .int .i64 x.c.x2, .int .i64 x.c.x3, .int .i64 x.c.x4, .int .i64 x.h, .int .i64 x.k, .string x.key, .int .i64 x.lab, .string x.val] 31)
            have hbs : w2.heap.size ≤ (w5.alloc (Obj.cells #[.int .i64 x.r, .int .i64 x.n, .int .i64 x.c.x0, .int .i64 x.c.x1, .int .i64 x.c.x2, .int .i64 x.c.x3, .int .i64 x.c.x4, .int .i64 x.h, .int .i64 x.k, .string x.key, .int .i64 x.lab, .string x.val] 31)).heap.size := by have := hB5.size; simp; omega
            clear hsx hb5 hat5 hatr
            go_wp2_with (first | (at_builtin; refine wpL_app1 evK _ rfl _ _ _ rfl w2.heap.size 31 112 _ Try.underlying24 infoEv rfl u8 L rfl ho2 w5.heap.size x rfl (blk_new w5 [.int .i64 x.r, .int .i64 x.n, .int .i64 x.c.x0, .int .i64 x.c.x1, .int .i64 x.c.x2, .int .i64 x.c.x3, .int .i64 x.c.x4, .int .i64 x.h, .int .i64 x.k, .string x.key, .int .i64 x.lab, .string x.val] 31) HLN.out (by decide) hbs ?_; intro v8 w3 ho3 hg3))
            go_roundw
            case measure => simp [intOf]; omega
            case rel => exact ⟨i + 1, by omega, by go_num, by rw [HST.out, HD.out, if_pos rfl]; exact ho3, (hB5.alloc hB5.size _).grown hg3 hbs ho2.base_le⟩
          | false =>
            have HD := Lib.hid (show dnB y x = false by unfold dnB; rw [hh, decide_eq_false (fun h => hik (HIK.out.1 h))]; rfl)
            have HHB := Lib.hid hh
            clear hh
            go_wp2
            first | (go_region_held3 (fun w' => (w'.cell? ⟨b, off + i * 12, none⟩ = some (.int .i64 x.r) ∧ w'.cell? ⟨b, off + i * 12 + 1, none⟩ = some (.int .i64 x.n) ∧ w'.cell? ⟨b, off + i * 12 + 2, none⟩ = some (.int .i64 x.c.x0) ∧ w'.cell? ⟨b, off + i * 12 + 3, none⟩ = some (.int .i64 x.c.x1) ∧ w'.cell? ⟨b, off + i * 12 + 4, none⟩ = some (.int .i64 x.c.x2) ∧ w'.cell? ⟨b, off + i * 12 + 5, none⟩ = some (.int .i64 x.c.x3) ∧ w'.cell? ⟨b, off + i * 12 + 6, none⟩ = some (.int .i64 x.c.x4) ∧ w'.cell? ⟨b, off + i * 12 + 7, none⟩ = some (.int .i64 x.h) ∧ w'.cell? ⟨b, off + i * 12 + 8, none⟩ = some (.int .i64 x.k) ∧ w'.cell? ⟨b, off + i * 12 + 9, none⟩ = some (.string x.key) ∧ w'.cell? ⟨b, off + i * 12 + 10, none⟩ = some (.int .i64 x.lab) ∧ w'.cell? ⟨b, off + i * 12 + 11, none⟩ = some (.string x.val)) ∧ (w'.cell? ⟨b, off + k * 12, none⟩ = some (.int .i64 y.r) ∧ w'.cell? ⟨b, off + k * 12 + 1, none⟩ = some (.int .i64 y.n) ∧ w'.cell? ⟨b, off + k * 12 + 2, none⟩ = some (.int .i64 y.c.x0) ∧ w'.cell? ⟨b, off + k * 12 + 3, none⟩ = some (.int .i64 y.c.x1) ∧ w'.cell? ⟨b, off + k * 12 + 4, none⟩ = some (.int .i64 y.c.x2) ∧ w'.cell? ⟨b, off + k * 12 + 5, none⟩ = some (.int .i64 y.c.x3) ∧ w'.cell? ⟨b, off + k * 12 + 6, none⟩ = some (.int .i64 y.c.x4) ∧ w'.cell? ⟨b, off + k * 12 + 7, none⟩ = some (.int .i64 y.h) ∧ w'.cell? ⟨b, off + k * 12 + 8, none⟩ = some (.int .i64 y.k) ∧ w'.cell? ⟨b, off + k * 12 + 9, none⟩ = some (.string y.key) ∧ w'.cell? ⟨b, off + k * 12 + 10, none⟩ = some (.int .i64 y.lab) ∧ w'.cell? ⟨b, off + k * 12 + 11, none⟩ = some (.string y.val)))
              (first | with_reducible exact ⟨evAt_get hat5 HX.out, evAt_get hat5 HY.out⟩ | exact ⟨evAt_get hatr HX.out, evAt_get hatr HY.out⟩)
              (first | (go_at_call 37; refine (below_any x y _).mono ?_; rintro e3 w5 ⟨rfl, hb5⟩; rw [HHB.out]; have hB5 := hB.drew.trans (hb5.mono hB.size); have hat5 := hat2.below hB5 hb))) | fail
            have ho2 := ho.drew.below hb5 (Nat.le_refl _)
            clear hsx hb5 hat5 hatr
            go_wp2
            go_roundw
            case measure => simp [intOf]; omega
            case rel => exact ⟨i + 1, by omega, by go_num, by rw [HST.out, HD.out, if_neg (by simp), List.append_nil]; exact ho2, hB5⟩
      · obtain rfl : i = n := by omega
        have HTA := Lib.hid (show p.take i = p from List.take_of_length_le (by rw [HN.out]; omega))
        rw [HTA.out] at ho
        obtain ⟨A8, c8, rfl, hr8, hc8, _⟩ := ho.form
        have hrk := ((show evK.row w2 (some ⟨b, off, none⟩) p from .inr ⟨b, off, rfl, hb, hat2⟩).take k).below hB (Nat.le_refl _)
        have HF40 := Lib.hid (show (p.filter (dnB y)).length ≤ 1000 from Nat.le_trans (List.length_filter_le _ _) (by rw [HN.out]; omega))
        have hBW := hB2.trans (hB.mono hB2.size)
        have hkc : (k : Int) ≤ (c2 : Int) := by omega
        have HT1 := Lib.hid (show (p.take k).length ≤ 1000 by rw [HTK.out]; omega)
        clear ho hat2 hB
        go_wp2_with fail
        have hR := right_any (some ⟨b, off, none⟩) c2 (p.take k) wr hrk HT1.out HPT.out.evOk
        rw [HTK.out] at hR
        refine hR.mono ?_
        rintro e w5 ⟨rfl, hb5⟩
        rw [pB_true HPT.out.right]
        have hrk5 := hrk.below hb5 (Nat.le_refl _)
        have hr85 := hr8.below hb5 (Nat.le_refl _)
        have hBW5 := hBW.trans (hb5.mono hBW.size)
        clear hR hrk hr8 hBW hb5
        go_wp2_with fail
        have hR := ordered_any (some ⟨b, off, none⟩) c2 (p.take k) w5 hrk5 HT1.out
        rw [HTK.out] at hR
        refine hR.mono ?_
        rintro e w6 ⟨rfl, hb6⟩
        rw [pB_true HPT.out.ordered]
        have hr86 := hr85.below hb6 (Nat.le_refl _)
        have hBW6 := hBW5.trans (hb6.mono hBW5.size)
        clear hR hrk5 hr85 hBW5 hb6
        go_wp2_with fail
        refine (right_any A8 c8 (p.filter (dnB y)) _ hr86 HF40.out HPD.out.evOk).mono ?_
        rintro e w7 ⟨rfl, hb7⟩
        rw [pB_true HPD.out.right]
        have hr87 := hr86.below hb7 (Nat.le_refl _)
        have hBW7 := hBW6.trans (hb7.mono hBW6.size)
        clear hr86 hBW6 hb7
        go_wp2_with fail
        refine (ordered_any A8 c8 (p.filter (dnB y)) _ hr87 HF40.out).mono ?_
        rintro e w8 ⟨rfl, hb8⟩
        rw [pB_true HPD.out.ordered]
        go_wp2
        go_ret
        exact ⟨rfl, hBW7.trans (hb8.mono hBW7.size)⟩
end Go.Proofs.Ytlfhjlkhhaoicaa
