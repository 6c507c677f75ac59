/- The walk of kithlaw08.PastSpoilt. -/
import Derived.Test.YtlfhjlkhhaoicaaSpoiltP
import Derived.Test.YtlfhjlkhhaoicaaAppAt
import Derived.Deep.CutBlock
import Derived.Deep.CutRange
namespace Go.Proofs.Ytlfhjlkhhaoicaa
set_option linter.unusedVariables false
set_option linter.unusedSimpArgs false
open Go.RowKit
attribute [local go_sem] ck_get ck_get? q_le0 q_le1 q_le2 q_le3 q_le4 q_le5 q_lt1 q_lt2 q_lt3 q_lt4 q_lt5
attribute [local go_sem high] eqCk eqMk eqEv

set_option maxRecDepth 100000 in
set_option maxHeartbeats 4000000 in
theorem pastSpoilt_any (A : Option Addr) (ca : Nat) (l : List Ch) (wh how : Nat) (w : World) (hl : chK.row w A l) (hc : l.length ≤ ca) (hm : ca ≤ maxLen) (hwf : ∀ c ∈ l, c.wf) (hwh : wh ≤ 65535) (hhow : how ≤ 255) :
    Calls Try.prog 7 #[.slice A l.length ca, .int .u16 wh, .int .u8 how] w fun e w' => e = .returned (.bool true) ∧ Below w.heap.size w w' := by
  have H40 := Lib.hid (show min l.length 40 = (l.take 40).length by rw [List.length_take]; omega)
  have HL40 := Lib.hid (show (l.take 40).length ≤ 40 by rw [List.length_take]; omega)
  have HWF := Lib.hid (fun c (h : c ∈ l.take 40) => hwf c ((List.take_sublist _ _).subset h))
  have hl4 := hl.take 40
  clear hwf hl
  generalize l.take 40 = L4 at *
  obtain ⟨q4, hkk, hq4⟩ : ∃ q4, how % 4 = q4 ∧ q4 < 4 := ⟨_, rfl, Nat.mod_lt _ (by omega)⟩
  have hkod : ((how : Int) % 4) = (q4 : Int) := by omega
  have hkodt : ((how : Int).tmod 4) = (q4 : Int) := by rw [Int.tmod_eq_emod_of_nonneg (by omega)]; exact hkod
  clear hkk
  go_enter Try.func7, Try.ntmps7
  go_wp2_with fail
  refine (shown08_any _).mono ?_
  rintro e w1 ⟨rfl, hb1⟩
  have hl4' := hl4.below hb1 (Nat.le_refl _)
  go_wp2_with fail
  refine (short08_any A l.length ca _ hc hm).mono ?_
  rintro e w1' ⟨rfl, rfl⟩
  rw [H40.out]
  go_wp2_with fail
  refine (make_any A ca L4 _ hl4' HL40.out HWF.out).mono ?_
  rintro e w2 ⟨v, p, rfl, hP, hp40, hop, hb2⟩
  have hcm := fun A n cap (h : v = .slice A n cap) => Kn.own.cap_le (h ▸ hop)
  obtain ⟨A2, c2, rfl, hr2, hcc, _⟩ := hop.form
  have hcm := hcm _ _ _ rfl
  unfold maxLen at hcm
  have hB2 := hb1.trans (hb2.mono hb1.size)
  have HP := Lib.hid hP
  clear hP hl4' hl4 hb1 hb2 hop
  generalize hnn : p.length = n at *
  have HN := Lib.hid hnn
  clear hnn
  by_cases hn0 : n = 0
  · subst hn0
    go_wp2
    go_ret
    exact ⟨rfl, hB2⟩
  · obtain ⟨k, hkk, hkn⟩ : ∃ k, wh % n = k ∧ k < n := ⟨_, rfl, Nat.mod_lt _ (by omega)⟩
    have hkm : ((wh : Int) % (n : Int)) = (k : Int) := by rw [← hkk]; push_cast; rfl
    have hkmt : ((wh : Int).tmod (n : Int)) = (k : Int) := by rw [Int.tmod_eq_emod_of_nonneg (by omega)]; exact hkm
    have hne : (n : Int) ≠ 0 := by omega
    have hne2 : ((n : Int) == 0) = false := by simpa using hne
    have hcv : IntKind.i64.wrap (wh : Int) = (wh : Int) := IntWalk.i64_in _ (by omega)
    clear hkk
    obtain ⟨y, hy⟩ : ∃ y, p[k]? = some y := ⟨_, List.getElem?_eq_getElem (by rw [HN.out]; exact hkn)⟩
    have HY := Lib.hid hy
    have HLN := Lib.hid (show ([] : List Ev).length + p.length ≤ 1000000 by rw [HN.out]; simp; omega)
    have HNE := Lib.hid (show p.length = n from HN.out)
    have ho0 : evK.own 31 (w2.alloc (Obj.cells #[] 31)) w2.heap.size (.slice (some ⟨w2.heap.size, 0, none⟩) 0 0) [] := World.ownsRow_lit w2 #[] 0 (Nat.le_refl _) (by decide) rfl
    have hr2' := hr2.below ((Below.refl w2.heap.size w2).alloc (Nat.le_refl _) (Obj.cells #[] 31)) (Nat.le_refl _)
    have hlt0 : w2.heap.size ≤ (w2.alloc (Obj.cells #[] 31)).heap.size := by simp
    clear hy
    go_upto_block 0 with (first | (at_builtin; refine wpL_appr_at evK _ rfl _ _ _ rfl w2.heap.size 31 112 _ Try.underlying24 infoEv rfl _ [] rfl ho0 A2 c2 p (by rw [HNE.out]; rfl) hr2' HLN.out (by decide) hlt0 ?_; intro v6 w6 ho6 hg6 hv6))
    rw [List.nil_append] at ho6
    have hb6 : Below w2.heap.size w2 w6 := ((Below.refl w2.heap.size w2).alloc (Nat.le_refl _) (Obj.cells #[] 31)).grown hg6 hlt0 ho0.base_le
    clear ho0 hr2' hlt0 hg6 hv6 HLN HNE
    obtain ⟨A6, c6, hv6, _, hc6, _⟩ := id ho6.form
    subst hv6
    obtain ⟨g, rfl, hg2, hg6, hat6⟩ := ho6.addr HY.out
    rw [HN.out] at ho6 hc6 ⊢
    have hm := HP.out.may y (List.mem_of_getElem? HY.out)
    have hyh := HP.out.hle (List.mem_of_getElem? HY.out)
    have hyn := HP.out.nle (List.mem_of_getElem? HY.out)
    rw [HN.out] at hyh hyn
    have hy1 := hm.h1
    have hyr := hm.r0
    have hyr5 := hm.r5
    have hyn1 := hm.n1
    have he := evAt_get hat6 HY.out
    simp only [Nat.zero_add] at he
    have hr6 := hr2.below hb6 (Nat.le_refl _)
    have hB6 := hB2.trans (hb6.mono hB2.size)
    clear hm
    go_cut [10, 31, 39, 49, 66] (fun s10 s31 s39 s49 s66 wx => ∃ (A10 : Option Addr) (c10 : Nat) (S : List Ev), s10 = .slice A10 S.length c10 ∧ evK.row wx A10 S ∧ Hid (SpOK S) ∧ Below w2.heap.size w2 wx)
    case first =>
      obtain rfl | rfl | rfl | rfl : q4 = 0 ∨ q4 = 1 ∨ q4 = 2 ∨ q4 = 3 := by omega
      · skip
        obtain ⟨e0, e1, e2, e3, e4, e5, e6, e7, e8, e9, e10, e11⟩ := he
        have f7 := ho6.free (k * 12 + 7)
        have hput := hat6.put (j := 7) (y := y.upH) (u := .int .i64 (y.h + 1)) HY.out (by decide) rfl
        have hBs := hb6.setCell (p := ⟨g, k * 12 + 7, none⟩) hg2 (.int .i64 (y.h + 1))
        have HS := Lib.hid (sp_height HP.out HY.out (by rw [HN.out]; exact hp40))
        have hl : (p.set k y.upH).length = n := by rw [List.length_set, HN.out]
        rw [show 0 + k * evK.sz + 7 = k * 12 + 7 from by rw [Nat.zero_add]; rfl] at hput
        have HL := Lib.hid hl
        clear hl
        go_wp2_with fail
        go_meet
        exact ⟨some ⟨g, 0, none⟩, c6, p.set k y.upH, by rw [HL.out], .inr ⟨g, 0, rfl, by simpa using hg6, hput⟩, HS, hBs⟩
      · skip
        obtain ⟨q, hqm, hq5⟩ : ∃ q : Nat, (y.r + 1) % 5 = q ∧ q < 5 := ⟨((y.r + 1) % 5).toNat, by omega, by omega⟩
        have hqn : q ≠ y.r.toNat := by omega
        have hqt : (y.r + 1).tmod 5 = (q : Int) := by rw [Int.tmod_eq_emod_of_nonneg (by omega)]; exact hqm
        have e0 := he.1
        have hput := (show evK.at w6.drew g 0 p from hat6).put (j := 2 + q) (y := y.upC q (1 + n)) (u := .int .i64 (1 + n)) HY.out (by show 2 + q < 12; omega) (upC_enc y hq5 _)
        have hBs := hb6.drew.setCell (p := ⟨g, k * 12 + 2 + q, none⟩) hg2 (.int .i64 (1 + n))
        have hS := sp_clock HP.out HY.out (by rw [HN.out]; exact hp40) hq5 hqn
        rw [HN.out] at hS
        have HS := Lib.hid hS
        have hl : (p.set k (y.upC q (1 + n))).length = n := by rw [List.length_set, HN.out]
        rw [show 0 + k * evK.sz + (2 + q) = k * 12 + 2 + q from by rw [Nat.zero_add, ← Nat.add_assoc]; rfl] at hput
        have HL := Lib.hid hl
        have fq := ho6.free (k * 12 + 2 + q)
        obtain ⟨uq, hcq⟩ : ∃ u, w6.cell? ⟨g, k * 12 + 2 + q, none⟩ = some u := by
          have := evAt_get hat6 HY.out
          simp only [Nat.zero_add] at this
          obtain ⟨_, _, x2, x3, x4, x5, x6, _⟩ := this
          rcases lt5 hq5 with rfl | rfl | rfl | rfl | rfl
          · exact ⟨_, x2⟩
          · exact ⟨_, x3⟩
          · exact ⟨_, x4⟩
          · exact ⟨_, x5⟩
          · exact ⟨_, x6⟩
        have hw1 : IntKind.i64.wrap (y.r + 1) = y.r + 1 := IntWalk.i64_in _ (by omega)
        have hw2 : IntKind.i64.wrap (1 + (n : Int)) = 1 + (n : Int) := IntWalk.i64_in _ (by omega)
        have hk0 : (0 : Int) ≤ (k : Int) := by omega
        have hkn' : (k : Int) < (n : Int) := by omega
        have hq0 : (0 : Int) ≤ (q : Int) := by omega
        have hq5' : (q : Int) < 5 := by omega
        clear hl hS he hyr hyr5 hyn1 hyh hyn
        go_upto_region 12 with fail
        have hcs : ((w6.setCell ⟨g, k * 12 + 2 + q, none⟩ (.int .i64 (1 + n))).drew).cell? ⟨g, k * 12, none⟩ = some (.int .i64 y.r) := (World.cell?_setCell_other w6 _ _ _ (by first | omega | (simp; done) | (simp; omega))).trans e0
        first | (go_region_held3 (fun w' => w'.cell? ⟨g, k * 12, none⟩ = some (.int .i64 y.r))
          (first | exact e0 | exact hcs)
          (fail)) | fail
        go_wp2_with fail
        go_meet
        exact ⟨some ⟨g, 0, none⟩, c6, p.set k (y.upC q (1 + n)), by rw [HL.out], .inr ⟨g, 0, rfl, by simpa using hg6, hput⟩, HS, hBs⟩
      · skip
        obtain ⟨e0, e1, e2, e3, e4, e5, e6, e7, e8, e9, e10, e11⟩ := he
        have f7 := ho6.free (k * 12 + 1)
        have hput := hat6.put (j := 1) (y := y.upN) (u := .int .i64 (y.n + 1)) HY.out (by decide) rfl
        have hBs := hb6.setCell (p := ⟨g, k * 12 + 1, none⟩) hg2 (.int .i64 (y.n + 1))
        have HS := Lib.hid (sp_own HP.out HY.out (by rw [HN.out]; exact hp40))
        have hl : (p.set k y.upN).length = n := by rw [List.length_set, HN.out]
        rw [show 0 + k * evK.sz + 1 = k * 12 + 1 from by rw [Nat.zero_add]; rfl] at hput
        have HL := Lib.hid hl
        clear hl
        go_wp2_with fail
        go_meet
        exact ⟨some ⟨g, 0, none⟩, c6, p.set k y.upN, by rw [HL.out], .inr ⟨g, 0, rfl, by simpa using hg6, hput⟩, HS, hBs⟩
      · skip
        have hatp : ∃ b off, A2 = some ⟨b, off, none⟩ ∧ b < w6.heap.size ∧ evK.at w6 b off p := hr6.get HY.out
        obtain ⟨b, off, rfl, hb, hat⟩ := hatp
        obtain ⟨e0, e1, e2, e3, e4, e5, e6, e7, e8, e9, e10, e11⟩ := evAt_get hat HY.out
        have HS := Lib.hid (sp_twice HP.out HY.out (by rw [HN.out]; exact hp40))
        have HLN := Lib.hid (show p.length + 1 ≤ 1000000 by rw [HN.out]; omega)
        have ho7 := ho6.alloc (Obj.cells #[.int .i64 y.r, .int .i64 y.n, .int .i64 y.c.x0, .int .i64 y.c.x1, .int .i64 y.c.x2, .int .i64 y.c.x3, .int .i64 y.c.x4, .int .i64 y.h, .int .i64 y.k, .string y.key, .int .i64 y.lab, .string y.val] 31)
        have hs6 := hb6.size
        have hbs : w2.heap.size ≤ (w6.alloc (Obj.cells #[.int .i64 y.r, .int .i64 y.n, .int .i64 y.c.x0, .int .i64 y.c.x1, .int .i64 y.c.x2, .int .i64 y.c.x3, .int .i64 y.c.x4, .int .i64 y.h, .int .i64 y.k, .string y.key, .int .i64 y.lab, .string y.val] 31)).heap.size := by simp; omega
        clear he
        go_wp2_with (first | (at_builtin; refine wpL_app1 evK _ rfl _ _ _ rfl w2.heap.size 31 112 _ Try.underlying24 infoEv rfl _ p rfl ho7 w6.heap.size y rfl (blk_new w6 [.int .i64 y.r, .int .i64 y.n, .int .i64 y.c.x0, .int .i64 y.c.x1, .int .i64 y.c.x2, .int .i64 y.c.x3, .int .i64 y.c.x4, .int .i64 y.h, .int .i64 y.k, .string y.key, .int .i64 y.lab, .string y.val] 31) HLN.out (by decide) hbs ?_; intro v8 w8 ho8 hg8))
        obtain ⟨A8, c8, rfl, hr8, _⟩ := id ho8.form
        go_meet
        exact ⟨A8, c8, p ++ [y], rfl, hr8, HS, (hb6.alloc hs6 _).grown hg8 hbs ho7.base_le⟩
    case rest =>
      obtain ⟨A10, c10, S, rfl, hr10, HS, hb10⟩ := hcut
      generalize wc = W at *
      have hrW := hr2.below hb10 (Nat.le_refl _)
      have hBW := hB2.trans (hb10.mono hB2.size)
      have HW := Lib.hid (without_right HP.out HY.out)
      have HWO := Lib.hid (without_ok HP.out k)
      have HTL := Lib.hid (show (p.take k).length = k by rw [List.length_take, HN.out]; omega)
      have HDL := Lib.hid (show (p.drop (k + 1)).length = n - (k + 1) by rw [List.length_drop, HN.out])
      have hrt := hrW.take k
      obtain ⟨R, hR⟩ : ∃ R, R = p.take k ++ p.drop (k + 1) := ⟨_, rfl⟩
      have HRE := Lib.hid hR
      have HRL := Lib.hid (show R.length ≤ 1000 by rw [hR, List.length_append, HTL.out, HDL.out]; omega)
      have hw1 : IntKind.i64.wrap ((k : Int) + 1) = (k : Int) + 1 := IntWalk.i64_in _ (by omega)
      have hk0 : (0 : Int) ≤ (k : Int) := by omega
      have hkc : (k : Int) ≤ (c2 : Int) := by omega
      have hk1 : (0 : Int) ≤ (k : Int) + 1 := by omega
      have hk2 : (k : Int) + 1 ≤ (n : Int) := by omega
      have hk3 : (n : Int) ≤ (c2 : Int) := by omega
      clear hR he hat6 hg2 hg6 ho6 hc6 hr6 hb6 hB6
      go_upto_region 15 with fail
      go_cut [11] (fun s11 wx => ∃ (A11 : Option Addr) (c11 : Nat), s11 = .slice A11 R.length c11 ∧ evK.row wx A11 R ∧ Below W.heap.size W wx)
      case first =>
        obtain ⟨b, off, rfl, hb, hat⟩ := hrW.get HY.out
        have ho0 : evK.own 31 (W.drew.alloc (Obj.cells #[] 31)) W.heap.size (.slice (some ⟨W.heap.size, 0, none⟩) 0 0) [] := World.ownsRow_lit W.drew #[] 0 (Nat.le_refl _) (by decide) rfl
        have hBa : Below W.heap.size W (W.drew.alloc (Obj.cells #[] 31)) := (Below.refl _ _).drew.alloc (Nat.le_refl _) _
        have HBD := Lib.hid (show ([] : List Ev).length + (p.take k).length ≤ 1000000 by rw [HTL.out]; simp; omega)
        have hrta := hrt.below hBa (Nat.le_refl _)
        have hrd := row_drop_if (k := k + 1) (c := c2) hat hb (by rw [HN.out]; exact hcc)
        have HBE := Lib.hid (show (p.take k).length + (p.drop (k + 1)).length ≤ 1000000 by rw [HTL.out, HDL.out]; omega)
        first | (go_region_held3 (fun w' => Below W.heap.size W w')
          (first | with_reducible assumption | with_reducible exact (Below.refl _ _).drew | exact hBa)
          (first
            | (refine step_appr evK _ (by rfl) _ _ _ (by rfl) W.heap.size 31 112 _ Try.underlying24 infoEv (by rfl) _ [] (by rfl) ho0 (some ⟨b, off, none⟩) c2 (p.take k) (by rw [HTL.out]; rfl) hrta HBD.out (by decide) hBa.size ?_; intro v5 w5 ho5 hg5; have hB5 : Below W.heap.size W w5 := Below.grown hBa hg5 hBa.size ho0.base_le; rw [List.nil_append] at ho5)
            | (refine step_appr evK _ (by rfl) _ _ _ (by rfl) W.heap.size 31 112 _ Try.underlying24 infoEv (by rfl) _ (p.take k) (by rfl) ho5 (if c2 = k + 1 then some ⟨b, off, none⟩ else some ⟨b, off + (k + 1) * 12, none⟩) (c2 - (k + 1)) (p.drop (k + 1)) (by rw [HDL.out]; rfl) (hrd.below hB5 (Nat.le_refl _)) HBE.out (by decide) hB5.size ?_; intro v7 w7 ho7 hg7; have hB7 : Below W.heap.size W w7 := Below.grown hB5 hg7 hB5.size ho5.base_le; rw [← HRE.out] at ho7; obtain ⟨A7, c7, rfl, hr7, _⟩ := ho7.form))) | fail
        clear hrd
        generalize (if c2 = k + 1 then some (Addr.mk b off none) else some (Addr.mk b (off + (k + 1) * 12) none)) = Ad
        go_wp2_with fail
        go_meet
        exact ⟨A7, c7, rfl, hr7, hB7⟩
      case rest =>
        obtain ⟨A11, c11, rfl, hr11, hb11⟩ := hcut
        generalize wc = W1 at *
        have hrP := hrW.below hb11 (Nat.le_refl _)
        have hrS := hr10.below hb11 (Nat.le_refl _)
        have hB1 := hBW.trans (hb11.mono hBW.size)
        have HWR := Lib.hid (show pB (rightP R) = !needB y p by rw [HRE.out]; exact HW.out)
        have HRO := Lib.hid (show ∀ x ∈ R, evOk x by rw [HRE.out]; exact HWO.out)
        obtain ⟨b, off, rfl, hb, hat⟩ := hrP.get HY.out
        clear hrW hrt hr2 hB2 hb10 hr10 hb11 hBW HW HWO HRE HTL HDL hw1 hk0 hkc hk1 hk2 hk3
        go_wp2_with fail
        go_loopw [12, 13] (fun v12 v13 wr => ∃ i : Nat, i ≤ n ∧ v13 = .int .i64 i ∧ v12 = .bool (needB y (p.take i)) ∧ Below W1.heap.size W1 wr) (fun _ v13 _ => n - (intOf v13).toNat)
        case atStart => exact ⟨0, by omega, rfl, rfl, Below.refl _ _⟩
        case round =>
          obtain ⟨i, hi, rfl, rfl, hB⟩ := hrel
          by_cases hlt : i < n
          · skip
            obtain ⟨x, hx⟩ : ∃ x, p[i]? = some x := ⟨_, List.getElem?_eq_getElem (by rw [HN.out]; exact hlt)⟩
            have HX := Lib.hid hx
            have HNB := Lib.hid (needB_take y hx)
            have hatr := hat.below hB hb
            have hi0 : (0 : Int) ≤ (i : Int) := by omega
            have hi1 : (i : Int) < (n : Int) := by omega
            have hk0 : (0 : Int) ≤ (k : Int) := by omega
            have hk1 : (k : Int) < (n : Int) := by omega
            clear hx
            cases hnb : needB y (p.take i) with
            | true =>
              have HNX := Lib.hid hnb
              clear hnb
              go_wp2
              refine wp_region_held_drew (S := AnyW1) (by kernel_rfl) (anyW1 _) (fun hHeld => ?_)
              (refine wpAnyH_take (i := 0) (oi := ?z1o) (v := ?z1v) ?z11 ?z12 ?z13 ?z14 ?z15 ?z16 ?z18 ?_; (case z11 => rfl); (case z12 => kernel_rfl); (case z13 => kernel_rfl); (case z14 => kernel_rfl); (case z15 => exact fun _ _ _ h => h); (case z16 => refine Or.inl ⟨rfl, ?_⟩; intro w hSw; (try dsimp only at hSw); go_simp; try with_reducible rfl); (case z18 => assumption); try simp only [Act.put, List.getElem_toArray, List.getElem_cons_zero, List.getElem_cons_succ, List.setIfInBounds_toArray, List.set_cons_zero, List.set_cons_succ])
              (refine wpAnyH_take (i := 1) (oi := ?z2o) (v := ?z2v) ?z21 ?z22 ?z23 ?z24 ?z25 ?z26 ?z28 ?_; (case z21 => rfl); (case z22 => kernel_rfl); (case z23 => kernel_rfl); (case z24 => kernel_rfl); (case z25 => exact fun _ _ _ h => h); (case z26 => refine Or.inl ⟨rfl, ?_⟩; intro w hSw; (try dsimp only at hSw); go_simp; try with_reducible rfl); (case z28 => assumption); try simp only [Act.put, List.getElem_toArray, List.getElem_cons_zero, List.getElem_cons_succ, List.setIfInBounds_toArray, List.set_cons_zero, List.set_cons_succ])
              (refine wpAnyH_take (i := 2) (oi := ?z3o) (v := undef) ?z31 ?z32 ?z33 ?z34 ?z35 ?z36 ?z38 ?_; (case z31 => rfl); (case z32 => kernel_rfl); (case z33 => kernel_rfl); (case z34 => kernel_rfl); (case z35 => exact fun _ _ _ h => h); (case z36 => exact Or.inr ⟨rfl, rfl⟩); (case z38 => assumption); try simp only [Act.put, List.getElem_toArray, List.getElem_cons_zero, List.getElem_cons_succ, List.setIfInBounds_toArray, List.set_cons_zero, List.set_cons_succ])
              (refine wpAnyH_take (i := 3) (oi := ?z4o) (v := undef) ?z41 ?z42 ?z43 ?z44 ?z45 ?z46 ?z48 ?_; (case z41 => rfl); (case z42 => kernel_rfl); (case z43 => kernel_rfl); (case z44 => kernel_rfl); (case z45 => exact fun _ _ _ h => h); (case z46 => exact Or.inr ⟨rfl, rfl⟩); (case z48 => assumption); try simp only [Act.put, List.getElem_toArray, List.getElem_cons_zero, List.getElem_cons_succ, List.setIfInBounds_toArray, List.set_cons_zero, List.set_cons_succ])
              (refine wpAnyH_take (i := 4) (oi := ?z5o) (v := undef) ?z51 ?z52 ?z53 ?z54 ?z55 ?z56 ?z58 ?_; (case z51 => rfl); (case z52 => kernel_rfl); (case z53 => kernel_rfl); (case z54 => kernel_rfl); (case z55 => exact fun _ _ _ h => h); (case z56 => exact Or.inr ⟨rfl, rfl⟩); (case z58 => assumption); try simp only [Act.put, List.getElem_toArray, List.getElem_cons_zero, List.getElem_cons_succ, List.setIfInBounds_toArray, List.set_cons_zero, List.set_cons_succ])
              (refine wpAnyH_take (i := 5) (oi := ?z6o) (v := undef) ?z61 ?z62 ?z63 ?z64 ?z65 ?z66 ?z68 ?_; (case z61 => rfl); (case z62 => kernel_rfl); (case z63 => kernel_rfl); (case z64 => kernel_rfl); (case z65 => exact fun _ _ _ h => h); (case z66 => exact Or.inr ⟨rfl, rfl⟩); (case z68 => assumption); try simp only [Act.put, List.getElem_toArray, List.getElem_cons_zero, List.getElem_cons_succ, List.setIfInBounds_toArray, List.set_cons_zero, List.set_cons_succ])
              (refine wpAnyH_take (i := 6) (oi := ?z7o) (v := undef) ?z71 ?z72 ?z73 ?z74 ?z75 ?z76 ?z78 ?_; (case z71 => rfl); (case z72 => kernel_rfl); (case z73 => kernel_rfl); (case z74 => kernel_rfl); (case z75 => exact fun _ _ _ h => h); (case z76 => exact Or.inr ⟨rfl, rfl⟩); (case z78 => assumption); try simp only [Act.put, List.getElem_toArray, List.getElem_cons_zero, List.getElem_cons_succ, List.setIfInBounds_toArray, List.set_cons_zero, List.set_cons_succ])
              (refine wpAnyH_take (i := 7) (oi := ?z8o) (v := undef) ?z81 ?z82 ?z83 ?z84 ?z85 ?z86 ?z88 ?_; (case z81 => rfl); (case z82 => kernel_rfl); (case z83 => kernel_rfl); (case z84 => kernel_rfl); (case z85 => exact fun _ _ _ h => h); (case z86 => exact Or.inr ⟨rfl, rfl⟩); (case z88 => assumption); try simp only [Act.put, List.getElem_toArray, List.getElem_cons_zero, List.getElem_cons_succ, List.setIfInBounds_toArray, List.set_cons_zero, List.set_cons_succ])
              (refine wpAnyH_take (i := 8) (oi := ?z9o) (v := undef) ?z91 ?z92 ?z93 ?z94 ?z95 ?z96 ?z98 ?_; (case z91 => rfl); (case z92 => kernel_rfl); (case z93 => kernel_rfl); (case z94 => kernel_rfl); (case z95 => exact fun _ _ _ h => h); (case z96 => exact Or.inr ⟨rfl, rfl⟩); (case z98 => assumption); try simp only [Act.put, List.getElem_toArray, List.getElem_cons_zero, List.getElem_cons_succ, List.setIfInBounds_toArray, List.set_cons_zero, List.set_cons_succ])
              (refine wpAnyH_take (i := 9) (oi := ?z10o) (v := undef) ?z101 ?z102 ?z103 ?z104 ?z105 ?z106 ?z108 ?_; (case z101 => rfl); (case z102 => kernel_rfl); (case z103 => kernel_rfl); (case z104 => kernel_rfl); (case z105 => exact fun _ _ _ h => h); (case z106 => exact Or.inr ⟨rfl, rfl⟩); (case z108 => assumption); try simp only [Act.put, List.getElem_toArray, List.getElem_cons_zero, List.getElem_cons_succ, List.setIfInBounds_toArray, List.set_cons_zero, List.set_cons_succ])
              (refine wpAnyH_take (i := 10) (oi := ?z11o) (v := undef) ?z111 ?z112 ?z113 ?z114 ?z115 ?z116 ?z118 ?_; (case z111 => rfl); (case z112 => kernel_rfl); (case z113 => kernel_rfl); (case z114 => kernel_rfl); (case z115 => exact fun _ _ _ h => h); (case z116 => exact Or.inr ⟨rfl, rfl⟩); (case z118 => assumption); try simp only [Act.put, List.getElem_toArray, List.getElem_cons_zero, List.getElem_cons_succ, List.setIfInBounds_toArray, List.set_cons_zero, List.set_cons_succ])
              (refine wpAnyH_take (i := 11) (oi := ?z12o) (v := ?z12v) ?z121 ?z122 ?z123 ?z124 ?z125 ?z126 ?z128 ?_; (case z121 => rfl); (case z122 => kernel_rfl); (case z123 => kernel_rfl); (case z124 => kernel_rfl); (case z125 => exact fun _ _ _ h => h); (case z126 => refine Or.inl ⟨rfl, ?_⟩; intro w hSw; (try dsimp only at hSw); go_simp; try with_reducible rfl); (case z128 => assumption); try simp only [Act.put, List.getElem_toArray, List.getElem_cons_zero, List.getElem_cons_succ, List.setIfInBounds_toArray, List.set_cons_zero, List.set_cons_succ])
              (refine wpAnyH_take (i := 12) (oi := ?z13o) (v := ?z13v) ?z131 ?z132 ?z133 ?z134 ?z135 ?z136 ?z138 ?_; (case z131 => rfl); (case z132 => kernel_rfl); (case z133 => kernel_rfl); (case z134 => kernel_rfl); (case z135 => exact fun _ _ _ h => h); (case z136 => refine Or.inl ⟨rfl, ?_⟩; intro w hSw; (try dsimp only at hSw); go_simp; try with_reducible rfl); (case z138 => assumption); try simp only [Act.put, List.getElem_toArray, List.getElem_cons_zero, List.getElem_cons_succ, List.setIfInBounds_toArray, List.set_cons_zero, List.set_cons_succ])
              refine wpAnyH_done (by kernel_rfl) ?_ _
              go_wp2
              go_roundw
              case measure => simp [intOf]; omega
              case rel => exact ⟨i + 1, by omega, by go_num, by rw [HNB.out, HNX.out]; rfl, hB.drew⟩
            | false =>
              have HNX := Lib.hid hnb
              clear hnb
              go_wp2
              first | (go_region_held3 (fun w' => (w'.cell? ⟨b, off + k * 12, none⟩ = some (.int .i64 y.r) ∧ w'.cell? ⟨b, off + k * 12 + 1, none⟩ = some (.int .i64 y.n) ∧ w'.cell? ⟨b, off + k * 12 + 2, none⟩ = some (.int .i64 y.c.x0) ∧ w'.cell? ⟨b, off + k * 12 + 3, none⟩ = some (.int .i64 y.c.x1) ∧ w'.cell? ⟨b, off + k * 12 + 4, none⟩ = some (.int .i64 y.c.x2) ∧ w'.cell? ⟨b, off + k * 12 + 5, none⟩ = some (.int .i64 y.c.x3) ∧ w'.cell? ⟨b, off + k * 12 + 6, none⟩ = some (.int .i64 y.c.x4) ∧ w'.cell? ⟨b, off + k * 12 + 7, none⟩ = some (.int .i64 y.h) ∧ w'.cell? ⟨b, off + k * 12 + 8, none⟩ = some (.int .i64 y.k) ∧ w'.cell? ⟨b, off + k * 12 + 9, none⟩ = some (.string y.key) ∧ w'.cell? ⟨b, off + k * 12 + 10, none⟩ = some (.int .i64 y.lab) ∧ w'.cell? ⟨b, off + k * 12 + 11, none⟩ = some (.string y.val)) ∧ (w'.cell? ⟨b, off + i * 12, none⟩ = some (.int .i64 x.r) ∧ w'.cell? ⟨b, off + i * 12 + 1, none⟩ = some (.int .i64 x.n) ∧ w'.cell? ⟨b, off + i * 12 + 2, none⟩ = some (.int .i64 x.c.x0) ∧ w'.cell? ⟨b, off + i * 12 + 3, none⟩ = some (.int .i64 x.c.x1) ∧ w'.cell? ⟨b, off + i * 12 + 4, none⟩ = some (.int .i64 x.c.x2) ∧ w'.cell? ⟨b, off + i * 12 + 5, none⟩ = some (.int .i64 x.c.x3) ∧ w'.cell? ⟨b, off + i * 12 + 6, none⟩ = some (.int .i64 x.c.x4) ∧ w'.cell? ⟨b, off + i * 12 + 7, none⟩ = some (.int .i64 x.h) ∧ w'.cell? ⟨b, off + i * 12 + 8, none⟩ = some (.int .i64 x.k) ∧ w'.cell? ⟨b, off + i * 12 + 9, none⟩ = some (.string x.key) ∧ w'.cell? ⟨b, off + i * 12 + 10, none⟩ = some (.int .i64 x.lab) ∧ w'.cell? ⟨b, off + i * 12 + 11, none⟩ = some (.string x.val)))
                (first | with_reducible exact ⟨evAt_get hat5 HY.out, evAt_get hat5 HX.out⟩ | exact ⟨evAt_get hatr HY.out, evAt_get hatr HX.out⟩)
                (first | (go_at_call 37; refine (below_any y x _).mono ?_; rintro e3 w5 ⟨rfl, hb5⟩; have hB5 := hB.drew.trans (hb5.mono hB.size); have hat5 := hat.below hB5 hb))) | fail
              go_wp2
              go_roundw
              case measure => simp [intOf]; omega
              case rel => exact ⟨i + 1, by omega, by go_num, by rw [HNB.out, HNX.out]; rfl, hB5⟩
          · skip
            obtain rfl : i = n := by omega
            rw [List.take_of_length_le (by rw [HN.out]; exact Nat.le_refl _)]
            have hrSr := hrS.below hB (Nat.le_refl _)
            have hrRr := hr11.below hB (Nat.le_refl _)
            have hBr := hB1.trans (hB.mono hB1.size)
            generalize needB y p = nb at *
            have HSL := Lib.hid (show S.length ≤ 1000 by have := HS.out.len; omega)
            cases nb with
            | true =>
              go_wp2_with (first
                | (go_at_call 38; (with_reducible refine (right_any A10 c10 S _ hrSr HSL.out HS.out.evs).mono ?_); rintro e5 w5 ⟨rfl, hb5⟩; rw [pB_false HS.out.not]; have hrR5 := hrRr.below hb5 (Nat.le_refl _))
                | (go_at_call 38; (with_reducible refine (right_any A11 c11 R _ hrR5 HRL.out HRO.out).mono ?_); rintro e6 w6 ⟨rfl, hb6⟩; rw [HWR.out]; have hb6' := hb5.trans (hb6.mono hb5.size)))
              go_ret
              exact ⟨rfl, hBr.trans (hb6'.mono hBr.size)⟩
            | false =>
              go_wp2_with (first
                | (go_at_call 38; (with_reducible refine (right_any A10 c10 S _ hrSr HSL.out HS.out.evs).mono ?_); rintro e5 w5 ⟨rfl, hb5⟩; rw [pB_false HS.out.not]; have hrR5 := hrRr.below hb5 (Nat.le_refl _))
                | (go_at_call 38; (with_reducible refine (right_any A11 c11 R _ hrR5 HRL.out HRO.out).mono ?_); rintro e6 w6 ⟨rfl, hb6⟩; rw [HWR.out]; have hb6' := hb5.trans (hb6.mono hb5.size)))
              go_ret
              exact ⟨rfl, hBr.trans (hb6'.mono hBr.size)⟩
end Go.Proofs.Ytlfhjlkhhaoicaa
