/- The walk of kithlaw08.PastOrder. -/
import Derived.Test.YtlfhjlkhhaoicaaL08
import Derived.Test.YtlfhjlkhhaoicaaDrainQ
import Derived.Test.YtlfhjlkhhaoicaaStamp
import Derived.Test.YtlfhjlkhhaoicaaPastPrefix
import Derived.Deep.CutRange
import Derived.Deep.DeepCutAuto
namespace Go.Proofs.Ytlfhjlkhhaoicaa
set_option linter.unusedVariables false
set_option linter.unusedSimpArgs false
open Go.RowKit
attribute [local go_sem] ck_get ck_get? q_le0 q_le1 q_le2 q_le3 q_le4 q_le5 q_lt1 q_lt2 q_lt3 q_lt4 q_lt5

theorem o_bsz {a w : World} (h : Below a.heap.size a w) : a.heap.size ≤ w.heap.size := h.size
theorem o_be {w w' : World} {b : Nat} {l : List Value} {t : TypeId} (h : blk w b l t) (hb : Below w.heap.size w w') : blk w' b l t ∧ ∀ o', w'.cell? ⟨b, o', none⟩ = l[o']? := ⟨h.below hb h.lt, (h.below hb h.lt).cell⟩
section
variable {l : List Ev} (hP : Past l) {x y z : Ev} (hx : x ∈ l) (hy : y ∈ l)
include hP hx hy
theorem up_less (h : hasB y.c x.r x.n = true) : x.h < y.h := by
  have := (hP.height y hy).up x hx h
  omega
theorem up_down (h : hasB y.c x.r x.n = true) : hasB x.c y.r y.n = false := by
  cases hd : hasB x.c y.r y.n with
  | false => rfl
  | true =>
    have h1 := up_less hP hx hy h
    have h2 := (hP.height x hx).up y hy hd
    omega
omit hx in
theorem up_trans (h : hasB y.c x.r x.n = true) (hz : z ∈ l) (h' : hasB z.c y.r y.n = true) : hasB z.c x.r x.n = true := by
  obtain ⟨u, hu, a, b, hle⟩ := hP.down hz h'
  rw [mk_uniq hP.nodup hu hy a b] at hle
  exact hasB_mono hle h
theorem stamps_ne (hne : x ≠ y) : lessS ⟨x.h, x.r⟩ ⟨y.h, y.r⟩ = true ∧ lessS ⟨y.h, y.r⟩ ⟨x.h, x.r⟩ = false ∨ lessS ⟨x.h, x.r⟩ ⟨y.h, y.r⟩ = false ∧ lessS ⟨y.h, y.r⟩ ⟨x.h, x.r⟩ = true := by
  have key : x.h = y.h → x.r = y.r → False := fun h1 h2 => by
    have mx := hP.may x hx; have my := hP.may y hy
    rcases Int.lt_trichotomy x.n y.n with hn | hn | hn
    · have := (hP.height y hy).up x hx (hasB_iff.2 ⟨mx.r0, mx.r5, mx.n1, by rw [h2, my.own]; omega⟩)
      omega
    · exact hne (mk_uniq hP.nodup hx hy h2 hn)
    · have := (hP.height x hx).up y hy (hasB_iff.2 ⟨my.r0, my.r5, my.n1, by rw [← h2, mx.own]; omega⟩)
      omega
  rw [lessS_iff, lessS_iff, lessS_false, lessS_false]
  simp only
  by_cases h1 : x.h = y.h
  · have : x.r ≠ y.r := key h1
    omega
  · omega
end

set_option maxRecDepth 100000 in
set_option maxHeartbeats 4000000 in
theorem pastOrder_any (A : Option Addr) (ca : Nat) (l : List Ch) (w : World) (hl : chK.row w A l) (hc : l.length ≤ ca) (hm : ca ≤ maxLen) (hwf : ∀ c ∈ l, c.wf) :
    Calls Try.prog 10 #[.slice A l.length ca] w fun e w' => e = .returned (.bool true) ∧ Below w.heap.size w w' := by
  have H40 := Lib.hid (show min l.length 40 = (l.take 40).length by rw [List.length_take]; omega)
  have HL40 := Lib.hid (show (l.take 40).length ≤ 40 by rw [List.length_take]; omega)
  have HWF := Lib.hid (fun c (h : c ∈ l.take 40) => hwf c ((List.take_sublist _ _).subset h))
  have hl4 := hl.take 40
  clear hwf hl
  generalize l.take 40 = L4 at *
  go_enter Try.func10, Try.ntmps10
  go_wp2_with fail
  refine (shown08_any _).mono ?_
  rintro e w1 ⟨rfl, hb1⟩
  have hl1 := hl4.below hb1 (Nat.le_refl _)
  go_wp2_with fail
  refine (short08_any A l.length ca _ hc hm).mono ?_
  rintro e w1' ⟨rfl, rfl⟩
  rw [H40.out]
  go_wp2_with fail
  refine (make_any A ca L4 _ hl1 HL40.out HWF.out).mono ?_
  rintro e w2 ⟨v, p, rfl, hP, hp40, ho, hb2⟩
  obtain ⟨A2, c2, rfl, hr2, hcc, hA2⟩ := ho.form
  have hB2 := hb1.trans (hb2.mono hb1.size)
  have HP := Lib.hid hP
  clear hP hl1 hl4 hb1 hb2 ho hA2
  generalize hnn : p.length = n at *
  have HN := Lib.hid hnn
  clear hnn
  go_wp2
  go_loopg [5] (n + 1) (fun f v5 wr => ∃ i : Nat, i ≤ n ∧ n - i + 1 ≤ f ∧ v5 = .int .i64 i ∧ Below w2.heap.size w2 wr)
  case atStart => exact ⟨0, by omega, by omega, rfl, Below.refl _ _⟩
  case round =>
    obtain ⟨i, hi, hfi, rfl, hBr⟩ := hrel
    obtain ⟨f, rfl⟩ : ∃ f, gk = f + 1 := ⟨gk - 1, by omega⟩
    by_cases hlti : i < n
    · obtain ⟨x, hx⟩ : ∃ x, p[i]? = some x := ⟨_, List.getElem?_eq_getElem (by rw [HN.out]; exact hlti)⟩
      obtain ⟨b, off, rfl, hb, hat⟩ := hr2.get hx
      have HX := Lib.hid hx
      have HXM := Lib.hid (List.mem_of_getElem? hx)
      have hi0 : (0 : Int) ≤ (i : Int) := by omega
      have hi1 : (i : Int) < (n : Int) := by omega
      have hdi : decide ((i : Int) < (n : Int)) = true := decide_eq_true hi1
      have hdi2 : decide (i < n) = true := decide_eq_true hlti
      clear hx
      go_wp2
      obtain ⟨W0, rfl⟩ : ∃ W0 : World, W0 = wr := ⟨_, rfl⟩
      go_loopg [6, 7, 8, 9, 10, 11] (n + 1) (fun g v6 v7 v8 v9 v10 v11 wr => ∃ k : Nat, k ≤ n ∧ n - k + 1 ≤ g ∧ v6 = .int .i64 k ∧ Below w2.heap.size w2 wr)
      case atStart => exact ⟨0, by omega, by omega, rfl, hBr⟩
      case round =>
        clear hBr
        obtain ⟨k, hk, hgk', rfl, hBr⟩ := hrel
        obtain ⟨g, rfl⟩ : ∃ g, gk = g + 1 := ⟨gk - 1, by omega⟩
        by_cases hltk : k < n
        · obtain ⟨y, hy⟩ : ∃ y, p[k]? = some y := ⟨_, List.getElem?_eq_getElem (by rw [HN.out]; exact hltk)⟩
          have HY := Lib.hid hy
          have HYM := Lib.hid (List.mem_of_getElem? hy)
          have hatr := hat.below hBr hb
          have hk0 : (0 : Int) ≤ (k : Int) := by omega
          have hk1 : (k : Int) < (n : Int) := by omega
          clear hy
          go_wp2
          first | (go_region_held3 (fun w' => (w'.cell? ⟨b, off + i * 12, none⟩ = some (.int .i64 x.r) ∧ w'.cell? ⟨b, off + i * 12 + 1, none⟩ = some (.int .i64 x.n) ∧ w'.cell? ⟨b, off + i * 12 + 2, none⟩ = some (.int .i64 x.c.x0) ∧ w'.cell? ⟨b, off + i * 12 + 3, none⟩ = some (.int .i64 x.c.x1) ∧ w'.cell? ⟨b, off + i * 12 + 4, none⟩ = some (.int .i64 x.c.x2) ∧ w'.cell? ⟨b, off + i * 12 + 5, none⟩ = some (.int .i64 x.c.x3) ∧ w'.cell? ⟨b, off + i * 12 + 6, none⟩ = some (.int .i64 x.c.x4) ∧ w'.cell? ⟨b, off + i * 12 + 7, none⟩ = some (.int .i64 x.h) ∧ w'.cell? ⟨b, off + i * 12 + 8, none⟩ = some (.int .i64 x.k) ∧ w'.cell? ⟨b, off + i * 12 + 9, none⟩ = some (.string x.key) ∧ w'.cell? ⟨b, off + i * 12 + 10, none⟩ = some (.int .i64 x.lab) ∧ w'.cell? ⟨b, off + i * 12 + 11, none⟩ = some (.string x.val)) ∧ (w'.cell? ⟨b, off + k * 12, none⟩ = some (.int .i64 y.r) ∧ w'.cell? ⟨b, off + k * 12 + 1, none⟩ = some (.int .i64 y.n) ∧ w'.cell? ⟨b, off + k * 12 + 2, none⟩ = some (.int .i64 y.c.x0) ∧ w'.cell? ⟨b, off + k * 12 + 3, none⟩ = some (.int .i64 y.c.x1) ∧ w'.cell? ⟨b, off + k * 12 + 4, none⟩ = some (.int .i64 y.c.x2) ∧ w'.cell? ⟨b, off + k * 12 + 5, none⟩ = some (.int .i64 y.c.x3) ∧ w'.cell? ⟨b, off + k * 12 + 6, none⟩ = some (.int .i64 y.c.x4) ∧ w'.cell? ⟨b, off + k * 12 + 7, none⟩ = some (.int .i64 y.h) ∧ w'.cell? ⟨b, off + k * 12 + 8, none⟩ = some (.int .i64 y.k) ∧ w'.cell? ⟨b, off + k * 12 + 9, none⟩ = some (.string y.key) ∧ w'.cell? ⟨b, off + k * 12 + 10, none⟩ = some (.int .i64 y.lab) ∧ w'.cell? ⟨b, off + k * 12 + 11, none⟩ = some (.string y.val)))
            (first | with_reducible exact ⟨evAt_get hat5 HX.out, evAt_get hat5 HY.out⟩ | exact ⟨evAt_get hatr HX.out, evAt_get hatr HY.out⟩)
            (first | (go_at_call 37; refine (below_any x y _).mono ?_; rintro e3 w5 ⟨rfl, hb5⟩; have hB5 := hBr.drew.trans (hb5.mono hBr.size); have hat5 := hat.below hB5 hb))) | fail
          clear hb5 hatr hBr
          go_wp2
          first | (go_region_held3 (fun w' => (w'.cell? ⟨b, off + i * 12, none⟩ = some (.int .i64 x.r) ∧ w'.cell? ⟨b, off + i * 12 + 1, none⟩ = some (.int .i64 x.n) ∧ w'.cell? ⟨b, off + i * 12 + 2, none⟩ = some (.int .i64 x.c.x0) ∧ w'.cell? ⟨b, off + i * 12 + 3, none⟩ = some (.int .i64 x.c.x1) ∧ w'.cell? ⟨b, off + i * 12 + 4, none⟩ = some (.int .i64 x.c.x2) ∧ w'.cell? ⟨b, off + i * 12 + 5, none⟩ = some (.int .i64 x.c.x3) ∧ w'.cell? ⟨b, off + i * 12 + 6, none⟩ = some (.int .i64 x.c.x4) ∧ w'.cell? ⟨b, off + i * 12 + 7, none⟩ = some (.int .i64 x.h) ∧ w'.cell? ⟨b, off + i * 12 + 8, none⟩ = some (.int .i64 x.k) ∧ w'.cell? ⟨b, off + i * 12 + 9, none⟩ = some (.string x.key) ∧ w'.cell? ⟨b, off + i * 12 + 10, none⟩ = some (.int .i64 x.lab) ∧ w'.cell? ⟨b, off + i * 12 + 11, none⟩ = some (.string x.val)) ∧ (w'.cell? ⟨b, off + k * 12, none⟩ = some (.int .i64 y.r) ∧ w'.cell? ⟨b, off + k * 12 + 1, none⟩ = some (.int .i64 y.n) ∧ w'.cell? ⟨b, off + k * 12 + 2, none⟩ = some (.int .i64 y.c.x0) ∧ w'.cell? ⟨b, off + k * 12 + 3, none⟩ = some (.int .i64 y.c.x1) ∧ w'.cell? ⟨b, off + k * 12 + 4, none⟩ = some (.int .i64 y.c.x2) ∧ w'.cell? ⟨b, off + k * 12 + 5, none⟩ = some (.int .i64 y.c.x3) ∧ w'.cell? ⟨b, off + k * 12 + 6, none⟩ = some (.int .i64 y.c.x4) ∧ w'.cell? ⟨b, off + k * 12 + 7, none⟩ = some (.int .i64 y.h) ∧ w'.cell? ⟨b, off + k * 12 + 8, none⟩ = some (.int .i64 y.k) ∧ w'.cell? ⟨b, off + k * 12 + 9, none⟩ = some (.string y.key) ∧ w'.cell? ⟨b, off + k * 12 + 10, none⟩ = some (.int .i64 y.lab) ∧ w'.cell? ⟨b, off + k * 12 + 11, none⟩ = some (.string y.val)))
            (first | with_reducible exact ⟨evAt_get hat6 HX.out, evAt_get hat6 HY.out⟩ | exact ⟨evAt_get hat5 HX.out, evAt_get hat5 HY.out⟩)
            (first | (go_at_call 37; refine (below_any y x _).mono ?_; rintro e3 w6 ⟨rfl, hb6⟩; have hB6 := hB5.drew.trans (hb6.mono hB5.size); have hat6 := hat.below hB6 hb))) | fail
          clear hb6 hat5 hB5
          obtain ⟨c0, -, -, -, -, -, -, c7, -⟩ := evAt_get hat6 HX.out
          obtain ⟨d0, -, -, -, -, -, -, d7, -⟩ := evAt_get hat6 HY.out
          have hblt : b < w6.heap.size := Nat.lt_of_lt_of_le hb hB6.size
          cases hup : hasB y.c x.r x.n with
          | true =>
            have HUP := Lib.hid hup
            have hdn := up_down HP.out HXM.out HYM.out hup
            have hxy := up_less HP.out HXM.out HYM.out hup
            rw [hdn]
            clear hup hdn
            have hge : decide (x.h ≥ y.h) = false := decide_eq_false (by omega)
            have hge' : decide (y.h ≤ x.h) = false := decide_eq_false (by omega)
            go_wp2
            go_quiet (fail)
            have hB7 := bdN hB6 nq
            have hat7 := hat.below hB7 hb
            clear c0 c7 d0 d7 hat6 hB6 hblt
            generalize w6.drewN nq = w7 at *
            obtain ⟨c0, -, -, -, -, -, -, c7, -⟩ := evAt_get hat7 HX.out
            obtain ⟨d0, -, -, -, -, -, -, d7, -⟩ := evAt_get hat7 HY.out
            have hblt : b < w7.heap.size := Nat.lt_of_lt_of_le hb hB7.size
            have hsz7 := hB7.size
            go_wp2
            go_region
            all_goals go_wp2
            go_region
            all_goals go_wp2
            have hB8 := ((hB7.alloc hsz7 (Obj.cells #[.int .i64 x.h, .int .i64 x.r] 58)).alloc (by simp; omega) (Obj.cells #[.int .i64 y.h, .int .i64 y.r] 58)).drew.drew
            have bA := (((blk_new w7 [.int .i64 x.h, .int .i64 x.r] 58).alloc (Obj.cells #[.int .i64 y.h, .int .i64 y.r] 58)).drew).drew
            have bB := ((blk_at (w := w7.alloc (Obj.cells #[.int .i64 x.h, .int .i64 x.r] 58)) (b := w7.heap.size + 1) (by simp) [.int .i64 y.h, .int .i64 y.r] 58).drew).drew
            clear c0 c7 d0 d7 hat7 hblt
            generalize (((w7.alloc (Obj.cells #[.int .i64 x.h, .int .i64 x.r] 58)).alloc (Obj.cells #[.int .i64 y.h, .int .i64 y.r] 58)).drew).drew = w8 at *
            go_cut [96] from 22 to 126 (fun s96 wx => s96 = .bool false ∧ Below w2.heap.size w2 wx)
            case first =>
              by_cases hik : i = k
              · have hbk : ((i : Int) != (k : Int)) = false := by simp; omega
                have hbk2 : (i != k) = false := by simp; omega
                go_quiet (fail)
                go_wp2_with fail
                go_meet
                exact ⟨rfl, bdN hB8 _⟩
              · have hbk : ((i : Int) != (k : Int)) = true := by simp; omega
                have hbk2 : (i != k) = true := by simp; omega
                rcases stamps_ne HP.out HXM.out HYM.out (fun hc => hik ((nodup_idx HP.out.nodup HX.out HY.out).1 hc)) with ⟨h1, h2⟩ | ⟨h1, h2⟩
                all_goals have HAB := Lib.hid h1
                all_goals have HBA := Lib.hid h2
                all_goals clear h1 h2
                all_goals first | (go_region_held3 (fun w' => (blk w' w7.heap.size [.int .i64 x.h, .int .i64 x.r] 58 ∧ ∀ o, w'.cell? ⟨w7.heap.size, o, none⟩ = ([.int .i64 x.h, .int .i64 x.r] : List Value)[o]?) ∧ (blk w' (w7.heap.size + 1) [.int .i64 y.h, .int .i64 y.r] 58 ∧ ∀ o, w'.cell? ⟨w7.heap.size + 1, o, none⟩ = ([.int .i64 y.h, .int .i64 y.r] : List Value)[o]?) ∧ Below w8.heap.size w8 w')
                  (first | exact ⟨⟨bA, bA.cell⟩, ⟨bB, bB.cell⟩, (Below.refl _ _).drew⟩ | assumption | (go_split_ands; exact ⟨o_be (by assumption) hb9, o_be (by assumption) hb9, Below.trans (by assumption) (hb9.mono (o_bsz (by assumption)))⟩))
                  (first | (go_at_call 40; ((with_reducible refine (less_any ⟨x.h, x.r⟩ ⟨y.h, y.r⟩ _).mono ?_); rintro e9 w9 ⟨rfl, hb9⟩; rw [HAB.out])) | (go_at_call 40; ((with_reducible refine (less_any ⟨y.h, y.r⟩ ⟨x.h, x.r⟩ _).mono ?_); rintro e9 w9 ⟨rfl, hb9⟩; rw [HBA.out])))) | fail
                all_goals go_wp2_with fail
                all_goals go_meet
                all_goals exact ⟨rfl, by go_split_ands; exact hB8.trans (Below.mono (by assumption) hB8.size)⟩
            case rest =>
              obtain ⟨rfl, hB9⟩ := hcut
              clear hB8 bA bB hB7
              go_wp2
              go_loopg [11] (n + 1) (fun h v11 wr => ∃ j : Nat, j ≤ n ∧ n - j + 1 ≤ h ∧ v11 = .int .i64 j ∧ Below w2.heap.size w2 wr)
              case atStart => exact ⟨0, by omega, by omega, rfl, hB9⟩
              case round =>
                obtain ⟨j, hj, hgj, rfl, hBr⟩ := hrel
                obtain ⟨h, rfl⟩ : ∃ h, gk = h + 1 := ⟨gk - 1, by omega⟩
                by_cases hltj : j < n
                · obtain ⟨z, hz⟩ : ∃ z, p[j]? = some z := ⟨_, List.getElem?_eq_getElem (by rw [HN.out]; exact hltj)⟩
                  have HZ := Lib.hid hz
                  have HZM := Lib.hid (List.mem_of_getElem? hz)
                  have hatr := hat.below hBr hb
                  have hj0 : (0 : Int) ≤ (j : Int) := by omega
                  have hj1 : (j : Int) < (n : Int) := by omega
                  clear hz
                  cases hb2 : hasB z.c y.r y.n with
                  | true =>
                    have HB2 := Lib.hid hb2
                    have HTR := Lib.hid (up_trans HP.out HYM.out HUP.out HZM.out hb2)
                    clear hb2
                    go_wp2
                    first | (go_region_held3 (fun w' => (w'.cell? ⟨b, off + i * 12, none⟩ = some (.int .i64 x.r) ∧ w'.cell? ⟨b, off + i * 12 + 1, none⟩ = some (.int .i64 x.n) ∧ w'.cell? ⟨b, off + i * 12 + 2, none⟩ = some (.int .i64 x.c.x0) ∧ w'.cell? ⟨b, off + i * 12 + 3, none⟩ = some (.int .i64 x.c.x1) ∧ w'.cell? ⟨b, off + i * 12 + 4, none⟩ = some (.int .i64 x.c.x2) ∧ w'.cell? ⟨b, off + i * 12 + 5, none⟩ = some (.int .i64 x.c.x3) ∧ w'.cell? ⟨b, off + i * 12 + 6, none⟩ = some (.int .i64 x.c.x4) ∧ w'.cell? ⟨b, off + i * 12 + 7, none⟩ = some (.int .i64 x.h) ∧ w'.cell? ⟨b, off + i * 12 + 8, none⟩ = some (.int .i64 x.k) ∧ w'.cell? ⟨b, off + i * 12 + 9, none⟩ = some (.string x.key) ∧ w'.cell? ⟨b, off + i * 12 + 10, none⟩ = some (.int .i64 x.lab) ∧ w'.cell? ⟨b, off + i * 12 + 11, none⟩ = some (.string x.val)) ∧ (w'.cell? ⟨b, off + k * 12, none⟩ = some (.int .i64 y.r) ∧ w'.cell? ⟨b, off + k * 12 + 1, none⟩ = some (.int .i64 y.n) ∧ w'.cell? ⟨b, off + k * 12 + 2, none⟩ = some (.int .i64 y.c.x0) ∧ w'.cell? ⟨b, off + k * 12 + 3, none⟩ = some (.int .i64 y.c.x1) ∧ w'.cell? ⟨b, off + k * 12 + 4, none⟩ = some (.int .i64 y.c.x2) ∧ w'.cell? ⟨b, off + k * 12 + 5, none⟩ = some (.int .i64 y.c.x3) ∧ w'.cell? ⟨b, off + k * 12 + 6, none⟩ = some (.int .i64 y.c.x4) ∧ w'.cell? ⟨b, off + k * 12 + 7, none⟩ = some (.int .i64 y.h) ∧ w'.cell? ⟨b, off + k * 12 + 8, none⟩ = some (.int .i64 y.k) ∧ w'.cell? ⟨b, off + k * 12 + 9, none⟩ = some (.string y.key) ∧ w'.cell? ⟨b, off + k * 12 + 10, none⟩ = some (.int .i64 y.lab) ∧ w'.cell? ⟨b, off + k * 12 + 11, none⟩ = some (.string y.val)) ∧ (w'.cell? ⟨b, off + j * 12, none⟩ = some (.int .i64 z.r) ∧ w'.cell? ⟨b, off + j * 12 + 1, none⟩ = some (.int .i64 z.n) ∧ w'.cell? ⟨b, off + j * 12 + 2, none⟩ = some (.int .i64 z.c.x0) ∧ w'.cell? ⟨b, off + j * 12 + 3, none⟩ = some (.int .i64 z.c.x1) ∧ w'.cell? ⟨b, off + j * 12 + 4, none⟩ = some (.int .i64 z.c.x2) ∧ w'.cell? ⟨b, off + j * 12 + 5, none⟩ = some (.int .i64 z.c.x3) ∧ w'.cell? ⟨b, off + j * 12 + 6, none⟩ = some (.int .i64 z.c.x4) ∧ w'.cell? ⟨b, off + j * 12 + 7, none⟩ = some (.int .i64 z.h) ∧ w'.cell? ⟨b, off + j * 12 + 8, none⟩ = some (.int .i64 z.k) ∧ w'.cell? ⟨b, off + j * 12 + 9, none⟩ = some (.string z.key) ∧ w'.cell? ⟨b, off + j * 12 + 10, none⟩ = some (.int .i64 z.lab) ∧ w'.cell? ⟨b, off + j * 12 + 11, none⟩ = some (.string z.val)))
                      (first | with_reducible exact ⟨evAt_get hat12 HX.out, evAt_get hat12 HY.out, evAt_get hat12 HZ.out⟩ | with_reducible exact ⟨evAt_get hat11 HX.out, evAt_get hat11 HY.out, evAt_get hat11 HZ.out⟩ | exact ⟨evAt_get hatr HX.out, evAt_get hatr HY.out, evAt_get hatr HZ.out⟩)
                      (first | (go_at_call 37; ((with_reducible refine (below_any y z _).mono ?_); rintro e3 w11 ⟨rfl, hb11⟩; rw [HB2.out]; have hB11 := hBr.drew.trans (hb11.mono hBr.size); have hat11 := hat.below hB11 hb)) | (go_at_call 37; ((with_reducible refine (below_any x z _).mono ?_); rintro e4 w12 ⟨rfl, hb12⟩; rw [HTR.out]; have hB12 := hB11.trans (hb12.mono hB11.size); have hat12 := hat.below hB12 hb)))) | fail
                    go_wp2
                    go_roundg h
                    case measure => omega
                    case rel => exact ⟨j + 1, by omega, by omega, by go_num, hB12⟩
                  | false =>
                    have HB2 := Lib.hid hb2
                    clear hb2
                    go_wp2
                    refine wp_region_held_drew (S := (fun w' => (w'.cell? ⟨b, off + k * 12, none⟩ = some (.int .i64 y.r) ∧ w'.cell? ⟨b, off + k * 12 + 1, none⟩ = some (.int .i64 y.n) ∧ w'.cell? ⟨b, off + k * 12 + 2, none⟩ = some (.int .i64 y.c.x0) ∧ w'.cell? ⟨b, off + k * 12 + 3, none⟩ = some (.int .i64 y.c.x1) ∧ w'.cell? ⟨b, off + k * 12 + 4, none⟩ = some (.int .i64 y.c.x2) ∧ w'.cell? ⟨b, off + k * 12 + 5, none⟩ = some (.int .i64 y.c.x3) ∧ w'.cell? ⟨b, off + k * 12 + 6, none⟩ = some (.int .i64 y.c.x4) ∧ w'.cell? ⟨b, off + k * 12 + 7, none⟩ = some (.int .i64 y.h) ∧ w'.cell? ⟨b, off + k * 12 + 8, none⟩ = some (.int .i64 y.k) ∧ w'.cell? ⟨b, off + k * 12 + 9, none⟩ = some (.string y.key) ∧ w'.cell? ⟨b, off + k * 12 + 10, none⟩ = some (.int .i64 y.lab) ∧ w'.cell? ⟨b, off + k * 12 + 11, none⟩ = some (.string y.val)) ∧ (w'.cell? ⟨b, off + j * 12, none⟩ = some (.int .i64 z.r) ∧ w'.cell? ⟨b, off + j * 12 + 1, none⟩ = some (.int .i64 z.n) ∧ w'.cell? ⟨b, off + j * 12 + 2, none⟩ = some (.int .i64 z.c.x0) ∧ w'.cell? ⟨b, off + j * 12 + 3, none⟩ = some (.int .i64 z.c.x1) ∧ w'.cell? ⟨b, off + j * 12 + 4, none⟩ = some (.int .i64 z.c.x2) ∧ w'.cell? ⟨b, off + j * 12 + 5, none⟩ = some (.int .i64 z.c.x3) ∧ w'.cell? ⟨b, off + j * 12 + 6, none⟩ = some (.int .i64 z.c.x4) ∧ w'.cell? ⟨b, off + j * 12 + 7, none⟩ = some (.int .i64 z.h) ∧ w'.cell? ⟨b, off + j * 12 + 8, none⟩ = some (.int .i64 z.k) ∧ w'.cell? ⟨b, off + j * 12 + 9, none⟩ = some (.string z.key) ∧ w'.cell? ⟨b, off + j * 12 + 10, none⟩ = some (.int .i64 z.lab) ∧ w'.cell? ⟨b, off + j * 12 + 11, none⟩ = some (.string z.val)))) (by kernel_rfl) ⟨evAt_get hatr HY.out, evAt_get hatr HZ.out⟩ (fun hHeld => ?_)
                    (refine wpAnyH_take (i := 0) (oi := ?z1o) (v := ?z1v) ?z11 ?z12 ?z13 ?z14 ?z15 ?z16 ?z18 ?_; (case z11 => rfl); (case z12 => kernel_rfl); (case z13 => kernel_rfl); (case z14 => kernel_rfl); (case z15 => exact fun _ _ _ h => h); (case z16 => refine Or.inl ⟨rfl, ?_⟩; intro w hSw; (try dsimp only at hSw); go_simp; try with_reducible rfl); (case z18 => assumption); try simp only [Act.put, List.getElem_toArray, List.getElem_cons_zero, List.getElem_cons_succ, List.setIfInBounds_toArray, List.set_cons_zero, List.set_cons_succ])
                    (refine wpAnyH_take (i := 1) (oi := ?z2o) (v := ?z2v) ?z21 ?z22 ?z23 ?z24 ?z25 ?z26 ?z28 ?_; (case z21 => rfl); (case z22 => kernel_rfl); (case z23 => kernel_rfl); (case z24 => kernel_rfl); (case z25 => exact fun _ _ _ h => h); (case z26 => refine Or.inl ⟨rfl, ?_⟩; intro w hSw; (try dsimp only at hSw); go_simp; try with_reducible rfl); (case z28 => assumption); try simp only [Act.put, List.getElem_toArray, List.getElem_cons_zero, List.getElem_cons_succ, List.setIfInBounds_toArray, List.set_cons_zero, List.set_cons_succ])
                    (refine wpAnyH_take (i := 2) (oi := ?z3o) (v := ?z3v) ?z31 ?z32 ?z33 ?z34 ?z35 ?z36 ?z38 ?_; (case z31 => rfl); (case z32 => kernel_rfl); (case z33 => kernel_rfl); (case z34 => kernel_rfl); (case z35 => exact fun _ _ _ h => h); (case z36 => refine Or.inl ⟨rfl, ?_⟩; intro w hSw; (try dsimp only at hSw); go_simp; try with_reducible rfl); (case z38 => assumption); try simp only [Act.put, List.getElem_toArray, List.getElem_cons_zero, List.getElem_cons_succ, List.setIfInBounds_toArray, List.set_cons_zero, List.set_cons_succ])
                    (refine wpAnyH_take (i := 3) (oi := ?z4o) (v := ?z4v) ?z41 ?z42 ?z43 ?z44 ?z45 ?z46 ?z48 ?_; (case z41 => rfl); (case z42 => kernel_rfl); (case z43 => kernel_rfl); (case z44 => kernel_rfl); (case z45 => exact fun _ _ _ h => h); (case z46 => refine Or.inl ⟨rfl, ?_⟩; intro w hSw; (try dsimp only at hSw); go_simp; try with_reducible rfl); (case z48 => assumption); try simp only [Act.put, List.getElem_toArray, List.getElem_cons_zero, List.getElem_cons_succ, List.setIfInBounds_toArray, List.set_cons_zero, List.set_cons_succ])
                    (refine wpAnyH_take (i := 4) (oi := ?z5o) (v := ?z5v) ?z51 ?z52 ?z53 ?z54 ?z55 ?z56 ?z58 ?_; (case z51 => rfl); (case z52 => kernel_rfl); (case z53 => kernel_rfl); (case z54 => kernel_rfl); (case z55 => exact fun _ _ _ h => h); (case z56 => refine Or.inl ⟨rfl, ?_⟩; intro w hSw; (try dsimp only at hSw); go_simp; try with_reducible rfl); (case z58 => assumption); try simp only [Act.put, List.getElem_toArray, List.getElem_cons_zero, List.getElem_cons_succ, List.setIfInBounds_toArray, List.set_cons_zero, List.set_cons_succ])
                    (refine wpAnyH_take (i := 5) (oi := ?z6o) (v := ?z6v) ?z61 ?z62 ?z63 ?z64 ?z65 ?z66 ?z68 ?_; (case z61 => rfl); (case z62 => kernel_rfl); (case z63 => kernel_rfl); (case z64 => kernel_rfl); (case z65 => exact fun _ _ _ h => h); (case z66 => refine Or.inl ⟨rfl, ?_⟩; intro w hSw; (try dsimp only at hSw); go_simp; try with_reducible rfl); (case z68 => assumption); try simp only [Act.put, List.getElem_toArray, List.getElem_cons_zero, List.getElem_cons_succ, List.setIfInBounds_toArray, List.set_cons_zero, List.set_cons_succ])
                    (refine wpAnyH_take (i := 6) (oi := ?z7o) (v := ?z7v) ?z71 ?z72 ?z73 ?z74 ?z75 ?z76 ?z78 ?_; (case z71 => rfl); (case z72 => kernel_rfl); (case z73 => kernel_rfl); (case z74 => kernel_rfl); (case z75 => exact fun _ _ _ h => h); (case z76 => refine Or.inl ⟨rfl, ?_⟩; intro w hSw; (try dsimp only at hSw); go_simp; try with_reducible rfl); (case z78 => assumption); try simp only [Act.put, List.getElem_toArray, List.getElem_cons_zero, List.getElem_cons_succ, List.setIfInBounds_toArray, List.set_cons_zero, List.set_cons_succ])
                    (refine wpAnyH_take (i := 7) (oi := ?z8o) (v := ?z8v) ?z81 ?z82 ?z83 ?z84 ?z85 ?z86 ?z88 ?_; (case z81 => rfl); (case z82 => kernel_rfl); (case z83 => kernel_rfl); (case z84 => kernel_rfl); (case z85 => exact fun _ _ _ h => h); (case z86 => refine Or.inl ⟨rfl, ?_⟩; intro w hSw; (try dsimp only at hSw); go_simp; try with_reducible rfl); (case z88 => assumption); try simp only [Act.put, List.getElem_toArray, List.getElem_cons_zero, List.getElem_cons_succ, List.setIfInBounds_toArray, List.set_cons_zero, List.set_cons_succ])
                    (refine wpAnyH_take (i := 8) (oi := ?z9o) (v := ?z9v) ?z91 ?z92 ?z93 ?z94 ?z95 ?z96 ?z98 ?_; (case z91 => rfl); (case z92 => kernel_rfl); (case z93 => kernel_rfl); (case z94 => kernel_rfl); (case z95 => exact fun _ _ _ h => h); (case z96 => refine Or.inl ⟨rfl, ?_⟩; intro w hSw; (try dsimp only at hSw); go_simp; try with_reducible rfl); (case z98 => assumption); try simp only [Act.put, List.getElem_toArray, List.getElem_cons_zero, List.getElem_cons_succ, List.setIfInBounds_toArray, List.set_cons_zero, List.set_cons_succ])
                    (refine wpAnyH_take (i := 9) (oi := ?z10o) (v := ?z10v) ?z101 ?z102 ?z103 ?z104 ?z105 ?z106 ?z108 ?_; (case z101 => rfl); (case z102 => kernel_rfl); (case z103 => kernel_rfl); (case z104 => kernel_rfl); (case z105 => exact fun _ _ _ h => h); (case z106 => refine Or.inl ⟨rfl, ?_⟩; intro w hSw; (try dsimp only at hSw); go_simp; try with_reducible rfl); (case z108 => assumption); try simp only [Act.put, List.getElem_toArray, List.getElem_cons_zero, List.getElem_cons_succ, List.setIfInBounds_toArray, List.set_cons_zero, List.set_cons_succ])
                    refine wpAnyH_ready (rs := [10]) (by kernel_rfl) (by simp) ?_
                    refine AllReadyH.cons rfl (fun K hK => ?_) AllReadyH.nil
                    go_simp
                    refine (below_any y z _).mono ?_
                    rintro e1 w11 ⟨rfl, hb11⟩
                    rw [HB2.out]
                    have hB11 := hBr.drew.trans (hb11.mono hBr.size)
                    have hat11 := hat.below hB11 hb
                    go_wp2_with fail
                    refine hK.out _ _ ?_ (fun hHeld2 => ?_)
                    · exact ⟨evAt_get hat11 HY.out, evAt_get hat11 HZ.out⟩
                    clear hK K hHeld
                    try simp only [Act.put, List.setIfInBounds_toArray, List.set_cons_zero, List.set_cons_succ]
                    (refine wpAnyH_take (i := 11) (oi := ?z11o) (v := ?z11v) ?z111 ?z112 ?z113 ?z114 ?z115 ?z116 ?z118 ?_; (case z111 => rfl); (case z112 => kernel_rfl); (case z113 => kernel_rfl); (case z114 => kernel_rfl); (case z115 => exact fun _ _ _ h => h); (case z116 => refine Or.inl ⟨rfl, ?_⟩; intro w hSw; (try dsimp only at hSw); go_simp; try with_reducible rfl); (case z118 => assumption); try simp only [Act.put, List.getElem_toArray, List.getElem_cons_zero, List.getElem_cons_succ, List.setIfInBounds_toArray, List.set_cons_zero, List.set_cons_succ])
                    (refine wpAnyH_take (i := 12) (oi := ?z12o) (v := ?z12v) ?z121 ?z122 ?z123 ?z124 ?z125 ?z126 ?z128 ?_; (case z121 => rfl); (case z122 => kernel_rfl); (case z123 => kernel_rfl); (case z124 => kernel_rfl); (case z125 => exact fun _ _ _ h => h); (case z126 => refine Or.inl ⟨rfl, ?_⟩; intro w hSw; (try dsimp only at hSw); go_simp; try with_reducible rfl); (case z128 => assumption); try simp only [Act.put, List.getElem_toArray, List.getElem_cons_zero, List.getElem_cons_succ, List.setIfInBounds_toArray, List.set_cons_zero, List.set_cons_succ])
                    (refine wpAnyH_take (i := 13) (oi := ?z13o) (v := undef) ?z131 ?z132 ?z133 ?z134 ?z135 ?z136 ?z138 ?_; (case z131 => rfl); (case z132 => kernel_rfl); (case z133 => kernel_rfl); (case z134 => kernel_rfl); (case z135 => exact fun _ _ _ h => h); (case z136 => exact Or.inr ⟨rfl, rfl⟩); (case z138 => assumption); try simp only [Act.put, List.getElem_toArray, List.getElem_cons_zero, List.getElem_cons_succ, List.setIfInBounds_toArray, List.set_cons_zero, List.set_cons_succ])
                    (refine wpAnyH_take (i := 14) (oi := ?z14o) (v := undef) ?z141 ?z142 ?z143 ?z144 ?z145 ?z146 ?z148 ?_; (case z141 => rfl); (case z142 => kernel_rfl); (case z143 => kernel_rfl); (case z144 => kernel_rfl); (case z145 => exact fun _ _ _ h => h); (case z146 => exact Or.inr ⟨rfl, rfl⟩); (case z148 => assumption); try simp only [Act.put, List.getElem_toArray, List.getElem_cons_zero, List.getElem_cons_succ, List.setIfInBounds_toArray, List.set_cons_zero, List.set_cons_succ])
                    (refine wpAnyH_take (i := 15) (oi := ?z15o) (v := undef) ?z151 ?z152 ?z153 ?z154 ?z155 ?z156 ?z158 ?_; (case z151 => rfl); (case z152 => kernel_rfl); (case z153 => kernel_rfl); (case z154 => kernel_rfl); (case z155 => exact fun _ _ _ h => h); (case z156 => exact Or.inr ⟨rfl, rfl⟩); (case z158 => assumption); try simp only [Act.put, List.getElem_toArray, List.getElem_cons_zero, List.getElem_cons_succ, List.setIfInBounds_toArray, List.set_cons_zero, List.set_cons_succ])
                    (refine wpAnyH_take (i := 16) (oi := ?z16o) (v := undef) ?z161 ?z162 ?z163 ?z164 ?z165 ?z166 ?z168 ?_; (case z161 => rfl); (case z162 => kernel_rfl); (case z163 => kernel_rfl); (case z164 => kernel_rfl); (case z165 => exact fun _ _ _ h => h); (case z166 => exact Or.inr ⟨rfl, rfl⟩); (case z168 => assumption); try simp only [Act.put, List.getElem_toArray, List.getElem_cons_zero, List.getElem_cons_succ, List.setIfInBounds_toArray, List.set_cons_zero, List.set_cons_succ])
                    (refine wpAnyH_take (i := 17) (oi := ?z17o) (v := undef) ?z171 ?z172 ?z173 ?z174 ?z175 ?z176 ?z178 ?_; (case z171 => rfl); (case z172 => kernel_rfl); (case z173 => kernel_rfl); (case z174 => kernel_rfl); (case z175 => exact fun _ _ _ h => h); (case z176 => exact Or.inr ⟨rfl, rfl⟩); (case z178 => assumption); try simp only [Act.put, List.getElem_toArray, List.getElem_cons_zero, List.getElem_cons_succ, List.setIfInBounds_toArray, List.set_cons_zero, List.set_cons_succ])
                    (refine wpAnyH_take (i := 18) (oi := ?z18o) (v := undef) ?z181 ?z182 ?z183 ?z184 ?z185 ?z186 ?z188 ?_; (case z181 => rfl); (case z182 => kernel_rfl); (case z183 => kernel_rfl); (case z184 => kernel_rfl); (case z185 => exact fun _ _ _ h => h); (case z186 => exact Or.inr ⟨rfl, rfl⟩); (case z188 => assumption); try simp only [Act.put, List.getElem_toArray, List.getElem_cons_zero, List.getElem_cons_succ, List.setIfInBounds_toArray, List.set_cons_zero, List.set_cons_succ])
                    (refine wpAnyH_take (i := 19) (oi := ?z19o) (v := undef) ?z191 ?z192 ?z193 ?z194 ?z195 ?z196 ?z198 ?_; (case z191 => rfl); (case z192 => kernel_rfl); (case z193 => kernel_rfl); (case z194 => kernel_rfl); (case z195 => exact fun _ _ _ h => h); (case z196 => exact Or.inr ⟨rfl, rfl⟩); (case z198 => assumption); try simp only [Act.put, List.getElem_toArray, List.getElem_cons_zero, List.getElem_cons_succ, List.setIfInBounds_toArray, List.set_cons_zero, List.set_cons_succ])
                    (refine wpAnyH_take (i := 20) (oi := ?z20o) (v := undef) ?z201 ?z202 ?z203 ?z204 ?z205 ?z206 ?z208 ?_; (case z201 => rfl); (case z202 => kernel_rfl); (case z203 => kernel_rfl); (case z204 => kernel_rfl); (case z205 => exact fun _ _ _ h => h); (case z206 => exact Or.inr ⟨rfl, rfl⟩); (case z208 => assumption); try simp only [Act.put, List.getElem_toArray, List.getElem_cons_zero, List.getElem_cons_succ, List.setIfInBounds_toArray, List.set_cons_zero, List.set_cons_succ])
                    (refine wpAnyH_take (i := 21) (oi := ?z21o) (v := undef) ?z211 ?z212 ?z213 ?z214 ?z215 ?z216 ?z218 ?_; (case z211 => rfl); (case z212 => kernel_rfl); (case z213 => kernel_rfl); (case z214 => kernel_rfl); (case z215 => exact fun _ _ _ h => h); (case z216 => exact Or.inr ⟨rfl, rfl⟩); (case z218 => assumption); try simp only [Act.put, List.getElem_toArray, List.getElem_cons_zero, List.getElem_cons_succ, List.setIfInBounds_toArray, List.set_cons_zero, List.set_cons_succ])
                    (refine wpAnyH_take (i := 22) (oi := ?z22o) (v := undef) ?z221 ?z222 ?z223 ?z224 ?z225 ?z226 ?z228 ?_; (case z221 => rfl); (case z222 => kernel_rfl); (case z223 => kernel_rfl); (case z224 => kernel_rfl); (case z225 => exact fun _ _ _ h => h); (case z226 => exact Or.inr ⟨rfl, rfl⟩); (case z228 => assumption); try simp only [Act.put, List.getElem_toArray, List.getElem_cons_zero, List.getElem_cons_succ, List.setIfInBounds_toArray, List.set_cons_zero, List.set_cons_succ])
                    (refine wpAnyH_take (i := 23) (oi := ?z23o) (v := ?z23v) ?z231 ?z232 ?z233 ?z234 ?z235 ?z236 ?z238 ?_; (case z231 => rfl); (case z232 => kernel_rfl); (case z233 => kernel_rfl); (case z234 => kernel_rfl); (case z235 => exact fun _ _ _ h => h); (case z236 => refine Or.inl ⟨rfl, ?_⟩; intro w hSw; (try dsimp only at hSw); go_simp; try with_reducible rfl); (case z238 => assumption); try simp only [Act.put, List.getElem_toArray, List.getElem_cons_zero, List.getElem_cons_succ, List.setIfInBounds_toArray, List.set_cons_zero, List.set_cons_succ])
                    refine wpAnyH_done (by kernel_rfl) ?_ _
                    go_wp2
                    go_roundg h
                    case measure => omega
                    case rel => exact ⟨j + 1, by omega, by omega, by go_num, hB11⟩
                · go_wp2
                  go_roundg g
                  case measure => omega
                  case rel => exact ⟨k + 1, by omega, by omega, by go_num, hBr⟩
          | false =>
            clear hup
            generalize hasB x.c y.r y.n = dn
            go_wp2
            go_quiet (fail)
            have hB7 := bdN hB6 nq
            have hat7 := hat.below hB7 hb
            clear c0 c7 d0 d7 hat6 hB6 hblt
            generalize w6.drewN nq = w7 at *
            obtain ⟨c0, -, -, -, -, -, -, c7, -⟩ := evAt_get hat7 HX.out
            obtain ⟨d0, -, -, -, -, -, -, d7, -⟩ := evAt_get hat7 HY.out
            have hblt : b < w7.heap.size := Nat.lt_of_lt_of_le hb hB7.size
            have hsz7 := hB7.size
            go_wp2
            go_region
            all_goals go_wp2
            go_region
            all_goals go_wp2
            have hB8 := ((hB7.alloc hsz7 (Obj.cells #[.int .i64 x.h, .int .i64 x.r] 58)).alloc (by simp; omega) (Obj.cells #[.int .i64 y.h, .int .i64 y.r] 58)).drew.drew
            have bA := (((blk_new w7 [.int .i64 x.h, .int .i64 x.r] 58).alloc (Obj.cells #[.int .i64 y.h, .int .i64 y.r] 58)).drew).drew
            have bB := ((blk_at (w := w7.alloc (Obj.cells #[.int .i64 x.h, .int .i64 x.r] 58)) (b := w7.heap.size + 1) (by simp) [.int .i64 y.h, .int .i64 y.r] 58).drew).drew
            clear c0 c7 d0 d7 hat7 hblt
            generalize (((w7.alloc (Obj.cells #[.int .i64 x.h, .int .i64 x.r] 58)).alloc (Obj.cells #[.int .i64 y.h, .int .i64 y.r] 58)).drew).drew = w8 at *
            go_cut [96] from 22 to 126 (fun s96 wx => s96 = .bool false ∧ Below w2.heap.size w2 wx)
            case first =>
              by_cases hik : i = k
              · have hbk : ((i : Int) != (k : Int)) = false := by simp; omega
                have hbk2 : (i != k) = false := by simp; omega
                go_quiet (fail)
                go_wp2_with fail
                go_meet
                exact ⟨rfl, bdN hB8 _⟩
              · have hbk : ((i : Int) != (k : Int)) = true := by simp; omega
                have hbk2 : (i != k) = true := by simp; omega
                rcases stamps_ne HP.out HXM.out HYM.out (fun hc => hik ((nodup_idx HP.out.nodup HX.out HY.out).1 hc)) with ⟨h1, h2⟩ | ⟨h1, h2⟩
                all_goals have HAB := Lib.hid h1
                all_goals have HBA := Lib.hid h2
                all_goals clear h1 h2
                all_goals first | (go_region_held3 (fun w' => (blk w' w7.heap.size [.int .i64 x.h, .int .i64 x.r] 58 ∧ ∀ o, w'.cell? ⟨w7.heap.size, o, none⟩ = ([.int .i64 x.h, .int .i64 x.r] : List Value)[o]?) ∧ (blk w' (w7.heap.size + 1) [.int .i64 y.h, .int .i64 y.r] 58 ∧ ∀ o, w'.cell? ⟨w7.heap.size + 1, o, none⟩ = ([.int .i64 y.h, .int .i64 y.r] : List Value)[o]?) ∧ Below w8.heap.size w8 w')
                  (first | exact ⟨⟨bA, bA.cell⟩, ⟨bB, bB.cell⟩, (Below.refl _ _).drew⟩ | assumption | (go_split_ands; exact ⟨o_be (by assumption) hb9, o_be (by assumption) hb9, Below.trans (by assumption) (hb9.mono (o_bsz (by assumption)))⟩))
                  (first | (go_at_call 40; ((with_reducible refine (less_any ⟨x.h, x.r⟩ ⟨y.h, y.r⟩ _).mono ?_); rintro e9 w9 ⟨rfl, hb9⟩; rw [HAB.out])) | (go_at_call 40; ((with_reducible refine (less_any ⟨y.h, y.r⟩ ⟨x.h, x.r⟩ _).mono ?_); rintro e9 w9 ⟨rfl, hb9⟩; rw [HBA.out])))) | fail
                all_goals go_wp2_with fail
                all_goals go_meet
                all_goals exact ⟨rfl, by go_split_ands; exact hB8.trans (Below.mono (by assumption) hB8.size)⟩
            case rest =>
              obtain ⟨rfl, hB9⟩ := hcut
              clear hB8 bA bB hB7
              go_wp2
              go_loopg [11] (n + 1) (fun h v11 wr => ∃ j : Nat, j ≤ n ∧ n - j + 1 ≤ h ∧ v11 = .int .i64 j ∧ Below w2.heap.size w2 wr)
              case atStart => exact ⟨0, by omega, by omega, rfl, hB9⟩
              case round =>
                obtain ⟨j, hj, hgj, rfl, hBr⟩ := hrel
                obtain ⟨h, rfl⟩ : ∃ h, gk = h + 1 := ⟨gk - 1, by omega⟩
                by_cases hltj : j < n
                · obtain ⟨z, hz⟩ : ∃ z, p[j]? = some z := ⟨_, List.getElem?_eq_getElem (by rw [HN.out]; exact hltj)⟩
                  have HZ := Lib.hid hz
                  have HZM := Lib.hid (List.mem_of_getElem? hz)
                  have hatr := hat.below hBr hb
                  have hj0 : (0 : Int) ≤ (j : Int) := by omega
                  have hj1 : (j : Int) < (n : Int) := by omega
                  clear hz
                  go_wp2
                  go_quiet (fail)
                  go_wp2
                  go_roundg h
                  case measure => omega
                  case rel => exact ⟨j + 1, by omega, by omega, by go_num, bdN hBr _⟩
                · go_wp2
                  go_roundg g
                  case measure => omega
                  case rel => exact ⟨k + 1, by omega, by omega, by go_num, hBr⟩
        · go_wp2
          go_roundg f
          case measure => omega
          case rel => exact ⟨i + 1, by omega, by omega, by go_num, hBr⟩
    · go_wp2
      go_ret
      exact ⟨rfl, hB2.trans (hBr.mono hB2.size)⟩
end Go.Proofs.Ytlfhjlkhhaoicaa
