/- The walk of kithlaw12.ReadyClosed. -/
import Derived.Test.YtlfhjlkhhaoicaaL12
import Derived.Test.YtlfhjlkhhaoicaaDrainL
namespace Go.Proofs.Ytlfhjlkhhaoicaa
set_option linter.unusedVariables false
set_option linter.unusedSimpArgs false
open Go.RowKit
attribute [local go_sem] ck_get ck_get? q_le0 q_le1 q_le2 q_le3 q_le4 q_le5 q_lt1 q_lt2 q_lt3 q_lt4 q_lt5
attribute [local go_sem high] eqCk eqMk eqEv

theorem cnt_take {d : List Ev} {j : Nat} {x : Ev} (h : d[j]? = some x) (m : Mk) : cntD (d.take (j + 1)) m = cntD (d.take j) m + if x.mk' = m then 1 else 0 := by
  unfold cntD
  rw [List.take_add_one, h, Option.toList_some, List.countP_append, List.countP_singleton]
  by_cases e : x.mk' = m <;> simp [e]
theorem mk_eq {x y : Ev} : x.mk' = y.mk' ↔ x.r = y.r ∧ x.n = y.n := by
  simp [Ev.mk']
theorem cnt_le (d : List Ev) (m : Mk) : cntD d m ≤ d.length := List.countP_le_length

set_option maxRecDepth 100000 in
set_option maxHeartbeats 4000000 in
theorem readyClosed_any (c : Ck) (hw : ckWf c) (A : Option Addr) (ca : Nat) (l : List Ev) (w : World) (hl : evs w A l) (hc : l.length ≤ ca) (hm : ca ≤ maxLen) :
    Calls Try.prog 3 #[.agg #[.int .i64 c.x0, .int .i64 c.x1, .int .i64 c.x2, .int .i64 c.x3, .int .i64 c.x4], .slice A l.length ca] w fun e w' => e = .returned (.bool true) ∧ Below w.heap.size w w' := by
  have hlW := hl.take 40
  have hWn : min l.length 40 = (l.take 40).length := by rw [List.length_take]; omega
  have hW40 : (l.take 40).length ≤ 40 := by rw [List.length_take]; omega
  have hcl := drain_closed c hw (l.take 40)
  generalize l.take 40 = W at *
  have HWN := Lib.hid hWn
  have HC := Lib.hid hcl
  clear hWn hcl hl
  go_enter Try.func3, Try.ntmps3
  go_wp2_with fail
  refine (shown12_any _).mono ?_
  rintro e w1 ⟨rfl, hb1⟩
  have kc := ((blk_new w [Value.int .i64 c.x0, Value.int .i64 c.x1, Value.int .i64 c.x2, Value.int .i64 c.x3, Value.int .i64 c.x4] 23).below hb1 (by simp))
  have hB1 := ((Below.refl w.heap.size w).alloc (Nat.le_refl _) (Obj.cells #[Value.int .i64 c.x0, Value.int .i64 c.x1, Value.int .i64 c.x2, Value.int .i64 c.x3, Value.int .i64 c.x4] 23)).trans (hb1.mono (by simp))
  have hlW1 := hlW.below hB1 (Nat.le_refl _)
  have k0 := kc.cell
  clear hb1 hlW
  go_wp2_with fail
  refine (few12_any _ _ _ _ hc hm).mono ?_
  rintro e w1' ⟨rfl, rfl⟩
  rw [HWN.out]
  go_wp2_with fail
  refine (drain_any c _ _ W _ hlW1 (by omega)).mono ?_
  rintro e w2 ⟨v1, v2, rfl, h1, h2, hb2⟩
  have hCl := HC.out
  generalize hdr : drain c W = dr at *
  obtain ⟨a, b, n⟩ := dr
  simp only at h1 h2 hCl ⊢
  have HC' := Lib.hid hCl
  clear hCl HC hdr
  obtain ⟨A1, p1, rfl, hr1, _, hs1⟩ := h1.form
  obtain ⟨A2, p2, rfl, hr2, _, hs2⟩ := h2.form
  have kc2 := kc.below hb2 kc.lt
  have hlW2 := hlW1.below hb2 (Nat.le_refl _)
  have hB2 := hB1.trans (hb2.mono hB1.size)
  clear hb2 hlW1 hB1 kc k0 h1 h2
  go_wp2_with fail
  refine (drain_any n _ _ b _ (hr2.below (Below.alloc (Below.refl _ _) (Nat.le_refl _) _) (Nat.le_refl _)) ?c1).mono ?_
  case c1 => have := HC'.out.len; omega
  rintro e w3 ⟨v3, v4, rfl, h3, h4, hb3⟩
  rw [HC'.out.again] at h3 h4 ⊢
  simp only at h3 h4 ⊢
  obtain ⟨A3, p3, rfl, hr3, _, hs3⟩ := h3.form
  obtain ⟨A4, p4, rfl, hr4, _, hs4⟩ := h4.form
  have hx := Below.alloc (Below.refl w2.heap.size w2) (Nat.le_refl _) (Obj.cells #[Value.int .i64 n.x0, Value.int .i64 n.x1, Value.int .i64 n.x2, Value.int .i64 n.x3, Value.int .i64 n.x4] 23)
  have hx3 := hx.trans (hb3.mono (by simp))
  have kc3 := kc2.below hx3 kc2.lt
  have kn3 := (blk_new w2 [Value.int .i64 n.x0, Value.int .i64 n.x1, Value.int .i64 n.x2, Value.int .i64 n.x3, Value.int .i64 n.x4] 23).below hb3 (by simp)
  have hlW3 := hlW2.below hx3 (Nat.le_refl _)
  have ha3 := hr1.below hx3 (Nat.le_refl _)
  have hb3' := hr2.below hx3 (Nat.le_refl _)
  have hB3 := hB2.trans (hx3.mono hB2.size)
  have ha3l : a.length + b.length ≤ 40 := by have := HC'.out.len; omega
  have hbl : ((a.length : Int) + b.length > W.length) = False := by have := HC'.out.len; simp; omega
  clear hb3 hx hx3 kc2 hlW2 hr1 hr2 hB2 h3 h4 hr3
  go_wp2_with fail
  have hy := Below.alloc (Below.refl w3.heap.size w3) (Nat.le_refl _) (Obj.cells #[Value.int .i64 n.x0, Value.int .i64 n.x1, Value.int .i64 n.x2, Value.int .i64 n.x3, Value.int .i64 n.x4] 23)
  refine (same_any A4 A2 p4 p2 b b _ (hr4.below hy (Nat.le_refl _)) (hb3'.below hy (Nat.le_refl _)) (by unfold maxLen; omega)).mono ?_
  rintro e wS ⟨rfl, hb4⟩
  have hy4 := hy.trans (hb4.mono (by simp))
  have kc := kc3.below hy4 kc3.lt
  have kn := kn3.below hy4 kn3.lt
  have kn2 := (blk_new w3 [Value.int .i64 n.x0, Value.int .i64 n.x1, Value.int .i64 n.x2, Value.int .i64 n.x3, Value.int .i64 n.x4] 23).below hb4 (by simp)
  have hlW := hlW3.below hy4 (Nat.le_refl _)
  have ha := ha3.below hy4 (Nat.le_refl _)
  have hb := hb3'.below hy4 (Nat.le_refl _)
  have hB := hB3.trans (hy4.mono hB3.size)
  have k0 := kc.cell; have k1 := kn.cell; have k2 := kn2.cell
  have hsame : sameB b b = true := decide_eq_true rfl
  rw [hsame]
  clear hb4 hy hy4 kc3 kn3 hlW3 ha3 hb3' hB3 hr4 hsame
  go_wp2_with fail
  go_loopg [13] (W.length + 1) (fun f v13 wr => ∃ k : Nat, k ≤ W.length ∧ W.length - k + 1 ≤ f ∧ v13 = .int .i64 k ∧ Below wS.heap.size wS wr)
  case atStart => exact ⟨0, by omega, by omega, rfl, Below.refl _ _⟩
  case round =>
    obtain ⟨k, hk, hfk, rfl, hBr⟩ := hrel
    obtain ⟨f, rfl⟩ : ∃ f, gk = f + 1 := ⟨gk - 1, by omega⟩
    by_cases hlt : k < W.length
    ·
      obtain ⟨e, hex⟩ : ∃ e, W[k]? = some e := ⟨_, List.getElem?_eq_getElem hlt⟩
      have HEX := Lib.hid hex
      go_wp2
      go_loopg [14, 15] (a.length + 1) (fun f v14 v15 wr => ∃ j : Nat, j ≤ a.length ∧ a.length - j + 1 ≤ f ∧ v15 = .int .i64 j ∧ v14 = .int .i64 ((cntD (a.take j) e.mk' : Nat) : Int) ∧ Below wS.heap.size wS wr)
      case atStart => exact ⟨0, by omega, by omega, rfl, rfl, hBr⟩
      case round =>
        clear hBr
        obtain ⟨j, hj, hfj, rfl, rfl, hBr⟩ := hrel
        obtain ⟨g, rfl⟩ : ∃ g, gk = g + 1 := ⟨gk - 1, by omega⟩
        have hcb : (cntD (a.take j) e.mk' : Nat) ≤ 80 := by have := cnt_le (a.take j) e.mk'; have := List.length_take_le j a; omega
        by_cases hjn : j < a.length
        ·
          obtain ⟨x, hx⟩ : ∃ x, a[j]? = some x := ⟨_, List.getElem?_eq_getElem hjn⟩
          obtain ⟨b1, o1, rfl, hb1, hat1⟩ := ha.get hx
          obtain ⟨b2, o2, rfl, hb2, hat2⟩ := hlW.get hex
          have hx1 := evAt_get (hat1.below hBr hb1) hx
          have hx2 := evAt_get (hat2.below hBr hb2) hex
          obtain ⟨c0, c1, -⟩ := hx1
          obtain ⟨d0, d1, -⟩ := hx2
          have HX := Lib.hid (cnt_take hx e.mk')
          clear hx hat1 hat2
          by_cases hr : x.r = e.r
          · have hrb : (x.r == e.r) = true := beq_iff_eq.2 hr
            by_cases hn : x.n = e.n
            · have hnb : (x.n == e.n) = true := beq_iff_eq.2 hn
              have HM := Lib.hid (mk_eq.2 ⟨hr, hn⟩)
              clear hr hn
              go_wp2
              go_quiet (fail)
              go_wp2
              go_roundg g
              case measure => omega
              case rel =>
                have h1 := HX.out
                rw [if_pos HM.out] at h1
                exact ⟨j + 1, by omega, by omega, by go_num, by rw [h1]; go_num, bdN hBr _⟩
            · have hnb : (x.n == e.n) = false := beq_eq_false_iff_ne.2 hn
              have HM := Lib.hid (fun hc => hn (mk_eq.1 hc).2 : ¬ x.mk' = e.mk')
              clear hr hn
              go_wp2
              go_quiet (fail)
              go_wp2
              go_roundg g
              case measure => omega
              case rel =>
                have h1 := HX.out
                rw [if_neg HM.out] at h1
                exact ⟨j + 1, by omega, by omega, by go_num, by rw [h1]; go_num, bdN hBr _⟩
          · have hrb : (x.r == e.r) = false := beq_eq_false_iff_ne.2 hr
            have HM := Lib.hid (fun hc => hr (mk_eq.1 hc).1 : ¬ x.mk' = e.mk')
            clear hr
            go_wp2
            go_quiet (fail)
            go_wp2
            go_roundg g
            case measure => omega
            case rel =>
              have h1 := HX.out
              rw [if_neg HM.out] at h1
              exact ⟨j + 1, by omega, by omega, by go_num, by rw [h1]; go_num, bdN hBr _⟩
        · obtain rfl : j = a.length := by omega
          rw [List.take_length]
          go_wp2
          go_loopg [14, 16] (b.length + 1) (fun f v14 v15 wr => ∃ j : Nat, j ≤ b.length ∧ b.length - j + 1 ≤ f ∧ v15 = .int .i64 j ∧ v14 = .int .i64 ((cntD a e.mk' + cntD (b.take j) e.mk' : Nat) : Int) ∧ Below wS.heap.size wS wr)
          case atStart => exact ⟨0, by omega, by omega, rfl, rfl, hBr⟩
          case round =>
            clear hBr
            obtain ⟨j, hj, hfj, rfl, rfl, hBr⟩ := hrel
            obtain ⟨g, rfl⟩ : ∃ g, gk = g + 1 := ⟨gk - 1, by omega⟩
            have hcb : (cntD a e.mk' + cntD (b.take j) e.mk' : Nat) ≤ 80 := by have := cnt_le (b.take j) e.mk'; have := List.length_take_le j b; have := cnt_le a e.mk'; omega
            by_cases hjn : j < b.length
            ·
              obtain ⟨x, hx⟩ : ∃ x, b[j]? = some x := ⟨_, List.getElem?_eq_getElem hjn⟩
              obtain ⟨b1, o1, rfl, hb1, hat1⟩ := hb.get hx
              obtain ⟨b2, o2, rfl, hb2, hat2⟩ := hlW.get hex
              have hx1 := evAt_get (hat1.below hBr hb1) hx
              have hx2 := evAt_get (hat2.below hBr hb2) hex
              obtain ⟨c0, c1, -⟩ := hx1
              obtain ⟨d0, d1, -⟩ := hx2
              have HX := Lib.hid (cnt_take hx e.mk')
              clear hx hat1 hat2
              by_cases hr : x.r = e.r
              · have hrb : (x.r == e.r) = true := beq_iff_eq.2 hr
                by_cases hn : x.n = e.n
                · have hnb : (x.n == e.n) = true := beq_iff_eq.2 hn
                  have HM := Lib.hid (mk_eq.2 ⟨hr, hn⟩)
                  clear hr hn
                  go_wp2
                  go_quiet (fail)
                  go_wp2
                  go_roundg g
                  case measure => omega
                  case rel =>
                    have h1 := HX.out
                    rw [if_pos HM.out] at h1
                    exact ⟨j + 1, by omega, by omega, by go_num, by rw [h1]; go_num, bdN hBr _⟩
                · have hnb : (x.n == e.n) = false := beq_eq_false_iff_ne.2 hn
                  have HM := Lib.hid (fun hc => hn (mk_eq.1 hc).2 : ¬ x.mk' = e.mk')
                  clear hr hn
                  go_wp2
                  go_quiet (fail)
                  go_wp2
                  go_roundg g
                  case measure => omega
                  case rel =>
                    have h1 := HX.out
                    rw [if_neg HM.out] at h1
                    exact ⟨j + 1, by omega, by omega, by go_num, by rw [h1]; go_num, bdN hBr _⟩
              · have hrb : (x.r == e.r) = false := beq_eq_false_iff_ne.2 hr
                have HM := Lib.hid (fun hc => hr (mk_eq.1 hc).1 : ¬ x.mk' = e.mk')
                clear hr
                go_wp2
                go_quiet (fail)
                go_wp2
                go_roundg g
                case measure => omega
                case rel =>
                  have h1 := HX.out
                  rw [if_neg HM.out] at h1
                  exact ⟨j + 1, by omega, by omega, by go_num, by rw [h1]; go_num, bdN hBr _⟩
            · obtain rfl : j = b.length := by omega
              rw [List.take_length]
              have kcr := (kc.below hBr kc.lt).cell
              obtain ⟨b2, o2, rfl, hb2, hat2⟩ := hlW.get hex
              have hat2r := hat2.below hBr hb2
              obtain ⟨d0, d1, -⟩ := evAt_get hat2r hex
              have hltr := (kc.below hBr kc.lt).lt
              have hsz := hBr.size
              have hmem := List.mem_of_getElem? hex
              cases hhas : hasB c e.r e.n with
              | true =>
                have hcnt := HC'.out.had e hmem hhas
                rw [hcnt]
                have HH := Lib.hid hhas
                clear hhas hmem hcnt hex
                go_wp2
                go_region_held3 (fun w' => (∀ o, w'.cell? ⟨w.heap.size, o, none⟩ = [Value.int .i64 c.x0, Value.int .i64 c.x1, Value.int .i64 c.x2, Value.int .i64 c.x3, Value.int .i64 c.x4][o]?) ∧ w'.cell? ⟨b2, o2 + k * 12, none⟩ = some (.int .i64 e.r) ∧ w'.cell? ⟨b2, o2 + k * 12 + 1, none⟩ = some (.int .i64 e.n) ∧ wr.heap.size ≤ w'.heap.size) (first | exact ⟨kcr, d0, d1, Nat.le_refl _⟩ | exact ⟨((kc.below hBr kc.lt).drew.below hb3 hltr).cell, (hb3.cell (p := ⟨b2, _, none⟩) (by simp; omega)).trans d0, (hb3.cell (p := ⟨b2, _, none⟩) (by simp; omega)).trans d1, hb3.size⟩) (first | (go_at_call 21; refine (refHas_any c e.r e.n _).mono ?_; rintro e3 w5 ⟨rfl, hb3⟩; rw [HH.out]))
                go_wp2
                go_roundg f
                case measure => omega
                case rel => exact ⟨k + 1, by omega, by omega, by go_num, hBr.drew.trans (hb3.mono (by first | omega | (simp; done) | (simp; omega)))⟩
              | false =>
                have hcnt := HC'.out.new e hmem hhas
                rw [hcnt]
                have HH := Lib.hid hhas
                clear hhas hmem hcnt hex
                go_wp2
                go_region_held3 (fun w' => (∀ o, w'.cell? ⟨w.heap.size, o, none⟩ = [Value.int .i64 c.x0, Value.int .i64 c.x1, Value.int .i64 c.x2, Value.int .i64 c.x3, Value.int .i64 c.x4][o]?) ∧ w'.cell? ⟨b2, o2 + k * 12, none⟩ = some (.int .i64 e.r) ∧ w'.cell? ⟨b2, o2 + k * 12 + 1, none⟩ = some (.int .i64 e.n) ∧ wr.heap.size ≤ w'.heap.size) (first | exact ⟨kcr, d0, d1, Nat.le_refl _⟩ | exact ⟨((kc.below hBr kc.lt).drew.below hb3 hltr).cell, (hb3.cell (p := ⟨b2, _, none⟩) (by simp; omega)).trans d0, (hb3.cell (p := ⟨b2, _, none⟩) (by simp; omega)).trans d1, hb3.size⟩) (first | (go_at_call 21; refine (refHas_any c e.r e.n _).mono ?_; rintro e3 w5 ⟨rfl, hb3⟩; rw [HH.out]))
                go_wp2
                go_roundg f
                case measure => omega
                case rel => exact ⟨k + 1, by omega, by omega, by go_num, hBr.drew.trans (hb3.mono (by first | omega | (simp; done) | (simp; omega)))⟩
    · obtain ⟨wT, rfl⟩ : ∃ wT : World, wT = wr := ⟨_, rfl⟩
      have kcT := kc.below hBr kc.lt
      have knT := kn.below hBr kn.lt
      have haT := ha.below hBr (Nat.le_refl _)
      have hBT := hB.trans (hBr.mono hB.size)
      clear hBr k0 k1 k2
      have k0 := kcT.cell; have k1 := knT.cell
      have hdone := HC'.out.done
      have HD := Lib.hid hdone
      clear hdone
      go_wp2
      go_loopg [18] (a.length + 1) (fun f v18 wr => ∃ j : Nat, j ≤ a.length ∧ a.length - j + 1 ≤ f ∧ v18 = .int .i64 j ∧ Below wT.heap.size wT wr)
      case atStart => exact ⟨0, by omega, by omega, rfl, Below.refl _ _⟩
      case round =>
        obtain ⟨j, hj, hfj, rfl, hBr⟩ := hrel
        obtain ⟨g, rfl⟩ : ∃ g, gk = g + 1 := ⟨gk - 1, by omega⟩
        by_cases hjn : j < a.length
        · obtain ⟨e, hex⟩ : ∃ e, a[j]? = some e := ⟨_, List.getElem?_eq_getElem hjn⟩
          have knr := knT.below hBr knT.lt
          have kcr := knr.cell
          obtain ⟨b2, o2, rfl, hb2, hat2⟩ := haT.get hex
          have hat2r := hat2.below hBr hb2
          obtain ⟨d0, d1, -⟩ := evAt_get hat2r hex
          have hltr := knr.lt
          have hsz := hBr.size
          have HH := Lib.hid (HD.out e (List.mem_of_getElem? hex))
          clear hex
          go_wp2
          go_region_held3 (fun w' => (∀ o, w'.cell? ⟨w2.heap.size, o, none⟩ = [Value.int .i64 n.x0, Value.int .i64 n.x1, Value.int .i64 n.x2, Value.int .i64 n.x3, Value.int .i64 n.x4][o]?) ∧ w'.cell? ⟨b2, o2 + j * 12, none⟩ = some (.int .i64 e.r) ∧ w'.cell? ⟨b2, o2 + j * 12 + 1, none⟩ = some (.int .i64 e.n) ∧ wr.heap.size ≤ w'.heap.size) (first | exact ⟨kcr, d0, d1, Nat.le_refl _⟩ | exact ⟨(knr.drew.below hb3 hltr).cell, (hb3.cell (p := ⟨b2, _, none⟩) (by simp; omega)).trans d0, (hb3.cell (p := ⟨b2, _, none⟩) (by simp; omega)).trans d1, hb3.size⟩) (first | (go_at_call 21; refine (refHas_any n e.r e.n _).mono ?_; rintro e3 w5 ⟨rfl, hb3⟩; rw [HH.out]))
          go_wp2
          go_roundg g
          case measure => omega
          case rel => exact ⟨j + 1, by omega, by omega, by go_num, hBr.drew.trans (hb3.mono (by first | omega | (simp; done) | (simp; omega)))⟩
        · have k0r := (kcT.below hBr kcT.lt).cell; have k1r := (knT.below hBr knT.lt).cell
          have hle := Lib.hid HC'.out.le
          go_wp2_with fail
          refine (refLessEq_any c n _).mono ?_
          rintro e w6 ⟨rfl, hb6⟩
          rw [hle.out]
          go_wp2
          go_ret
          exact ⟨rfl, (hBT.trans (hBr.mono hBT.size)).trans (hb6.mono (by have := hBT.size; have := hBr.size; omega))⟩
end Go.Proofs.Ytlfhjlkhhaoicaa
