/- The walk of kithlaw08.PastMade. -/
import Derived.Test.YtlfhjlkhhaoicaaSortZ
import Derived.Test.YtlfhjlkhhaoicaaSpread
namespace Go.Proofs.Ytlfhjlkhhaoicaa
set_option linter.unusedVariables false
set_option linter.unusedSimpArgs false
open Go.RowKit
attribute [local go_sem] ck_get ck_get? q_le0 q_le1 q_le2 q_le3 q_le4 q_le5 q_lt1 q_lt2 q_lt3 q_lt4 q_lt5
attribute [local go_sem high] eqCk eqMk eqEv

theorem nodup_of_mk {p : List Ev} (h : (p.map Ev.mk').Nodup) : p.Nodup := by
  unfold List.Nodup at *
  rw [List.pairwise_map] at h
  exact h.imp fun hn he => hn (by rw [he])
theorem sort_same {p q S S' : List Ev} (hp : Past p) (hq : q.Perm p) (h1 : Sorted p S) (h2 : Sorted q S') : S = S' := by
  have h12 := Stb.of_perm hq.symm (nodup_of_mk hp.nodup) (past_keyed hp)
  have hst : Stb S S' := ⟨h1.stb.perm.symm.trans (h12.perm.trans h2.stb.perm), fun x => (h1.stb.keys x).symm.trans ((h12.keys x).trans (h2.stb.keys x))⟩
  exact hst.uniq h1.srt h2.srt
set_option maxRecDepth 100000 in
set_option maxHeartbeats 4000000 in
theorem pastMade_any (A : Option Addr) (ca : Nat) (l : List Ch) (A1 : Option Addr) (ca1 : Nat) (L : List Nat) (w : World) (hl : chK.row w A l) (hc : l.length ≤ ca) (hm : ca ≤ maxLen) (hwf : ∀ c ∈ l, c.wf) (hl1 : byK.row w A1 L) (hm1 : L.length ≤ maxLen) (hby : ∀ y ∈ L, y ≤ 255) :
    Calls Try.prog 16 #[.slice A l.length ca, .slice A1 L.length ca1] w fun e w' => e = .returned (.bool true) ∧ Below w.heap.size w w' := by
  have H40 := Lib.hid (show min l.length 40 = (l.take 40).length by rw [List.length_take]; omega)
  have HL40 := Lib.hid (show (l.take 40).length ≤ 40 by rw [List.length_take]; omega)
  have HWF := Lib.hid (fun c (h : c ∈ l.take 40) => hwf c ((List.take_sublist _ _).subset h))
  have HBY := Lib.hid hby
  have HM1 := Lib.hid hm1
  have hl4 := hl.take 40
  clear hwf hl hby hm1
  generalize l.take 40 = L4 at *
  go_enter Try.func16, Try.ntmps16
  go_wp2_with fail
  refine (shown08_any _).mono ?_
  rintro e w1 ⟨rfl, hb1⟩
  have hl4' := hl4.below hb1 (Nat.le_refl _)
  go_wp2_with fail
  refine (short08_any A l.length ca _ hc hm).mono ?_
  rintro e w1' ⟨rfl, rfl⟩
  rw [H40.out]
  go_wp2_with fail
  refine (make_any A ca L4 _ hl4' HL40.out HWF.out).mono ?_
  rintro e w2 ⟨v, p, rfl, hP, hp40, hop, hb2⟩
  obtain ⟨A2, c2, rfl, hr2, hcc, hA2⟩ := hop.form
  have hB2 := hb1.trans (hb2.mono hb1.size)
  have HP := Lib.hid hP
  have hla := hl1.below hB2 (Nat.le_refl _)
  have hsp := spread_any A2 c2 p A1 ca1 L _ hr2 hp40 hP hla HM1.out HBY.out
  have HA2 := Lib.hid (fun a ha => (hA2 a ha).2.2)
  clear hP hl4' hl4 hb1 hb2 hop hl1 hla hA2
  generalize hnn : p.length = n at *
  have HN := Lib.hid hnn
  clear hnn
  go_wp2_with fail
  refine hsp.mono ?_
  rintro e w3 ⟨A3, c3, q, rfl, hqp, hqo, hr3, hA3, hb3⟩
  rw [HN.out]
  have hw3 := hr2.below hb3 (Nat.le_refl _)
  have hB3 := hB2.trans (hb3.mono hB2.size)
  have hso := sort_any A2 c2 p (by rw [HN.out]; exact hp40) _ hw3 (fun a ha => Nat.lt_of_lt_of_le (HA2.out a ha) hb3.size)
  rw [HN.out] at hso
  have HQP := Lib.hid hqp
  have HQO := Lib.hid hqo
  have HQL := Lib.hid (show q.length = n by rw [hqp.length_eq, HN.out])
  clear hsp hqp hqo hr2 hB2
  go_wp2_with fail
  refine hso.mono ?_
  rintro e w4 ⟨A4, c4, S, rfl, hS, hr4, hA4, hb4⟩
  rw [HN.out]
  have hrw := hw3.below hb4 (Nat.le_refl _)
  have hrs := hr3.below hb4 (Nat.le_refl _)
  have hB4 := hB3.trans (hb4.mono hB3.size)
  have HS := Lib.hid hS
  have hsp' := hS.stb.perm
  have HSP := Lib.hid hsp'
  have HSL := Lib.hid (show S.length = n by rw [← hsp'.length_eq, HN.out])
  have HAS := Lib.hid (fun wq (hq : Below w4.heap.size w4 wq) a ha => Nat.lt_of_lt_of_le (hA3 a ha) (Nat.le_trans hb4.size hq.size))
  have hRw := fun wq (h : evK.row wq A2 p) => right_any A2 c2 p wq h (by rw [HN.out]; omega) HP.out.evOk
  have hRs := fun wq (h : evK.row wq A3 q) => right_any A3 c3 q wq h (by rw [HQL.out]; omega) (fun e he => HP.out.evOk e (HQP.out.mem_iff.1 he))
  have hRo := fun wq (h : evK.row wq A4 S) => right_any A4 c4 S wq h (by rw [HSL.out]; omega) (fun e he => HP.out.evOk e (HSP.out.mem_iff.2 he))
  have hOw := fun wq (h : evK.row wq A2 p) => ordered_any A2 c2 p wq h (by rw [HN.out]; omega)
  have hOs := fun wq (h : evK.row wq A3 q) => ordered_any A3 c3 q wq h (by rw [HQL.out]; omega)
  have hOo := fun wq (h : evK.row wq A4 S) => ordered_any A4 c4 S wq h (by rw [HSL.out]; omega)
  have hCw := fun wq (h : evK.row wq A2 p) => pclock_any A2 c2 p wq h (by rw [HN.out]; omega)
  have hCs := fun wq (h : evK.row wq A3 q) => pclock_any A3 c3 q wq h (by rw [HQL.out]; omega)
  have hSs := fun wq (h : evK.row wq A3 q) hh => sort_any A3 c3 q (by rw [HQL.out]; exact hp40) wq h hh
  have hMo := fun A5 c5 wq (h : evK.row wq A4 S) (h' : evK.row wq A5 S) => same_any A4 A5 c4 c5 S S wq h h' (by rw [HSL.out]; unfold maxLen; omega)
  simp only [pB_true HP.out.right, HN.out] at hRw
  simp only [pB_true (HP.out.right.perm HQP.out.symm), HQL.out] at hRs
  simp only [pB_true (HP.out.right.perm HSP.out), HSL.out] at hRo
  simp only [pB_true HP.out.ordered, HN.out] at hOw
  simp only [pB_true HQO.out, HQL.out] at hOs
  simp only [pB_true (sorted_ordered HP.out HSP.out.symm HS.out.srt), HSL.out] at hOo
  simp only [HN.out] at hCw
  simp only [HQL.out] at hCs hSs
  simp only [show sameB S S = true from decide_eq_true rfl, HSL.out] at hMo
  have HRW := Lib.hid hRw
  have HRS := Lib.hid hRs
  have HRO := Lib.hid hRo
  have HOW := Lib.hid hOw
  have HOS := Lib.hid hOs
  have HOO := Lib.hid hOo
  have HCW := Lib.hid hCw
  have HCS := Lib.hid hCs
  have HSS := Lib.hid hSs
  have HMO := Lib.hid hMo
  clear hRw hRs hRo hOw hOs hOo hCw hCs hSs hMo hS hsp' hso hA3 hA4 hb3 hb4 hw3 hr3 hB3
  go_wp2_with
    (first
      | (go_at_call 38; (with_reducible refine (HRW.out _ (hrw.below (Below.refl _ _) (Nat.le_refl _))).mono ?_); rintro e5 w5 ⟨rfl, hb5⟩; have hBa : Below w4.heap.size w4 w5 := (Below.refl _ _).trans hb5)
      | (go_at_call 26; (with_reducible refine (HOW.out _ (hrw.below hBa (Nat.le_refl _))).mono ?_); rintro e6 w6 ⟨rfl, hb6⟩; have hBb : Below w4.heap.size w4 w6 := hBa.trans (hb6.mono hBa.size))
      | (go_at_call 38; (with_reducible refine (HRS.out _ (hrs.below hBb (Nat.le_refl _))).mono ?_); rintro e7 w7 ⟨rfl, hb7⟩; have hBc : Below w4.heap.size w4 w7 := hBb.trans (hb7.mono hBb.size))
      | (go_at_call 26; (with_reducible refine (HOS.out _ (hrs.below hBc (Nat.le_refl _))).mono ?_); rintro e8 w8 ⟨rfl, hb8⟩; have hBd : Below w4.heap.size w4 w8 := hBc.trans (hb8.mono hBc.size))
      | (go_at_call 38; (with_reducible refine (HRO.out _ (hr4.below hBd (Nat.le_refl _))).mono ?_); rintro e9 w9 ⟨rfl, hb9⟩; have hBe : Below w4.heap.size w4 w9 := hBd.trans (hb9.mono hBd.size))
      | (go_at_call 26; (with_reducible refine (HOO.out _ (hr4.below hBe (Nat.le_refl _))).mono ?_); rintro e10 w10 ⟨rfl, hb10⟩; have hBf : Below w4.heap.size w4 w10 := hBe.trans (hb10.mono hBe.size))
      | (go_at_call 42; (with_reducible refine (HSS.out _ (hrs.below hBf (Nat.le_refl _)) (HAS.out _ hBf)).mono ?_); rintro e11 w11 ⟨A5, c5, S', rfl, hS', hr5, hA5, hb11⟩; obtain rfl := sort_same HP.out HQP.out HS.out hS'; rw [HQL.out]; have hBg : Below w4.heap.size w4 w11 := hBf.trans (hb11.mono hBf.size); clear hS' hA5)
      | (go_at_call 20; (with_reducible refine (HMO.out _ _ _ (hr4.below hBg (Nat.le_refl _)) hr5).mono ?_); rintro e12 w12 ⟨rfl, hb12⟩; have hBh : Below w4.heap.size w4 w12 := hBg.trans (hb12.mono hBg.size))
      | (go_at_call 25; (with_reducible refine (HCS.out _ (hrs.below hBh (Nat.le_refl _))).mono ?_); rintro e13 w13 ⟨c, rfl, hck, hb13⟩; have HCK := Lib.hid hck; clear hck; have hBi : Below w4.heap.size w4 w13 := hBh.trans (hb13.mono hBh.size))
      | (go_at_call 25; (with_reducible refine (HCW.out _ (hrw.below hBi (Nat.le_refl _))).mono ?_); rintro e14 w14 ⟨c', rfl, hck', hb14⟩; obtain rfl := (HCK.out.mem fun e => HQP.out.mem_iff).uniq hck'; have hBj : Below w4.heap.size w4 w14 := hBi.trans (hb14.mono hBi.size); clear hck'))
  go_ret
  exact ⟨rfl, hB4.trans (hBj.mono hB4.size)⟩
end Go.Proofs.Ytlfhjlkhhaoicaa
