/- The walk of StampMoves. -/
import Derived.Test.YtldlbnigjomjoaaStampOrders
namespace Go.Proofs.Ytldlbnigjomjoaa
set_option linter.unusedVariables false
set_option linter.unusedSimpArgs false
open Go.RowKit
attribute [local go_sem] q_le0 q_le1 q_le2 q_le3 q_lt1 q_lt2 q_lt3
attribute [local go_sem high] eqSt

theorem last_same {l l' : List St} (hm : ∀ x, x ∈ l ↔ x ∈ l') {i j : Nat} (h : LastAt l l.length i) (h' : LastAt l' l'.length j) {e e' : St} (he : l[i]? = some e) (he' : l'[j]? = some e') : e = e' := by
  have h1 : ∀ x ∈ l, lessS e x = false := fun x hx => by
    obtain ⟨k, hk, rfl⟩ := List.mem_iff_getElem.1 hx
    have := h.2.1 k hk
    rwa [getD_of he, getD_of (List.getElem?_eq_getElem hk)] at this
  have h2 : ∀ x ∈ l', lessS e' x = false := fun x hx => by
    obtain ⟨k, hk, rfl⟩ := List.mem_iff_getElem.1 hx
    have := h'.2.1 k hk
    rwa [getD_of he', getD_of (List.getElem?_eq_getElem hk)] at this
  rcases lessS_tot (h1 e' ((hm _).2 (List.mem_of_getElem? he'))) with h3 | h3
  · rw [h2 e ((hm _).1 (List.mem_of_getElem? he))] at h3; cases h3
  · exact h3.symm
theorem last_some {l : List St} (h : l ≠ []) : ∃ (i : Nat) (e : St), lastI l = i ∧ LastAt l l.length i ∧ l[i]? = some e := by
  rcases lastI_at l with ⟨h0, _⟩ | ⟨i, hi, hA⟩
  · exact absurd (List.eq_nil_of_length_eq_zero h0) h
  · exact ⟨i, l[i]'hA.1, hi, hA, List.getElem?_eq_getElem hA.1⟩
theorem take30m (l : List St) : min l.length 30 = (l.take 30).length := by rw [List.length_take]; omega
set_option maxRecDepth 100000 in
set_option maxHeartbeats 1000000 in
theorem stampMoves_any (A : Option Addr) (ca : Nat) (l : List St) (n : Nat) (w : World) (hl : stK.row w A l) (hc : l.length ≤ ca) (hm : ca ≤ maxLen) (hn : n ≤ 255) :
    Calls Try.prog 6 #[.slice A l.length ca, .int .u8 n] w fun e w' => e = .returned (.bool true) ∧ Below w.heap.size w w' := by
  have hL := hl.take 30
  have hT := Lib.hid (take30m l)
  have hL30 : (l.take 30).length ≤ 30 := by rw [List.length_take]; omega
  have hLc : (l.take 30).length ≤ ca := by rw [List.length_take]; omega
  generalize l.take 30 = L at *
  by_cases h0 : L = []
  · subst h0
    have hT' : Hid (min l.length 30 = 0) := hT
    go_enter Try.func6, Try.ntmps6
    go_wp2_with fail
    refine (shown04_any _).mono ?_
    rintro e w1 ⟨rfl, hb1⟩
    go_wp2_with fail
    refine (few04_any _ _ _ _ hc hm).mono ?_
    rintro e w2 ⟨rfl, rfl⟩
    rw [hT'.out]
    go_wp2
    go_ret
    exact ⟨rfl, hb1⟩
  · obtain ⟨b, off, rfl, hbl, hat⟩ : ∃ b off, A = some ⟨b, off, none⟩ ∧ b < w.heap.size ∧ stK.at w b off L := by
      rcases hL with h | h
      · exact absurd h h0
      · exact h
    have hpos : 0 < L.length := List.length_pos_iff.2 h0
    go_enter Try.func6, Try.ntmps6
    go_wp2_with fail
    refine (shown04_any _).mono ?_
    rintro e w1 ⟨rfl, hb1⟩
    go_wp2_with fail
    refine (few04_any _ _ _ _ hc hm).mono ?_
    rintro e w2 ⟨rfl, rfl⟩
    rw [hT.out]
    have hat1 := hat.below hb1 hbl
    obtain ⟨kk, hkk⟩ : ∃ kk, n % L.length = kk := ⟨_, rfl⟩
    have hk : kk < L.length := by rw [← hkk]; exact Nat.mod_lt _ hpos
    have hmod : ((n : Int) % (L.length : Int)) = (kk : Int) := by rw [← hkk]; exact (Int.natCast_emod n L.length).symm
    have HX := Lib.hid (List.length_drop (i := kk) (l := L))
    have HY := Lib.hid (show (L.take kk).length = kk by rw [List.length_take]; omega)
    have hatX : stK.at w1 b (off + kk * 2) (L.drop kk) := fun j x hx i u hu => by
      rw [List.getElem?_drop] at hx
      have := hat1 (kk + j) x hx i u hu
      rw [← this]
      congr 2
      show off + kk * 2 + j * 2 + i = off + (kk + j) * 2 + i
      omega
    have hatY : stK.at w1 b off (L.take kk) := fun j x hx i u hu => hat1 j x (by rw [List.getElem?_take] at hx; split at hx; exact hx; simp at hx) i u hu
    have HXY := Lib.hid (List.take_append_drop kk L)
    generalize L.drop kk = X at *
    generalize L.take kk = Y at *
    clear hkk
    generalize hlen : L.length = nl at *
    have HLEN := Lib.hid hlen
    clear hlen
    have hb1' : b < w1.heap.size := Nat.lt_of_lt_of_le hbl hb1.size
    have hX30 : Hid (X.length + Y.length ≤ 1000000) := Lib.hid (by have := HX.out; have := HY.out; omega)
    have hk0 : (0 : Int) ≤ (kk : Int) := by omega
    have hk1 : (kk : Int) ≤ (nl : Int) := by omega
    have hk2 : (kk : Int) ≤ (ca : Int) := by omega
    have hk3 : (nl : Int) ≤ (ca : Int) := by omega
    have hck : ¬ (ca = kk) := by omega
    go_wp2
    have ho0 : stK.own 23 ((w1.drew).alloc (Obj.cells #[] 23)) w1.heap.size (.slice (some ⟨w1.heap.size, 0, none⟩) 0 0) [] := World.ownsRow_lit w1.drew #[] 0 (Nat.le_refl _) (by decide) rfl
    have hX1 : ([] : List St).length + X.length ≤ 1000000 := by have := hX30.out; simp; omega
    have hsz : w1.heap.size ≤ ((w1.drew).alloc (Obj.cells #[] 23)).heap.size := by simp
    have hrX : stK.row ((w1.drew).alloc (Obj.cells #[] 23)) (some ⟨b, off + kk * 2, none⟩) X := .inr ⟨b, off + kk * 2, rfl, Nat.lt_of_lt_of_le hb1' hsz, hatX.below ((Below.refl _ _).drew.alloc (Nat.le_refl _) _) hb1'⟩
    go_region_law (first
      | (refine step_appr stK _ rfl _ _ _ rfl w1.heap.size 23 16 _ Try.underlying24 infoSt rfl _ [] rfl ho0 (some ⟨b, off + kk * 2, none⟩) (ca - kk) X (by rw [HX.out]; rfl) hrX hX1 (by decide) hsz ?_
         intro v1 w2 ho1 hg1
         have hB2 : Below w1.heap.size w1 w2 := (((Below.refl _ w1).drew).alloc (Nat.le_refl _) _).grown hg1 hsz ho0.base_le)
      | (refine step_appr stK _ rfl _ _ _ rfl w1.heap.size 23 16 _ Try.underlying24 infoSt rfl _ X rfl ho1 (some ⟨b, off, none⟩) ca Y (by rw [HY.out]; rfl) (.inr ⟨b, off, rfl, Nat.lt_of_lt_of_le hb1' hB2.size, hatY.below hB2 hb1'⟩) hX30.out (by decide) hB2.size ?_
         intro v2 w3 ho2 hg2
         have hB3 : Below w1.heap.size w1 w3 := hB2.grown hg2 hB2.size ho1.base_le))
    clear ho0 hrX hX1 hsz ho1 hg1 hg2 hB2 hatX hatY
    obtain ⟨A2, cap2, rfl, hr2, _⟩ := ho2.form
    have hlen2 : (X ++ Y).length = nl := by rw [List.length_append, HX.out, HY.out]; omega
    rw [hlen2]
    have HLEN2 := Lib.hid hlen2
    clear hlen2
    have hLne : L ≠ [] := h0
    have hRne : X ++ Y ≠ [] := fun hc => by have := HLEN2.out; rw [hc] at this; simp at this; omega
    obtain ⟨i, e, hi, hAi, hei⟩ := last_some hLne
    obtain ⟨j, e', hj, hAj, hej⟩ := last_some hRne
    have hee : e = e' := last_same (fun x => by rw [← HXY.out]; simp [or_comm]) hAi hAj hei hej
    subst hee
    have hin : i < nl := by have := hAi.1; rw [HLEN.out] at this; exact this
    have hjn : j < nl := by have := hAj.1; rw [HLEN2.out] at this; exact this
    clear hAi hAj
    have HI := Lib.hid hi; have HJ := Lib.hid hj
    clear hi hj
    have hat3 := hat1.below hB3 hb1'
    have hb3' : b < w3.heap.size := Nat.lt_of_lt_of_le hb1' hB3.size
    have hL1 := last_any (some ⟨b, off, none⟩) ca L w3 (.inr ⟨b, off, rfl, hb3', hat3⟩) (by rw [HLEN.out]; omega)
    rw [HLEN.out, HI.out] at hL1
    have HL1 := Lib.hid hL1
    clear hL1
    go_wp2_with fail
    refine HL1.out.mono ?_
    rintro e1 w4 ⟨rfl, hb4⟩
    have hL2 := last_any A2 cap2 (X ++ Y) w4 (hr2.below hb4 (Nat.le_refl _)) (by rw [HLEN2.out]; omega)
    rw [HLEN2.out, HJ.out] at hL2
    have HL2 := Lib.hid hL2
    clear hL2 HL1
    go_wp2_with fail
    refine HL2.out.mono ?_
    rintro e1 w5 ⟨rfl, hb5⟩
    have hB5 := hB3.trans ((hb4.trans (hb5.mono hb4.size)).mono hB3.size)
    obtain ⟨b2, off2, rfl, hb2, hat2⟩ := ((hr2.below hb4 (Nat.le_refl _)).below hb5 (Nat.le_refl _)).get hej
    obtain ⟨c0, c1⟩ := stAt_get (hat1.below hB5 hb1') hei
    obtain ⟨d0, d1⟩ := stAt_get hat2 hej
    have hBW := hb1.trans (hB5.mono hb1.size)
    clear HL2 hb4 hb5 hat3 hr2 ho2 hei hej hat2 hB3 hB5 hb1
    have hi0 : (0 : Int) ≤ (i : Int) := by omega
    have hi1 : (i : Int) < (nl : Int) := by omega
    have hj0 : (0 : Int) ≤ (j : Int) := by omega
    have hj1 : (j : Int) < (nl : Int) := by omega
    go_wp2
    go_quiet (fail)
    go_wp2
    go_ret
    exact ⟨rfl, bdN hBW _⟩
end Go.Proofs.Ytldlbnigjomjoaa
