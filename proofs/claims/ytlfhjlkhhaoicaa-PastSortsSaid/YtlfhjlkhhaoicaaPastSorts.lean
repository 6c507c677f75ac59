/- The walk of kithlaw08.PastSorts. -/
import Derived.Test.YtlfhjlkhhaoicaaSortZ
import Derived.Test.YtlfhjlkhhaoicaaFew08
namespace Go.Proofs.Ytlfhjlkhhaoicaa
set_option linter.unusedVariables false
set_option linter.unusedSimpArgs false
open Go.RowKit
attribute [local go_sem] ck_get ck_get? q_le0 q_le1 q_le2 q_le3 q_le4 q_le5 q_lt1 q_lt2 q_lt3 q_lt4 q_lt5
attribute [local go_sem high] eqCk eqMk eqEv

def cntE (l : List Ev) (k : Nat) (x : Ev) : Nat := (l.take k).countP fun y => decide (y = x)
theorem cntE_step {l : List Ev} {k : Nat} {y : Ev} (hy : l[k]? = some y) (x : Ev) : cntE l (k + 1) x = cntE l k x + if y = x then 1 else 0 := by
  unfold cntE
  rw [List.take_add_one, hy]
  simp only [Option.toList, List.countP_append]
  by_cases h : y = x <;> simp [h]
theorem cntE_le (l : List Ev) (k : Nat) (x : Ev) : cntE l k x ≤ k := by
  unfold cntE
  exact Nat.le_trans (List.countP_le_length ..) (List.length_take_le _ _)
theorem cntE_perm {l m : List Ev} (h : l.Perm m) (x : Ev) : cntE l l.length x = cntE m m.length x := by
  unfold cntE
  rw [List.take_length, List.take_length]
  exact h.countP_eq _
set_option maxRecDepth 100000 in
set_option maxHeartbeats 4000000 in
theorem pastSorts_any (A0 : Option Addr) (c0 : Nat) (l : List Ev) (w : World) (hl : evK.row w A0 l) (hc : l.length ≤ c0) (hm : c0 ≤ maxLen) :
    Calls Try.prog 15 #[.slice A0 l.length c0] w fun e w' => e = .returned (.bool true) ∧ Below w.heap.size w w' := by
  go_enter Try.func15, Try.ntmps15
  go_wp2_with fail
  refine (shown08_any _).mono ?_
  rintro e w1 ⟨rfl, hb1⟩
  have hl1 := hl.below hb1 (Nat.le_refl _)
  go_wp2_with fail
  refine (few08_any A0 c0 l _ hl1 (Nat.le_trans hc hm)).mono ?_
  rintro e w2 ⟨v, p, rfl, hp30, hop, hb2⟩
  obtain ⟨A2, c2, rfl, hr2, hcc, hA2⟩ := hop.form
  have hB2 := hb1.trans (hb2.mono hb1.size)
  clear hl1 hl hb1 hb2 hop
  go_wp2_with fail
  refine (sort_any A2 c2 p (by omega) _ hr2 (fun a ha => (hA2 a ha).2.2)).mono ?_
  rintro e w3 ⟨A3, c3, S, rfl, hS, hr3, hA3, hb3⟩
  have HS := Lib.hid hS
  have hsl := hS.len
  have HSL := Lib.hid hsl
  have hB3 := hB2.trans (hb3.mono hB2.size)
  have hrp := hr2.below hb3 (Nat.le_refl _)
  generalize hnn : p.length = n at *
  have HN := Lib.hid hnn
  have hso := sort_any A3 c3 S (by omega) _ hr3 hA3
  rw [hsl] at hso
  have HSO := Lib.hid hso
  clear hnn hso hS hsl hb3 hr2 hB2
  go_wp2_with (first | (go_at_call 42; refine HSO.out.mono ?_; rintro e w4 ⟨A4, c4, S', rfl, hS', hr4, hA4, hb4⟩; obtain rfl := hS'.stb.uniq HS.out.srt hS'.srt; rw [HSL.out]; have hsm := same_any A4 A3 c4 c3 S S w4 hr4 (hr3.below hb4 (Nat.le_refl _)) (by rw [HSL.out]; unfold maxLen; omega); rw [HSL.out, show sameB S S = true from decide_eq_true rfl] at hsm; have HSM := Lib.hid hsm; clear hsm) | (go_at_call 20; refine HSM.out.mono ?_; rintro e w5 ⟨rfl, hb5⟩; have hb5' := hb4.trans (hb5.mono hb4.size)))
  have hrs := hr3.below hb5' (Nat.le_refl _)
  have hrp5 := hrp.below hb5' (Nat.le_refl _)
  have hB5 := hB3.trans (hb5'.mono hB3.size)
  clear HSM hb5 hb5' hb4 hr4 hA4 hr3 hA3 hrp hB3
  go_wp2_with fail
  go_loopw [6] (fun v6 wr => ∃ i : Nat, i ≤ n ∧ v6 = .int .i64 i ∧ Below w5.heap.size w5 wr) (fun v6 _ => n - (intOf v6).toNat)
  case atStart => exact ⟨0, by omega, rfl, Below.refl _ _⟩
  case round =>
    obtain ⟨i, hi, rfl, hB⟩ := hrel
    by_cases hlt : i < n
    · obtain ⟨x, hx⟩ : ∃ x, S[i]? = some x := ⟨_, List.getElem?_eq_getElem (by rw [HSL.out]; exact hlt)⟩
      obtain ⟨bs, os, rfl, hbs, hats⟩ := hrs.get hx
      have hatr := hats.below hB hbs
      have hsx := evAt_get hatr hx
      have HX := Lib.hid hx
      have hi0 : (0 : Int) ≤ (i : Int) := by omega
      have hin : (i : Int) < (n : Int) := by omega
      obtain ⟨c0, c1, c2', c3, c4, c5, c6, c7, c8, c9, c10, c11⟩ := hsx
      clear hx
      go_upto_region 9 with fail
      go_cut [76] (fun s76 wx => s76 = .bool false ∧ Below wr.heap.size wr wx)
      case first =>
        by_cases hi0' : i = 0
        · subst hi0'
          refine wp_region_held_drew (S := AnyW1) (by kernel_rfl) (anyW1 _) (fun hHeld => ?_)
          (refine wpAnyH_take (i := 0) (oi := ?z1o) (v := ?z1v) ?z11 ?z12 ?z13 ?z14 ?z15 ?z16 ?z18 ?_; (case z11 => rfl); (case z12 => kernel_rfl); (case z13 => kernel_rfl); (case z14 => kernel_rfl); (case z15 => exact fun _ _ _ h => h); (case z16 => refine Or.inl ⟨rfl, ?_⟩; intro w hSw; (try dsimp only at hSw); go_simp; try with_reducible rfl); (case z18 => assumption); try simp only [Act.put, List.getElem_toArray, List.getElem_cons_zero, List.getElem_cons_succ, List.setIfInBounds_toArray, List.set_cons_zero, List.set_cons_succ])
          (refine wpAnyH_take (i := 1) (oi := ?z2o) (v := ?z2v) ?z21 ?z22 ?z23 ?z24 ?z25 ?z26 ?z28 ?_; (case z21 => rfl); (case z22 => kernel_rfl); (case z23 => kernel_rfl); (case z24 => kernel_rfl); (case z25 => exact fun _ _ _ h => h); (case z26 => refine Or.inl ⟨rfl, ?_⟩; intro w hSw; (try dsimp only at hSw); go_simp; try with_reducible rfl); (case z28 => assumption); try simp only [Act.put, List.getElem_toArray, List.getElem_cons_zero, List.getElem_cons_succ, List.setIfInBounds_toArray, List.set_cons_zero, List.set_cons_succ])
          (refine wpAnyH_take (i := 2) (oi := ?z3o) (v := ?z3v) ?z31 ?z32 ?z33 ?z34 ?z35 ?z36 ?z38 ?_; (case z31 => rfl); (case z32 => kernel_rfl); (case z33 => kernel_rfl); (case z34 => kernel_rfl); (case z35 => exact fun _ _ _ h => h); (case z36 => refine Or.inl ⟨rfl, ?_⟩; intro w hSw; (try dsimp only at hSw); go_simp; try with_reducible rfl); (case z38 => assumption); try simp only [Act.put, List.getElem_toArray, List.getElem_cons_zero, List.getElem_cons_succ, List.setIfInBounds_toArray, List.set_cons_zero, List.set_cons_succ])
          (refine wpAnyH_take (i := 3) (oi := ?z4o) (v := undef) ?z41 ?z42 ?z43 ?z44 ?z45 ?z46 ?z48 ?_; (case z41 => rfl); (case z42 => kernel_rfl); (case z43 => kernel_rfl); (case z44 => kernel_rfl); (case z45 => exact fun _ _ _ h => h); (case z46 => exact Or.inr ⟨rfl, rfl⟩); (case z48 => assumption); try simp only [Act.put, List.getElem_toArray, List.getElem_cons_zero, List.getElem_cons_succ, List.setIfInBounds_toArray, List.set_cons_zero, List.set_cons_succ])
          (refine wpAnyH_take (i := 4) (oi := ?z5o) (v := undef) ?z51 ?z52 ?z53 ?z54 ?z55 ?z56 ?z58 ?_; (case z51 => rfl); (case z52 => kernel_rfl); (case z53 => kernel_rfl); (case z54 => kernel_rfl); (case z55 => exact fun _ _ _ h => h); (case z56 => exact Or.inr ⟨rfl, rfl⟩); (case z58 => assumption); try simp only [Act.put, List.getElem_toArray, List.getElem_cons_zero, List.getElem_cons_succ, List.setIfInBounds_toArray, List.set_cons_zero, List.set_cons_succ])
          (refine wpAnyH_take (i := 5) (oi := ?z6o) (v := undef) ?z61 ?z62 ?z63 ?z64 ?z65 ?z66 ?z68 ?_; (case z61 => rfl); (case z62 => kernel_rfl); (case z63 => kernel_rfl); (case z64 => kernel_rfl); (case z65 => exact fun _ _ _ h => h); (case z66 => exact Or.inr ⟨rfl, rfl⟩); (case z68 => assumption); try simp only [Act.put, List.getElem_toArray, List.getElem_cons_zero, List.getElem_cons_succ, List.setIfInBounds_toArray, List.set_cons_zero, List.set_cons_succ])
          (refine wpAnyH_take (i := 6) (oi := ?z7o) (v := undef) ?z71 ?z72 ?z73 ?z74 ?z75 ?z76 ?z78 ?_; (case z71 => rfl); (case z72 => kernel_rfl); (case z73 => kernel_rfl); (case z74 => kernel_rfl); (case z75 => exact fun _ _ _ h => h); (case z76 => exact Or.inr ⟨rfl, rfl⟩); (case z78 => assumption); try simp only [Act.put, List.getElem_toArray, List.getElem_cons_zero, List.getElem_cons_succ, List.setIfInBounds_toArray, List.set_cons_zero, List.set_cons_succ])
          (refine wpAnyH_take (i := 7) (oi := ?z8o) (v := undef) ?z81 ?z82 ?z83 ?z84 ?z85 ?z86 ?z88 ?_; (case z81 => rfl); (case z82 => kernel_rfl); (case z83 => kernel_rfl); (case z84 => kernel_rfl); (case z85 => exact fun _ _ _ h => h); (case z86 => exact Or.inr ⟨rfl, rfl⟩); (case z88 => assumption); try simp only [Act.put, List.getElem_toArray, List.getElem_cons_zero, List.getElem_cons_succ, List.setIfInBounds_toArray, List.set_cons_zero, List.set_cons_succ])
          (refine wpAnyH_take (i := 8) (oi := ?z9o) (v := undef) ?z91 ?z92 ?z93 ?z94 ?z95 ?z96 ?z98 ?_; (case z91 => rfl); (case z92 => kernel_rfl); (case z93 => kernel_rfl); (case z94 => kernel_rfl); (case z95 => exact fun _ _ _ h => h); (case z96 => exact Or.inr ⟨rfl, rfl⟩); (case z98 => assumption); try simp only [Act.put, List.getElem_toArray, List.getElem_cons_zero, List.getElem_cons_succ, List.setIfInBounds_toArray, List.set_cons_zero, List.set_cons_succ])
          (refine wpAnyH_take (i := 9) (oi := ?z10o) (v := undef) ?z101 ?z102 ?z103 ?z104 ?z105 ?z106 ?z108 ?_; (case z101 => rfl); (case z102 => kernel_rfl); (case z103 => kernel_rfl); (case z104 => kernel_rfl); (case z105 => exact fun _ _ _ h => h); (case z106 => exact Or.inr ⟨rfl, rfl⟩); (case z108 => assumption); try simp only [Act.put, List.getElem_toArray, List.getElem_cons_zero, List.getElem_cons_succ, List.setIfInBounds_toArray, List.set_cons_zero, List.set_cons_succ])
          (refine wpAnyH_take (i := 10) (oi := ?z11o) (v := undef) ?z111 ?z112 ?z113 ?z114 ?z115 ?z116 ?z118 ?_; (case z111 => rfl); (case z112 => kernel_rfl); (case z113 => kernel_rfl); (case z114 => kernel_rfl); (case z115 => exact fun _ _ _ h => h); (case z116 => exact Or.inr ⟨rfl, rfl⟩); (case z118 => assumption); try simp only [Act.put, List.getElem_toArray, List.getElem_cons_zero, List.getElem_cons_succ, List.setIfInBounds_toArray, List.set_cons_zero, List.set_cons_succ])
          (refine wpAnyH_take (i := 11) (oi := ?z12o) (v := undef) ?z121 ?z122 ?z123 ?z124 ?z125 ?z126 ?z128 ?_; (case z121 => rfl); (case z122 => kernel_rfl); (case z123 => kernel_rfl); (case z124 => kernel_rfl); (case z125 => exact fun _ _ _ h => h); (case z126 => exact Or.inr ⟨rfl, rfl⟩); (case z128 => assumption); try simp only [Act.put, List.getElem_toArray, List.getElem_cons_zero, List.getElem_cons_succ, List.setIfInBounds_toArray, List.set_cons_zero, List.set_cons_succ])
          (refine wpAnyH_take (i := 12) (oi := ?z13o) (v := undef) ?z131 ?z132 ?z133 ?z134 ?z135 ?z136 ?z138 ?_; (case z131 => rfl); (case z132 => kernel_rfl); (case z133 => kernel_rfl); (case z134 => kernel_rfl); (case z135 => exact fun _ _ _ h => h); (case z136 => exact Or.inr ⟨rfl, rfl⟩); (case z138 => assumption); try simp only [Act.put, List.getElem_toArray, List.getElem_cons_zero, List.getElem_cons_succ, List.setIfInBounds_toArray, List.set_cons_zero, List.set_cons_succ])
          (refine wpAnyH_take (i := 13) (oi := ?z14o) (v := undef) ?z141 ?z142 ?z143 ?z144 ?z145 ?z146 ?z148 ?_; (case z141 => rfl); (case z142 => kernel_rfl); (case z143 => kernel_rfl); (case z144 => kernel_rfl); (case z145 => exact fun _ _ _ h => h); (case z146 => exact Or.inr ⟨rfl, rfl⟩); (case z148 => assumption); try simp only [Act.put, List.getElem_toArray, List.getElem_cons_zero, List.getElem_cons_succ, List.setIfInBounds_toArray, List.set_cons_zero, List.set_cons_succ])
          (refine wpAnyH_take (i := 14) (oi := ?z15o) (v := undef) ?z151 ?z152 ?z153 ?z154 ?z155 ?z156 ?z158 ?_; (case z151 => rfl); (case z152 => kernel_rfl); (case z153 => kernel_rfl); (case z154 => kernel_rfl); (case z155 => exact fun _ _ _ h => h); (case z156 => exact Or.inr ⟨rfl, rfl⟩); (case z158 => assumption); try simp only [Act.put, List.getElem_toArray, List.getElem_cons_zero, List.getElem_cons_succ, List.setIfInBounds_toArray, List.set_cons_zero, List.set_cons_succ])
          (refine wpAnyH_take (i := 15) (oi := ?z16o) (v := undef) ?z161 ?z162 ?z163 ?z164 ?z165 ?z166 ?z168 ?_; (case z161 => rfl); (case z162 => kernel_rfl); (case z163 => kernel_rfl); (case z164 => kernel_rfl); (case z165 => exact fun _ _ _ h => h); (case z166 => exact Or.inr ⟨rfl, rfl⟩); (case z168 => assumption); try simp only [Act.put, List.getElem_toArray, List.getElem_cons_zero, List.getElem_cons_succ, List.setIfInBounds_toArray, List.set_cons_zero, List.set_cons_succ])
          (refine wpAnyH_take (i := 16) (oi := ?z17o) (v := undef) ?z171 ?z172 ?z173 ?z174 ?z175 ?z176 ?z178 ?_; (case z171 => rfl); (case z172 => kernel_rfl); (case z173 => kernel_rfl); (case z174 => kernel_rfl); (case z175 => exact fun _ _ _ h => h); (case z176 => exact Or.inr ⟨rfl, rfl⟩); (case z178 => assumption); try simp only [Act.put, List.getElem_toArray, List.getElem_cons_zero, List.getElem_cons_succ, List.setIfInBounds_toArray, List.set_cons_zero, List.set_cons_succ])
          (refine wpAnyH_take (i := 17) (oi := ?z18o) (v := undef) ?z181 ?z182 ?z183 ?z184 ?z185 ?z186 ?z188 ?_; (case z181 => rfl); (case z182 => kernel_rfl); (case z183 => kernel_rfl); (case z184 => kernel_rfl); (case z185 => exact fun _ _ _ h => h); (case z186 => exact Or.inr ⟨rfl, rfl⟩); (case z188 => assumption); try simp only [Act.put, List.getElem_toArray, List.getElem_cons_zero, List.getElem_cons_succ, List.setIfInBounds_toArray, List.set_cons_zero, List.set_cons_succ])
          (refine wpAnyH_take (i := 18) (oi := ?z19o) (v := undef) ?z191 ?z192 ?z193 ?z194 ?z195 ?z196 ?z198 ?_; (case z191 => rfl); (case z192 => kernel_rfl); (case z193 => kernel_rfl); (case z194 => kernel_rfl); (case z195 => exact fun _ _ _ h => h); (case z196 => exact Or.inr ⟨rfl, rfl⟩); (case z198 => assumption); try simp only [Act.put, List.getElem_toArray, List.getElem_cons_zero, List.getElem_cons_succ, List.setIfInBounds_toArray, List.set_cons_zero, List.set_cons_succ])
          (refine wpAnyH_take (i := 19) (oi := ?z20o) (v := undef) ?z201 ?z202 ?z203 ?z204 ?z205 ?z206 ?z208 ?_; (case z201 => rfl); (case z202 => kernel_rfl); (case z203 => kernel_rfl); (case z204 => kernel_rfl); (case z205 => exact fun _ _ _ h => h); (case z206 => exact Or.inr ⟨rfl, rfl⟩); (case z208 => assumption); try simp only [Act.put, List.getElem_toArray, List.getElem_cons_zero, List.getElem_cons_succ, List.setIfInBounds_toArray, List.set_cons_zero, List.set_cons_succ])
          (refine wpAnyH_take (i := 20) (oi := ?z21o) (v := undef) ?z211 ?z212 ?z213 ?z214 ?z215 ?z216 ?z218 ?_; (case z211 => rfl); (case z212 => kernel_rfl); (case z213 => kernel_rfl); (case z214 => kernel_rfl); (case z215 => exact fun _ _ _ h => h); (case z216 => exact Or.inr ⟨rfl, rfl⟩); (case z218 => assumption); try simp only [Act.put, List.getElem_toArray, List.getElem_cons_zero, List.getElem_cons_succ, List.setIfInBounds_toArray, List.set_cons_zero, List.set_cons_succ])
          (refine wpAnyH_take (i := 21) (oi := ?z22o) (v := undef) ?z221 ?z222 ?z223 ?z224 ?z225 ?z226 ?z228 ?_; (case z221 => rfl); (case z222 => kernel_rfl); (case z223 => kernel_rfl); (case z224 => kernel_rfl); (case z225 => exact fun _ _ _ h => h); (case z226 => exact Or.inr ⟨rfl, rfl⟩); (case z228 => assumption); try simp only [Act.put, List.getElem_toArray, List.getElem_cons_zero, List.getElem_cons_succ, List.setIfInBounds_toArray, List.set_cons_zero, List.set_cons_succ])
          (refine wpAnyH_take (i := 22) (oi := ?z23o) (v := undef) ?z231 ?z232 ?z233 ?z234 ?z235 ?z236 ?z238 ?_; (case z231 => rfl); (case z232 => kernel_rfl); (case z233 => kernel_rfl); (case z234 => kernel_rfl); (case z235 => exact fun _ _ _ h => h); (case z236 => exact Or.inr ⟨rfl, rfl⟩); (case z238 => assumption); try simp only [Act.put, List.getElem_toArray, List.getElem_cons_zero, List.getElem_cons_succ, List.setIfInBounds_toArray, List.set_cons_zero, List.set_cons_succ])
          (refine wpAnyH_take (i := 23) (oi := ?z24o) (v := undef) ?z241 ?z242 ?z243 ?z244 ?z245 ?z246 ?z248 ?_; (case z241 => rfl); (case z242 => kernel_rfl); (case z243 => kernel_rfl); (case z244 => kernel_rfl); (case z245 => exact fun _ _ _ h => h); (case z246 => exact Or.inr ⟨rfl, rfl⟩); (case z248 => assumption); try simp only [Act.put, List.getElem_toArray, List.getElem_cons_zero, List.getElem_cons_succ, List.setIfInBounds_toArray, List.set_cons_zero, List.set_cons_succ])
          (refine wpAnyH_take (i := 24) (oi := ?z25o) (v := undef) ?z251 ?z252 ?z253 ?z254 ?z255 ?z256 ?z258 ?_; (case z251 => rfl); (case z252 => kernel_rfl); (case z253 => kernel_rfl); (case z254 => kernel_rfl); (case z255 => exact fun _ _ _ h => h); (case z256 => exact Or.inr ⟨rfl, rfl⟩); (case z258 => assumption); try simp only [Act.put, List.getElem_toArray, List.getElem_cons_zero, List.getElem_cons_succ, List.setIfInBounds_toArray, List.set_cons_zero, List.set_cons_succ])
          (refine wpAnyH_take (i := 25) (oi := ?z26o) (v := undef) ?z261 ?z262 ?z263 ?z264 ?z265 ?z266 ?z268 ?_; (case z261 => rfl); (case z262 => kernel_rfl); (case z263 => kernel_rfl); (case z264 => kernel_rfl); (case z265 => exact fun _ _ _ h => h); (case z266 => exact Or.inr ⟨rfl, rfl⟩); (case z268 => assumption); try simp only [Act.put, List.getElem_toArray, List.getElem_cons_zero, List.getElem_cons_succ, List.setIfInBounds_toArray, List.set_cons_zero, List.set_cons_succ])
          (refine wpAnyH_take (i := 26) (oi := ?z27o) (v := undef) ?z271 ?z272 ?z273 ?z274 ?z275 ?z276 ?z278 ?_; (case z271 => rfl); (case z272 => kernel_rfl); (case z273 => kernel_rfl); (case z274 => kernel_rfl); (case z275 => exact fun _ _ _ h => h); (case z276 => exact Or.inr ⟨rfl, rfl⟩); (case z278 => assumption); try simp only [Act.put, List.getElem_toArray, List.getElem_cons_zero, List.getElem_cons_succ, List.setIfInBounds_toArray, List.set_cons_zero, List.set_cons_succ])
          (refine wpAnyH_take (i := 27) (oi := ?z28o) (v := undef) ?z281 ?z282 ?z283 ?z284 ?z285 ?z286 ?z288 ?_; (case z281 => rfl); (case z282 => kernel_rfl); (case z283 => kernel_rfl); (case z284 => kernel_rfl); (case z285 => exact fun _ _ _ h => h); (case z286 => exact Or.inr ⟨rfl, rfl⟩); (case z288 => assumption); try simp only [Act.put, List.getElem_toArray, List.getElem_cons_zero, List.getElem_cons_succ, List.setIfInBounds_toArray, List.set_cons_zero, List.set_cons_succ])
          (refine wpAnyH_take (i := 28) (oi := ?z29o) (v := undef) ?z291 ?z292 ?z293 ?z294 ?z295 ?z296 ?z298 ?_; (case z291 => rfl); (case z292 => kernel_rfl); (case z293 => kernel_rfl); (case z294 => kernel_rfl); (case z295 => exact fun _ _ _ h => h); (case z296 => exact Or.inr ⟨rfl, rfl⟩); (case z298 => assumption); try simp only [Act.put, List.getElem_toArray, List.getElem_cons_zero, List.getElem_cons_succ, List.setIfInBounds_toArray, List.set_cons_zero, List.set_cons_succ])
          (refine wpAnyH_take (i := 29) (oi := ?z30o) (v := undef) ?z301 ?z302 ?z303 ?z304 ?z305 ?z306 ?z308 ?_; (case z301 => rfl); (case z302 => kernel_rfl); (case z303 => kernel_rfl); (case z304 => kernel_rfl); (case z305 => exact fun _ _ _ h => h); (case z306 => exact Or.inr ⟨rfl, rfl⟩); (case z308 => assumption); try simp only [Act.put, List.getElem_toArray, List.getElem_cons_zero, List.getElem_cons_succ, List.setIfInBounds_toArray, List.set_cons_zero, List.set_cons_succ])
          (refine wpAnyH_take (i := 30) (oi := ?z31o) (v := undef) ?z311 ?z312 ?z313 ?z314 ?z315 ?z316 ?z318 ?_; (case z311 => rfl); (case z312 => kernel_rfl); (case z313 => kernel_rfl); (case z314 => kernel_rfl); (case z315 => exact fun _ _ _ h => h); (case z316 => exact Or.inr ⟨rfl, rfl⟩); (case z318 => assumption); try simp only [Act.put, List.getElem_toArray, List.getElem_cons_zero, List.getElem_cons_succ, List.setIfInBounds_toArray, List.set_cons_zero, List.set_cons_succ])
          (refine wpAnyH_take (i := 31) (oi := ?z32o) (v := undef) ?z321 ?z322 ?z323 ?z324 ?z325 ?z326 ?z328 ?_; (case z321 => rfl); (case z322 => kernel_rfl); (case z323 => kernel_rfl); (case z324 => kernel_rfl); (case z325 => exact fun _ _ _ h => h); (case z326 => exact Or.inr ⟨rfl, rfl⟩); (case z328 => assumption); try simp only [Act.put, List.getElem_toArray, List.getElem_cons_zero, List.getElem_cons_succ, List.setIfInBounds_toArray, List.set_cons_zero, List.set_cons_succ])
          (refine wpAnyH_take (i := 32) (oi := ?z33o) (v := undef) ?z331 ?z332 ?z333 ?z334 ?z335 ?z336 ?z338 ?_; (case z331 => rfl); (case z332 => kernel_rfl); (case z333 => kernel_rfl); (case z334 => kernel_rfl); (case z335 => exact fun _ _ _ h => h); (case z336 => exact Or.inr ⟨rfl, rfl⟩); (case z338 => assumption); try simp only [Act.put, List.getElem_toArray, List.getElem_cons_zero, List.getElem_cons_succ, List.setIfInBounds_toArray, List.set_cons_zero, List.set_cons_succ])
          (refine wpAnyH_take (i := 33) (oi := ?z34o) (v := undef) ?z341 ?z342 ?z343 ?z344 ?z345 ?z346 ?z348 ?_; (case z341 => rfl); (case z342 => kernel_rfl); (case z343 => kernel_rfl); (case z344 => kernel_rfl); (case z345 => exact fun _ _ _ h => h); (case z346 => exact Or.inr ⟨rfl, rfl⟩); (case z348 => assumption); try simp only [Act.put, List.getElem_toArray, List.getElem_cons_zero, List.getElem_cons_succ, List.setIfInBounds_toArray, List.set_cons_zero, List.set_cons_succ])
          (refine wpAnyH_take (i := 34) (oi := ?z35o) (v := undef) ?z351 ?z352 ?z353 ?z354 ?z355 ?z356 ?z358 ?_; (case z351 => rfl); (case z352 => kernel_rfl); (case z353 => kernel_rfl); (case z354 => kernel_rfl); (case z355 => exact fun _ _ _ h => h); (case z356 => exact Or.inr ⟨rfl, rfl⟩); (case z358 => assumption); try simp only [Act.put, List.getElem_toArray, List.getElem_cons_zero, List.getElem_cons_succ, List.setIfInBounds_toArray, List.set_cons_zero, List.set_cons_succ])
          (refine wpAnyH_take (i := 35) (oi := ?z36o) (v := undef) ?z361 ?z362 ?z363 ?z364 ?z365 ?z366 ?z368 ?_; (case z361 => rfl); (case z362 => kernel_rfl); (case z363 => kernel_rfl); (case z364 => kernel_rfl); (case z365 => exact fun _ _ _ h => h); (case z366 => exact Or.inr ⟨rfl, rfl⟩); (case z368 => assumption); try simp only [Act.put, List.getElem_toArray, List.getElem_cons_zero, List.getElem_cons_succ, List.setIfInBounds_toArray, List.set_cons_zero, List.set_cons_succ])
          (refine wpAnyH_take (i := 36) (oi := ?z37o) (v := undef) ?z371 ?z372 ?z373 ?z374 ?z375 ?z376 ?z378 ?_; (case z371 => rfl); (case z372 => kernel_rfl); (case z373 => kernel_rfl); (case z374 => kernel_rfl); (case z375 => exact fun _ _ _ h => h); (case z376 => exact Or.inr ⟨rfl, rfl⟩); (case z378 => assumption); try simp only [Act.put, List.getElem_toArray, List.getElem_cons_zero, List.getElem_cons_succ, List.setIfInBounds_toArray, List.set_cons_zero, List.set_cons_succ])
          (refine wpAnyH_take (i := 37) (oi := ?z38o) (v := undef) ?z381 ?z382 ?z383 ?z384 ?z385 ?z386 ?z388 ?_; (case z381 => rfl); (case z382 => kernel_rfl); (case z383 => kernel_rfl); (case z384 => kernel_rfl); (case z385 => exact fun _ _ _ h => h); (case z386 => exact Or.inr ⟨rfl, rfl⟩); (case z388 => assumption); try simp only [Act.put, List.getElem_toArray, List.getElem_cons_zero, List.getElem_cons_succ, List.setIfInBounds_toArray, List.set_cons_zero, List.set_cons_succ])
          (refine wpAnyH_take (i := 38) (oi := ?z39o) (v := undef) ?z391 ?z392 ?z393 ?z394 ?z395 ?z396 ?z398 ?_; (case z391 => rfl); (case z392 => kernel_rfl); (case z393 => kernel_rfl); (case z394 => kernel_rfl); (case z395 => exact fun _ _ _ h => h); (case z396 => exact Or.inr ⟨rfl, rfl⟩); (case z398 => assumption); try simp only [Act.put, List.getElem_toArray, List.getElem_cons_zero, List.getElem_cons_succ, List.setIfInBounds_toArray, List.set_cons_zero, List.set_cons_succ])
          (refine wpAnyH_take (i := 39) (oi := ?z40o) (v := undef) ?z401 ?z402 ?z403 ?z404 ?z405 ?z406 ?z408 ?_; (case z401 => rfl); (case z402 => kernel_rfl); (case z403 => kernel_rfl); (case z404 => kernel_rfl); (case z405 => exact fun _ _ _ h => h); (case z406 => exact Or.inr ⟨rfl, rfl⟩); (case z408 => assumption); try simp only [Act.put, List.getElem_toArray, List.getElem_cons_zero, List.getElem_cons_succ, List.setIfInBounds_toArray, List.set_cons_zero, List.set_cons_succ])
          (refine wpAnyH_take (i := 40) (oi := ?z41o) (v := undef) ?z411 ?z412 ?z413 ?z414 ?z415 ?z416 ?z418 ?_; (case z411 => rfl); (case z412 => kernel_rfl); (case z413 => kernel_rfl); (case z414 => kernel_rfl); (case z415 => exact fun _ _ _ h => h); (case z416 => exact Or.inr ⟨rfl, rfl⟩); (case z418 => assumption); try simp only [Act.put, List.getElem_toArray, List.getElem_cons_zero, List.getElem_cons_succ, List.setIfInBounds_toArray, List.set_cons_zero, List.set_cons_succ])
          (refine wpAnyH_take (i := 41) (oi := ?z42o) (v := undef) ?z421 ?z422 ?z423 ?z424 ?z425 ?z426 ?z428 ?_; (case z421 => rfl); (case z422 => kernel_rfl); (case z423 => kernel_rfl); (case z424 => kernel_rfl); (case z425 => exact fun _ _ _ h => h); (case z426 => exact Or.inr ⟨rfl, rfl⟩); (case z428 => assumption); try simp only [Act.put, List.getElem_toArray, List.getElem_cons_zero, List.getElem_cons_succ, List.setIfInBounds_toArray, List.set_cons_zero, List.set_cons_succ])
          (refine wpAnyH_take (i := 42) (oi := ?z43o) (v := undef) ?z431 ?z432 ?z433 ?z434 ?z435 ?z436 ?z438 ?_; (case z431 => rfl); (case z432 => kernel_rfl); (case z433 => kernel_rfl); (case z434 => kernel_rfl); (case z435 => exact fun _ _ _ h => h); (case z436 => exact Or.inr ⟨rfl, rfl⟩); (case z438 => assumption); try simp only [Act.put, List.getElem_toArray, List.getElem_cons_zero, List.getElem_cons_succ, List.setIfInBounds_toArray, List.set_cons_zero, List.set_cons_succ])
          (refine wpAnyH_take (i := 43) (oi := ?z44o) (v := ?z44v) ?z441 ?z442 ?z443 ?z444 ?z445 ?z446 ?z448 ?_; (case z441 => rfl); (case z442 => kernel_rfl); (case z443 => kernel_rfl); (case z444 => kernel_rfl); (case z445 => exact fun _ _ _ h => h); (case z446 => refine Or.inl ⟨rfl, ?_⟩; intro w hSw; (try dsimp only at hSw); go_simp; try with_reducible rfl); (case z448 => assumption); try simp only [Act.put, List.getElem_toArray, List.getElem_cons_zero, List.getElem_cons_succ, List.setIfInBounds_toArray, List.set_cons_zero, List.set_cons_succ])
          refine wpAnyH_done (by kernel_rfl) ?_ _
          go_wp2_with fail
          go_meet
          exact ⟨rfl, (Below.refl _ _).drew⟩
        · obtain ⟨j, rfl⟩ : ∃ j, i = j + 1 := ⟨i - 1, by omega⟩
          obtain ⟨u, hu⟩ : ∃ u, S[j]? = some u := ⟨_, List.getElem?_eq_getElem (by rw [HSL.out]; omega)⟩
          obtain ⟨d0, d1, d2, d3, d4, d5, d6, d7, d8, d9, d10, d11⟩ := evAt_get hatr hu
          have hux : leE u x := by
            have h1 := HS.out.srt
            obtain ⟨p1, p2⟩ := List.getElem?_eq_some_iff.1 hu
            obtain ⟨q1, q2⟩ := List.getElem?_eq_some_iff.1 HX.out
            have := List.pairwise_iff_getElem.1 h1 j (j + 1) p1 q1 (by omega)
            rwa [p2, q2] at this
          have hw1 : IntKind.i64.wrap ((j : Int) + 1 - 1) = (j : Int) := by rw [Int.add_sub_cancel]; exact IntWalk.i64_in _ (by omega)
          have hw2 : IntKind.i64.wrap (j : Int) = (j : Int) := IntWalk.i64_in _ (by omega)
          have hj0 : (0 : Int) ≤ (j : Int) := by omega
          have hjn : (j : Int) < (n : Int) := by omega
          have hg1 : decide (u.h > x.h) = false := decide_eq_false (by unfold leE ltE at hux; omega)
          have hsz : n ≤ 30 := hp30
          clear hu
          by_cases he : u.h = x.h
          · have hg2 : (u.h == x.h) = true := by simp [he]
            have hg3 : decide (u.r > x.r) = false := decide_eq_false (by unfold leE ltE at hux; omega)
            clear he hux
            go_quiet (fail)
            go_wp2_with fail
            go_meet
            exact ⟨rfl, bdN (Below.refl _ _) nq⟩
          · have hg2 : (u.h == x.h) = false := by simp [he]
            clear he hux
            go_quiet (fail)
            go_wp2_with fail
            go_meet
            exact ⟨rfl, bdN (Below.refl _ _) nq⟩
      case rest =>
        obtain ⟨rfl, hb6⟩ := hcut
        generalize wc = w6 at *
        have hB6 := hB.trans (hb6.mono hB.size)
        clear c0 c1 c2' c3 c4 c5 c6 c7 c8 c9 c10 c11 hatr hb6 hB
        have HEQ := Lib.hid (show cntE S n x = cntE p n x by have := cntE_perm HS.out.stb.perm x; rw [HSL.out, HN.out] at this; exact this.symm)
        go_wp2_with fail
        go_loopw [7, 8, 9] (fun v7 v8 v9 wr => ∃ k : Nat, k ≤ n ∧ v9 = .int .i64 k ∧ v7 = .int .i64 ((cntE S k x : Nat) : Int) ∧ v8 = .int .i64 ((cntE p k x : Nat) : Int) ∧ Below w5.heap.size w5 wr) (fun _ _ v9 _ => n - (intOf v9).toNat)
        case atStart => exact ⟨0, by omega, rfl, rfl, rfl, hB6⟩
        case round =>
          clear hB6
          obtain ⟨k, hk, rfl, rfl, rfl, hB⟩ := hrel
          by_cases hkn : k < n
          · obtain ⟨a, ha⟩ : ∃ a, p[k]? = some a := ⟨_, List.getElem?_eq_getElem (by rw [HN.out]; exact hkn)⟩
            obtain ⟨z, hz⟩ : ∃ z, S[k]? = some z := ⟨_, List.getElem?_eq_getElem (by rw [HSL.out]; exact hkn)⟩
            obtain ⟨bp, op', rfl, hbp, hatp⟩ := hrp5.get ha
            obtain ⟨c0, c1, c2', c3, c4, c5, c6, c7, c8, c9, c10, c11⟩ := evAt_get (hats.below hB hbs) HX.out
            obtain ⟨d0, d1, d2, d3, d4, d5, d6, d7, d8, d9, d10, d11⟩ := evAt_get (hatp.below hB hbp) ha
            have HZ := Lib.hid hz
            have HCA := Lib.hid (cntE_step ha x)
            have HCZ := Lib.hid (cntE_step hz x)
            have hl1 := cntE_le p k x
            have hl2 := cntE_le S k x
            have hsz : n ≤ 30 := hp30
            have hk0 : (0 : Int) ≤ (k : Int) := by omega
            have hkn' : (k : Int) < (n : Int) := by omega
            clear ha hz
            rcases Classical.em (a = x) with ha | ha <;> rcases Classical.em (z = x) with hz | hz
            · have hda : decide (a = x) = true := decide_eq_true ha
              have hdb : decide (z = x) = true := decide_eq_true hz
              have hc1 : cntE p (k + 1) x = cntE p k x + 1 := by rw [HCA.out, if_pos ha]
              have hc2 : cntE S (k + 1) x = cntE S k x + 1 := by rw [HCZ.out, if_pos hz]
              have HC1 := Lib.hid hc1
              have HC2 := Lib.hid hc2
              clear ha hz hc1 hc2
              go_wp2
              go_quiet (fail)
              have hB7 := bdN hB nq
              have e16 := evAt_get (hats.below hB7 hbs) HX.out
              have f16 := evAt_get (hats.below hB7 hbs) HZ.out
              obtain ⟨c0, c1, c2, c3, c4, c5, c6, c7, c8, c9, c10, c11⟩ := e16
              obtain ⟨d0, d1, d2, d3, d4, d5, d6, d7, d8, d9, d10, d11⟩ := f16
              clear hB
              generalize wr.drewN nq = w7 at *
              go_wp2
              go_quiet (fail)
              have hB8 := bdN hB7 nq
              clear hB7
              generalize w7.drewN nq = w8 at *
              go_wp2
              go_roundw
              case measure => simp [intOf]; omega
              case rel => exact ⟨k + 1, by omega, by go_num, by rw [HC2.out]; first | rfl | go_num, by rw [HC1.out]; first | rfl | go_num, hB8⟩
            · have hda : decide (a = x) = true := decide_eq_true ha
              have hdb : decide (z = x) = false := decide_eq_false hz
              have hc1 : cntE p (k + 1) x = cntE p k x + 1 := by rw [HCA.out, if_pos ha]
              have hc2 : cntE S (k + 1) x = cntE S k x + 0 := by rw [HCZ.out, if_neg hz]
              have HC1 := Lib.hid hc1
              have HC2 := Lib.hid hc2
              clear ha hz hc1 hc2
              go_wp2
              go_quiet (fail)
              have hB7 := bdN hB nq
              have e16 := evAt_get (hats.below hB7 hbs) HX.out
              have f16 := evAt_get (hats.below hB7 hbs) HZ.out
              obtain ⟨c0, c1, c2, c3, c4, c5, c6, c7, c8, c9, c10, c11⟩ := e16
              obtain ⟨d0, d1, d2, d3, d4, d5, d6, d7, d8, d9, d10, d11⟩ := f16
              clear hB
              generalize wr.drewN nq = w7 at *
              go_wp2
              go_quiet (fail)
              have hB8 := bdN hB7 nq
              clear hB7
              generalize w7.drewN nq = w8 at *
              go_wp2
              go_roundw
              case measure => simp [intOf]; omega
              case rel => exact ⟨k + 1, by omega, by go_num, by rw [HC2.out]; first | rfl | go_num, by rw [HC1.out]; first | rfl | go_num, hB8⟩
            · have hda : decide (a = x) = false := decide_eq_false ha
              have hdb : decide (z = x) = true := decide_eq_true hz
              have hc1 : cntE p (k + 1) x = cntE p k x + 0 := by rw [HCA.out, if_neg ha]
              have hc2 : cntE S (k + 1) x = cntE S k x + 1 := by rw [HCZ.out, if_pos hz]
              have HC1 := Lib.hid hc1
              have HC2 := Lib.hid hc2
              clear ha hz hc1 hc2
              go_wp2
              go_quiet (fail)
              have hB7 := bdN hB nq
              have e16 := evAt_get (hats.below hB7 hbs) HX.out
              have f16 := evAt_get (hats.below hB7 hbs) HZ.out
              obtain ⟨c0, c1, c2, c3, c4, c5, c6, c7, c8, c9, c10, c11⟩ := e16
              obtain ⟨d0, d1, d2, d3, d4, d5, d6, d7, d8, d9, d10, d11⟩ := f16
              clear hB
              generalize wr.drewN nq = w7 at *
              go_wp2
              go_quiet (fail)
              have hB8 := bdN hB7 nq
              clear hB7
              generalize w7.drewN nq = w8 at *
              go_wp2
              go_roundw
              case measure => simp [intOf]; omega
              case rel => exact ⟨k + 1, by omega, by go_num, by rw [HC2.out]; first | rfl | go_num, by rw [HC1.out]; first | rfl | go_num, hB8⟩
            · have hda : decide (a = x) = false := decide_eq_false ha
              have hdb : decide (z = x) = false := decide_eq_false hz
              have hc1 : cntE p (k + 1) x = cntE p k x + 0 := by rw [HCA.out, if_neg ha]
              have hc2 : cntE S (k + 1) x = cntE S k x + 0 := by rw [HCZ.out, if_neg hz]
              have HC1 := Lib.hid hc1
              have HC2 := Lib.hid hc2
              clear ha hz hc1 hc2
              go_wp2
              go_quiet (fail)
              have hB7 := bdN hB nq
              have e16 := evAt_get (hats.below hB7 hbs) HX.out
              have f16 := evAt_get (hats.below hB7 hbs) HZ.out
              obtain ⟨c0, c1, c2, c3, c4, c5, c6, c7, c8, c9, c10, c11⟩ := e16
              obtain ⟨d0, d1, d2, d3, d4, d5, d6, d7, d8, d9, d10, d11⟩ := f16
              clear hB
              generalize wr.drewN nq = w7 at *
              go_wp2
              go_quiet (fail)
              have hB8 := bdN hB7 nq
              clear hB7
              generalize w7.drewN nq = w8 at *
              go_wp2
              go_roundw
              case measure => simp [intOf]; omega
              case rel => exact ⟨k + 1, by omega, by go_num, by rw [HC2.out]; first | rfl | go_num, by rw [HC1.out]; first | rfl | go_num, hB8⟩
          · obtain rfl : k = n := by omega
            rw [HEQ.out]
            have hl1 := cntE_le p k x
            go_wp2
            go_roundw
            case measure => simp [intOf]; omega
            case rel => exact ⟨i + 1, by omega, by go_num, hB⟩
    · go_wp2
      go_ret
      exact ⟨rfl, hB5.trans (hB.mono hB5.size)⟩
end Go.Proofs.Ytlfhjlkhhaoicaa
