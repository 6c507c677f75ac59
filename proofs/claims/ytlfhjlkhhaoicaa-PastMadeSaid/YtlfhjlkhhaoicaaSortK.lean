/- slices.symMergeCmpFunc, at events: what stands behind the third search. -/
import Derived.Test.YtlfhjlkhhaoicaaSortG
import Derived.Test.YtlfhjlkhhaoicaaSortS
namespace Go.Proofs.Ytlfhjlkhhaoicaa
set_option linter.unusedVariables false
set_option linter.unusedSimpArgs false
open Go.RowKit
attribute [local go_sem] q_le0 q_le1 q_le2 q_le3 q_le4 q_le5 q_lt1 q_lt2 q_lt3 q_lt4 q_lt5

section
variable {P X Y Q : List Ev}
theorem two_x {x : Ev} {k c : Nat} (hk : k = P.length + c) (hx : X[c]? = some x) : (P ++ X ++ Y ++ Q)[k]? = some x := by
  have hc := (List.getElem?_eq_some_iff.1 hx).1
  rw [List.append_assoc, List.getElem?_append_left (by simp; omega), List.getElem?_append_right (by omega), hk, Nat.add_sub_cancel_left]
  exact hx
theorem two_y {y : Ev} {k c : Nat} (hk : k = P.length + X.length + c) (hy : Y[c]? = some y) : (P ++ X ++ Y ++ Q)[k]? = some y := by
  have hc := (List.getElem?_eq_some_iff.1 hy).1
  rw [List.getElem?_append_left (by simp; omega), List.getElem?_append_right (by simp; omega), hk]
  simp only [List.length_append, Nat.add_sub_cancel_left]
  exact hy
end
/-- Where the third search stands. -/
structure Bs3 (D : List Ev) (p lo hi i j : Nat) : Prop where
  lo : i = lo ∨ ∃ x z, D[i - 1]? = some x ∧ D[p - (i - 1)]? = some z ∧ leE x z
  hi : j = hi ∨ ∃ x z, D[j]? = some x ∧ D[p - j]? = some z ∧ ltE z x
theorem sym_cut {P X Y Q : List Ev} {a m e mid lo hi s t : Nat} (ha : a = P.length) (hm : m = a + X.length) (he : e = m + Y.length) (hX : Srt X) (hY : Srt Y) (h1 : a ≤ s) (h2 : s ≤ m) (h3 : s ≤ mid) (h4 : mid + m ≤ e + s) (ht : s + t = mid + m) (hlo : lo = a ∨ lo + e = mid + m) (hhi : hi = m ∨ hi = mid)
    (hb : Bs3 (P ++ X ++ Y ++ Q) (mid + m - 1) lo hi s s) : Cut4 (X.take (s - a)) (X.drop (s - a)) (Y.take (t - m)) (Y.drop (t - m)) := by
  refine Cut4.of (by rw [List.take_append_drop]; exact hX) (by rw [List.take_append_drop]; exact hY) (fun r l hr hl => ?_) (fun x y hx hy => ?_)
  · rw [List.head?_drop] at hl
    have hsm := (List.getElem?_eq_some_iff.1 hl).1
    have hyt : (Y.take (t - m)).length = t - m := by rw [List.length_take]; omega
    rw [List.getLast?_eq_getElem?, hyt] at hr
    have htm := (List.getElem?_eq_some_iff.1 hr).1
    rw [hyt] at htm
    rw [List.getElem?_take_of_lt (by omega)] at hr
    rcases hb.hi with h0 | ⟨x, z, hx, hz, hlt⟩
    · rcases hhi with h | h <;> omega
    · rw [two_x (c := s - a) (by omega) hl] at hx
      rw [two_y (c := t - m - 1) (by omega) hr] at hz
      cases hx; cases hz; exact hlt
  · rw [List.head?_drop] at hy
    have hte := (List.getElem?_eq_some_iff.1 hy).1
    have hxt : (X.take (s - a)).length = s - a := by rw [List.length_take]; omega
    rw [List.getLast?_eq_getElem?, hxt] at hx
    have hsa := (List.getElem?_eq_some_iff.1 hx).1
    rw [hxt] at hsa
    rw [List.getElem?_take_of_lt (by omega)] at hx
    rcases hb.lo with h0 | ⟨u, z, hu, hz, hlt⟩
    · rcases hlo with h | h <;> omega
    · rw [two_x (c := s - a - 1) (by omega) hx] at hu
      rw [two_y (c := t - m) (by omega) hy] at hz
      cases hu; cases hz; exact hlt
theorem Cut4.z0 {A1 L R A2 : List Ev} (h : Cut4 A1 L R A2) (hn : A1 = [] ∨ R = []) : Sorted (A1 ++ R) (A1 ++ R) := by
  refine ⟨Stb.refl _, ?_⟩
  rcases hn with rfl | rfl
  · exact h.left.2.1
  · rw [List.append_nil]; exact h.left.1
theorem Cut4.z9 {A1 L R A2 : List Ev} (h : Cut4 A1 L R A2) (hn : L = [] ∨ A2 = []) : Sorted (L ++ A2) (L ++ A2) := by
  refine ⟨Stb.refl _, ?_⟩
  rcases hn with rfl | rfl
  · exact h.left.2.2.2
  · rw [List.append_nil]; exact h.left.2.2.1
theorem SR_sw {w : World} {b : Nat} {U L R V : List Ev} (hn : L = [] ∨ R = []) (h : SR w b (U ++ L ++ R ++ V)) : SR w b (U ++ R ++ L ++ V) := by
  rcases hn with rfl | rfl <;> simpa using h
theorem SR_left0 {w : World} {b : Nat} {P A1 L R A2 Q : List Ev} (h : SR w b ((P ++ A1) ++ R ++ L ++ (A2 ++ Q))) : SR w b (P ++ (A1 ++ R) ++ (L ++ (A2 ++ Q))) := by simpa using h
theorem SR_right0 {w : World} {b : Nat} {P Z1 L A2 Q : List Ev} (h : SR w b (P ++ Z1 ++ (L ++ (A2 ++ Q)))) : SR w b ((P ++ Z1) ++ (L ++ A2) ++ Q) := by simpa using h
theorem fin_mrg {w : World} {b : Nat} {P X Y Q A1 L R A2 Z1 Z2 : List Ev} (hC : Cut4 A1 L R A2) (h1 : Sorted (A1 ++ R) Z1) (h2 : Sorted (L ++ A2) Z2) (hX : X = A1 ++ L) (hY : Y = R ++ A2) (hs : SR w b ((P ++ Z1) ++ Z2 ++ Q)) : ∃ Z, Sorted (X ++ Y) Z ∧ SR w b (P ++ Z ++ Q) := by
  have hd := hC.done h1.stb h1.srt h2.stb h2.srt
  exact ⟨Z1 ++ Z2, by rw [hX, hY]; exact ⟨hd.1, hd.2⟩, by simpa using hs⟩
def rightN : Nat → Code → Code
  | 0, c => c
  | n + 1, .seq _ c => rightN n c
  | _, c => c
/-- What stands behind the third search. -/
noncomputable def C38 : Code := rightN 8 (Try.f80.body.getD .skip)
set_option maxRecDepth 100000 in
set_option maxHeartbeats 4000000 in
theorem tl_rlr (f : Nat) (b cap N a m e mid i t : Nat) (P X Y Q A1 L R A2 : List Ev) (w wr : World) (u5 u6 u7 u8 u9 u10 u11 u12 u13 u14 u15 u16 u17 u21 u22 u23 u24 u25 u26 u27 u28 u29 u30 u31 u32 u33 u34 u35 u36 u37 u38 u39 u40 u41 u42 u43 u44 u45 u46 u47 u48 u49 u50 u51 u52 u53 u54 u55 u56 u57 u58 u59 u60 u61 u62 u63 u64 u65 u66 u67 u68 u69 u70 u71 u72 u73 u74 u75 u76 u77 u78 u79 u80 u81 u82 u83 u84 u85 u86 u87 u88 u89 u90 u91 u92 u93 u94 u95 u96 u97 u98 u99 u100 u101 u102 u103 u104 u105 u106 u107 u108 u109 u110 u111 u112 u113 u114 u115 u116 u117 u118 u119 u120 u121 u122 u123 u124 u125 u126 u127 u128 u129 u130 u131 u132 u133 u134 u135 u136 u137 u138 u139 u140 u141 u142 u143 u144 u145 u146 u147 u148 u149 u150 u151 u152 u153 u154 u155 u156 u157 u158 u159 u160 u161 u162 u163 u164 u165 u166 u167 u168 u169 u170 u171 u172 u173 u174 u175 u176 u177 u178 u179 u180 u181 u182 u183 u184 u185 u186 u187 u188 u189 u190 u191 u192 u193 u194 u195 u196 u197 u198 u199 u200 u201 u202 u203 u204 u205 u206 u207 u208 u209 u210 u211 u212 u213 u214 u215 u216 u217 u218 u219 : Value)
    (HROT : Hid (0 < L.length → 0 < R.length → Calls Try.prog 81 #[.slice (some ⟨b, 0, none⟩) N cap, .int .i64 i, .int .i64 m, .int .i64 t, .func (.func 63) #[] #[]] wr fun x w' => x = .returned (.tuple #[]) ∧ SR w' b ((P ++ A1) ++ R ++ L ++ (A2 ++ Q)) ∧ wr.grownBy w' (some b)))
    (HLF : Hid (0 < A1.length → 0 < R.length → ∀ w', SR w' b ((P ++ A1) ++ R ++ L ++ (A2 ++ Q)) → Calls Try.prog 80 #[.slice (some ⟨b, 0, none⟩) N cap, .int .i64 a, .int .i64 i, .int .i64 mid, .func (.func 63) #[] #[]] w' (MrgPost P A1 R (L ++ (A2 ++ Q)) b w')))
    (HRF : Hid (0 < L.length → 0 < A2.length → ∀ Z1 w', Sorted (A1 ++ R) Z1 → SR w' b (P ++ Z1 ++ (L ++ (A2 ++ Q))) → Calls Try.prog 80 #[.slice (some ⟨b, 0, none⟩) N cap, .int .i64 mid, .int .i64 t, .int .i64 e, .func (.func 63) #[] #[]] w' (MrgPost (P ++ Z1) L A2 Q b w')))
    (HC4 : Hid (Cut4 A1 L R A2)) (HXE : Hid (X = A1 ++ L)) (HYE : Hid (Y = R ++ A2)) (HL : Hid (A1.length = i - a ∧ L.length = m - i ∧ R.length = t - m ∧ A2.length = e - t)) (HT : Hid (i + t = mid + m))
    (hia : a ≤ i) (him : i ≤ m) (himid : i ≤ mid) (hmt : m ≤ t) (hte : t ≤ e) (hti : (mid : Int) + (m : Int) - (i : Int) = (t : Int)) (he2 : e ≤ 1000)
    (hr : SR wr b ((P ++ A1) ++ L ++ R ++ (A2 ++ Q))) (hg : w.grownBy wr (some b)) (c1 : i < m) (c2 : m < t) (c3 : a < i) (c4 : t < e) :
    Code.wp Try.prog C38 (bodyPost Try.prog Try.f80 (MrgPost P X Y Q b w)) ⟨#[.slice (some ⟨b, 0, none⟩) N cap, .int .i64 a, .int .i64 m, .int .i64 e, .func (.func 63) #[] #[], u5, u6, u7, u8, u9, u10, u11, u12, u13, u14, u15, u16, u17, .int .i64 mid, .int .i64 ((mid : Int) + (m : Int)), .int .i64 i, u21, u22, u23, u24, u25, u26, u27, u28, u29, u30, u31, u32, u33, u34, u35, u36, u37, u38, u39, u40, u41, u42, u43, u44, u45, u46, u47, u48, u49, u50, u51, u52, u53, u54, u55, u56, u57, u58, u59, u60, u61, u62, u63, u64, u65, u66, u67, u68, u69, u70, u71, u72, u73, u74, u75, u76, u77, u78, u79, u80, u81, u82, u83, u84, u85, u86, u87, u88, u89, u90, u91, u92, u93, u94, u95, u96, u97, u98, u99, u100, u101, u102, u103, u104, u105, u106, u107, u108, u109, u110, u111, u112, u113, u114, u115, u116, u117, u118, u119, u120, u121, u122, u123, u124, u125, u126, u127, u128, u129, u130, u131, u132, u133, u134, u135, u136, u137, u138, u139, u140, u141, u142, u143, u144, u145, u146, u147, u148, u149, u150, u151, u152, u153, u154, u155, u156, u157, u158, u159, u160, u161, u162, u163, u164, u165, u166, u167, u168, u169, u170, u171, u172, u173, u174, u175, u176, u177, u178, u179, u180, u181, u182, u183, u184, u185, u186, u187, u188, u189, u190, u191, u192, u193, u194, u195, u196, u197, u198, u199, u200, u201, u202, u203, u204, u205, u206, u207, u208, u209, u210, u211, u212, u213, u214, u215, u216, u217, u218, u219], []⟩ wr := by
  have HZ0 := Lib.hid (show A1 = [] ∨ R = [] → Sorted (A1 ++ R) (A1 ++ R) from fun h => HC4.out.z0 h)
  have HZ9 := Lib.hid (show L = [] ∨ A2 = [] → Sorted (L ++ A2) (L ++ A2) from fun h => HC4.out.z9 h)
  have HSW := Lib.hid (show L = [] ∨ R = [] → SR wr b ((P ++ A1) ++ R ++ L ++ (A2 ++ Q)) from fun h => SR_sw h hr)
  have hL := HL.out
  have hT := HT.out
  have d1 : decide ((i : Int) < (m : Int)) = true := decide_eq_true (by omega)
  have d2 : decide ((m : Int) < (t : Int)) = true := decide_eq_true (by omega)
  have d3 : decide ((a : Int) < (i : Int)) = true := decide_eq_true (by omega)
  have d4 : decide ((i : Int) < (mid : Int)) = true := decide_eq_true (by omega)
  have d5 : decide ((mid : Int) < (t : Int)) = true := decide_eq_true (by omega)
  have d6 : decide ((t : Int) < (e : Int)) = true := decide_eq_true (by omega)
  have HROT := Lib.hid (HROT.out (by rw [hL.2.1]; omega) (by rw [hL.2.2.1]; omega))
  have HLF := Lib.hid (HLF.out (by rw [hL.1]; omega) (by rw [hL.2.2.1]; omega))
  have HRF := Lib.hid (HRF.out (by rw [hL.2.1]; omega) (by rw [hL.2.2.2]; omega))
  clear hr hL hT
  conv => arg 2; whnf
  go_wp2_with (first | (go_at_call 81; refine HROT.out.mono ?_; rintro e5 w5 ⟨rfl, hs5, hg5⟩) | (go_at_call 80; (with_reducible refine (HLF.out _ hs5).mono ?_); rintro e6 w6 ⟨rfl, ⟨Z1, hZ1, hs6⟩, hg6⟩) | (go_at_call 80; (with_reducible refine (HRF.out Z1 _ hZ1 hs6).mono ?_); rintro e7 w7 ⟨rfl, ⟨Z2, hZ2, hs7⟩, hg7⟩))
  go_end0
  exact ⟨rfl, fin_mrg HC4.out hZ1 hZ2 HXE.out HYE.out hs7, gb_step hg (gb_step (gb_step hg5 hg6) hg7)⟩
set_option maxRecDepth 100000 in
set_option maxHeartbeats 4000000 in
theorem tl_rl (f : Nat) (b cap N a m e mid i t : Nat) (P X Y Q A1 L R A2 : List Ev) (w wr : World) (u5 u6 u7 u8 u9 u10 u11 u12 u13 u14 u15 u16 u17 u21 u22 u23 u24 u25 u26 u27 u28 u29 u30 u31 u32 u33 u34 u35 u36 u37 u38 u39 u40 u41 u42 u43 u44 u45 u46 u47 u48 u49 u50 u51 u52 u53 u54 u55 u56 u57 u58 u59 u60 u61 u62 u63 u64 u65 u66 u67 u68 u69 u70 u71 u72 u73 u74 u75 u76 u77 u78 u79 u80 u81 u82 u83 u84 u85 u86 u87 u88 u89 u90 u91 u92 u93 u94 u95 u96 u97 u98 u99 u100 u101 u102 u103 u104 u105 u106 u107 u108 u109 u110 u111 u112 u113 u114 u115 u116 u117 u118 u119 u120 u121 u122 u123 u124 u125 u126 u127 u128 u129 u130 u131 u132 u133 u134 u135 u136 u137 u138 u139 u140 u141 u142 u143 u144 u145 u146 u147 u148 u149 u150 u151 u152 u153 u154 u155 u156 u157 u158 u159 u160 u161 u162 u163 u164 u165 u166 u167 u168 u169 u170 u171 u172 u173 u174 u175 u176 u177 u178 u179 u180 u181 u182 u183 u184 u185 u186 u187 u188 u189 u190 u191 u192 u193 u194 u195 u196 u197 u198 u199 u200 u201 u202 u203 u204 u205 u206 u207 u208 u209 u210 u211 u212 u213 u214 u215 u216 u217 u218 u219 : Value)
    (HROT : Hid (0 < L.length → 0 < R.length → Calls Try.prog 81 #[.slice (some ⟨b, 0, none⟩) N cap, .int .i64 i, .int .i64 m, .int .i64 t, .func (.func 63) #[] #[]] wr fun x w' => x = .returned (.tuple #[]) ∧ SR w' b ((P ++ A1) ++ R ++ L ++ (A2 ++ Q)) ∧ wr.grownBy w' (some b)))
    (HLF : Hid (0 < A1.length → 0 < R.length → ∀ w', SR w' b ((P ++ A1) ++ R ++ L ++ (A2 ++ Q)) → Calls Try.prog 80 #[.slice (some ⟨b, 0, none⟩) N cap, .int .i64 a, .int .i64 i, .int .i64 mid, .func (.func 63) #[] #[]] w' (MrgPost P A1 R (L ++ (A2 ++ Q)) b w')))
    (HRF : Hid (0 < L.length → 0 < A2.length → ∀ Z1 w', Sorted (A1 ++ R) Z1 → SR w' b (P ++ Z1 ++ (L ++ (A2 ++ Q))) → Calls Try.prog 80 #[.slice (some ⟨b, 0, none⟩) N cap, .int .i64 mid, .int .i64 t, .int .i64 e, .func (.func 63) #[] #[]] w' (MrgPost (P ++ Z1) L A2 Q b w')))
    (HC4 : Hid (Cut4 A1 L R A2)) (HXE : Hid (X = A1 ++ L)) (HYE : Hid (Y = R ++ A2)) (HL : Hid (A1.length = i - a ∧ L.length = m - i ∧ R.length = t - m ∧ A2.length = e - t)) (HT : Hid (i + t = mid + m))
    (hia : a ≤ i) (him : i ≤ m) (himid : i ≤ mid) (hmt : m ≤ t) (hte : t ≤ e) (hti : (mid : Int) + (m : Int) - (i : Int) = (t : Int)) (he2 : e ≤ 1000)
    (hr : SR wr b ((P ++ A1) ++ L ++ R ++ (A2 ++ Q))) (hg : w.grownBy wr (some b)) (c1 : i < m) (c2 : m < t) (c3 : a < i) (c4 : ¬ t < e) :
    Code.wp Try.prog C38 (bodyPost Try.prog Try.f80 (MrgPost P X Y Q b w)) ⟨#[.slice (some ⟨b, 0, none⟩) N cap, .int .i64 a, .int .i64 m, .int .i64 e, .func (.func 63) #[] #[], u5, u6, u7, u8, u9, u10, u11, u12, u13, u14, u15, u16, u17, .int .i64 mid, .int .i64 ((mid : Int) + (m : Int)), .int .i64 i, u21, u22, u23, u24, u25, u26, u27, u28, u29, u30, u31, u32, u33, u34, u35, u36, u37, u38, u39, u40, u41, u42, u43, u44, u45, u46, u47, u48, u49, u50, u51, u52, u53, u54, u55, u56, u57, u58, u59, u60, u61, u62, u63, u64, u65, u66, u67, u68, u69, u70, u71, u72, u73, u74, u75, u76, u77, u78, u79, u80, u81, u82, u83, u84, u85, u86, u87, u88, u89, u90, u91, u92, u93, u94, u95, u96, u97, u98, u99, u100, u101, u102, u103, u104, u105, u106, u107, u108, u109, u110, u111, u112, u113, u114, u115, u116, u117, u118, u119, u120, u121, u122, u123, u124, u125, u126, u127, u128, u129, u130, u131, u132, u133, u134, u135, u136, u137, u138, u139, u140, u141, u142, u143, u144, u145, u146, u147, u148, u149, u150, u151, u152, u153, u154, u155, u156, u157, u158, u159, u160, u161, u162, u163, u164, u165, u166, u167, u168, u169, u170, u171, u172, u173, u174, u175, u176, u177, u178, u179, u180, u181, u182, u183, u184, u185, u186, u187, u188, u189, u190, u191, u192, u193, u194, u195, u196, u197, u198, u199, u200, u201, u202, u203, u204, u205, u206, u207, u208, u209, u210, u211, u212, u213, u214, u215, u216, u217, u218, u219], []⟩ wr := by
  have HZ0 := Lib.hid (show A1 = [] ∨ R = [] → Sorted (A1 ++ R) (A1 ++ R) from fun h => HC4.out.z0 h)
  have HZ9 := Lib.hid (show L = [] ∨ A2 = [] → Sorted (L ++ A2) (L ++ A2) from fun h => HC4.out.z9 h)
  have HSW := Lib.hid (show L = [] ∨ R = [] → SR wr b ((P ++ A1) ++ R ++ L ++ (A2 ++ Q)) from fun h => SR_sw h hr)
  have hL := HL.out
  have hT := HT.out
  have d1 : decide ((i : Int) < (m : Int)) = true := decide_eq_true (by omega)
  have d2 : decide ((m : Int) < (t : Int)) = true := decide_eq_true (by omega)
  have d3 : decide ((a : Int) < (i : Int)) = true := decide_eq_true (by omega)
  have d4 : decide ((i : Int) < (mid : Int)) = true := decide_eq_true (by omega)
  have d5 : decide ((mid : Int) < (t : Int)) = true := decide_eq_true (by omega)
  have d6 : decide ((t : Int) < (e : Int)) = false := decide_eq_false (by omega)
  have HROT := Lib.hid (HROT.out (by rw [hL.2.1]; omega) (by rw [hL.2.2.1]; omega))
  have HLF := Lib.hid (HLF.out (by rw [hL.1]; omega) (by rw [hL.2.2.1]; omega))
  have HZ9 := Lib.hid (HZ9.out (.inr (List.eq_nil_of_length_eq_zero (by rw [hL.2.2.2]; omega))))
  clear hr hL hT
  conv => arg 2; whnf
  go_wp2_with (first | (go_at_call 81; refine HROT.out.mono ?_; rintro e5 w5 ⟨rfl, hs5, hg5⟩) | (go_at_call 80; (with_reducible refine (HLF.out _ hs5).mono ?_); rintro e6 w6 ⟨rfl, ⟨Z1, hZ1, hs6⟩, hg6⟩))
  go_end0
  exact ⟨rfl, fin_mrg HC4.out hZ1 HZ9.out HXE.out HYE.out (SR_right0 hs6), gb_step hg (gb_step hg5 hg6)⟩
set_option maxRecDepth 100000 in
set_option maxHeartbeats 4000000 in
theorem tl_rr (f : Nat) (b cap N a m e mid i t : Nat) (P X Y Q A1 L R A2 : List Ev) (w wr : World) (u5 u6 u7 u8 u9 u10 u11 u12 u13 u14 u15 u16 u17 u21 u22 u23 u24 u25 u26 u27 u28 u29 u30 u31 u32 u33 u34 u35 u36 u37 u38 u39 u40 u41 u42 u43 u44 u45 u46 u47 u48 u49 u50 u51 u52 u53 u54 u55 u56 u57 u58 u59 u60 u61 u62 u63 u64 u65 u66 u67 u68 u69 u70 u71 u72 u73 u74 u75 u76 u77 u78 u79 u80 u81 u82 u83 u84 u85 u86 u87 u88 u89 u90 u91 u92 u93 u94 u95 u96 u97 u98 u99 u100 u101 u102 u103 u104 u105 u106 u107 u108 u109 u110 u111 u112 u113 u114 u115 u116 u117 u118 u119 u120 u121 u122 u123 u124 u125 u126 u127 u128 u129 u130 u131 u132 u133 u134 u135 u136 u137 u138 u139 u140 u141 u142 u143 u144 u145 u146 u147 u148 u149 u150 u151 u152 u153 u154 u155 u156 u157 u158 u159 u160 u161 u162 u163 u164 u165 u166 u167 u168 u169 u170 u171 u172 u173 u174 u175 u176 u177 u178 u179 u180 u181 u182 u183 u184 u185 u186 u187 u188 u189 u190 u191 u192 u193 u194 u195 u196 u197 u198 u199 u200 u201 u202 u203 u204 u205 u206 u207 u208 u209 u210 u211 u212 u213 u214 u215 u216 u217 u218 u219 : Value)
    (HROT : Hid (0 < L.length → 0 < R.length → Calls Try.prog 81 #[.slice (some ⟨b, 0, none⟩) N cap, .int .i64 i, .int .i64 m, .int .i64 t, .func (.func 63) #[] #[]] wr fun x w' => x = .returned (.tuple #[]) ∧ SR w' b ((P ++ A1) ++ R ++ L ++ (A2 ++ Q)) ∧ wr.grownBy w' (some b)))
    (HLF : Hid (0 < A1.length → 0 < R.length → ∀ w', SR w' b ((P ++ A1) ++ R ++ L ++ (A2 ++ Q)) → Calls Try.prog 80 #[.slice (some ⟨b, 0, none⟩) N cap, .int .i64 a, .int .i64 i, .int .i64 mid, .func (.func 63) #[] #[]] w' (MrgPost P A1 R (L ++ (A2 ++ Q)) b w')))
    (HRF : Hid (0 < L.length → 0 < A2.length → ∀ Z1 w', Sorted (A1 ++ R) Z1 → SR w' b (P ++ Z1 ++ (L ++ (A2 ++ Q))) → Calls Try.prog 80 #[.slice (some ⟨b, 0, none⟩) N cap, .int .i64 mid, .int .i64 t, .int .i64 e, .func (.func 63) #[] #[]] w' (MrgPost (P ++ Z1) L A2 Q b w')))
    (HC4 : Hid (Cut4 A1 L R A2)) (HXE : Hid (X = A1 ++ L)) (HYE : Hid (Y = R ++ A2)) (HL : Hid (A1.length = i - a ∧ L.length = m - i ∧ R.length = t - m ∧ A2.length = e - t)) (HT : Hid (i + t = mid + m))
    (hia : a ≤ i) (him : i ≤ m) (himid : i ≤ mid) (hmt : m ≤ t) (hte : t ≤ e) (hti : (mid : Int) + (m : Int) - (i : Int) = (t : Int)) (he2 : e ≤ 1000)
    (hr : SR wr b ((P ++ A1) ++ L ++ R ++ (A2 ++ Q))) (hg : w.grownBy wr (some b)) (c1 : i < m) (c2 : m < t) (c3 : ¬ a < i) (c4 : t < e) :
    Code.wp Try.prog C38 (bodyPost Try.prog Try.f80 (MrgPost P X Y Q b w)) ⟨#[.slice (some ⟨b, 0, none⟩) N cap, .int .i64 a, .int .i64 m, .int .i64 e, .func (.func 63) #[] #[], u5, u6, u7, u8, u9, u10, u11, u12, u13, u14, u15, u16, u17, .int .i64 mid, .int .i64 ((mid : Int) + (m : Int)), .int .i64 i, u21, u22, u23, u24, u25, u26, u27, u28, u29, u30, u31, u32, u33, u34, u35, u36, u37, u38, u39, u40, u41, u42, u43, u44, u45, u46, u47, u48, u49, u50, u51, u52, u53, u54, u55, u56, u57, u58, u59, u60, u61, u62, u63, u64, u65, u66, u67, u68, u69, u70, u71, u72, u73, u74, u75, u76, u77, u78, u79, u80, u81, u82, u83, u84, u85, u86, u87, u88, u89, u90, u91, u92, u93, u94, u95, u96, u97, u98, u99, u100, u101, u102, u103, u104, u105, u106, u107, u108, u109, u110, u111, u112, u113, u114, u115, u116, u117, u118, u119, u120, u121, u122, u123, u124, u125, u126, u127, u128, u129, u130, u131, u132, u133, u134, u135, u136, u137, u138, u139, u140, u141, u142, u143, u144, u145, u146, u147, u148, u149, u150, u151, u152, u153, u154, u155, u156, u157, u158, u159, u160, u161, u162, u163, u164, u165, u166, u167, u168, u169, u170, u171, u172, u173, u174, u175, u176, u177, u178, u179, u180, u181, u182, u183, u184, u185, u186, u187, u188, u189, u190, u191, u192, u193, u194, u195, u196, u197, u198, u199, u200, u201, u202, u203, u204, u205, u206, u207, u208, u209, u210, u211, u212, u213, u214, u215, u216, u217, u218, u219], []⟩ wr := by
  have HZ0 := Lib.hid (show A1 = [] ∨ R = [] → Sorted (A1 ++ R) (A1 ++ R) from fun h => HC4.out.z0 h)
  have HZ9 := Lib.hid (show L = [] ∨ A2 = [] → Sorted (L ++ A2) (L ++ A2) from fun h => HC4.out.z9 h)
  have HSW := Lib.hid (show L = [] ∨ R = [] → SR wr b ((P ++ A1) ++ R ++ L ++ (A2 ++ Q)) from fun h => SR_sw h hr)
  have hL := HL.out
  have hT := HT.out
  have d1 : decide ((i : Int) < (m : Int)) = true := decide_eq_true (by omega)
  have d2 : decide ((m : Int) < (t : Int)) = true := decide_eq_true (by omega)
  have d3 : decide ((a : Int) < (i : Int)) = false := decide_eq_false (by omega)
  have d5 : decide ((mid : Int) < (t : Int)) = true := decide_eq_true (by omega)
  have d6 : decide ((t : Int) < (e : Int)) = true := decide_eq_true (by omega)
  have HROT := Lib.hid (HROT.out (by rw [hL.2.1]; omega) (by rw [hL.2.2.1]; omega))
  have HZ0 := Lib.hid (HZ0.out (.inl (List.eq_nil_of_length_eq_zero (by rw [hL.1]; omega))))
  have HRF := Lib.hid (HRF.out (by rw [hL.2.1]; omega) (by rw [hL.2.2.2]; omega))
  clear hr hL hT
  conv => arg 2; whnf
  go_wp2_with (first | (go_at_call 81; refine HROT.out.mono ?_; rintro e5 w5 ⟨rfl, hs5, hg5⟩) | (go_at_call 80; (with_reducible refine (HRF.out (A1 ++ R) _ HZ0.out (SR_left0 hs5)).mono ?_); rintro e7 w7 ⟨rfl, ⟨Z2, hZ2, hs7⟩, hg7⟩))
  go_end0
  exact ⟨rfl, fin_mrg HC4.out HZ0.out hZ2 HXE.out HYE.out hs7, gb_step hg (gb_step hg5 hg7)⟩
set_option maxRecDepth 100000 in
set_option maxHeartbeats 4000000 in
theorem tl_r (f : Nat) (b cap N a m e mid i t : Nat) (P X Y Q A1 L R A2 : List Ev) (w wr : World) (u5 u6 u7 u8 u9 u10 u11 u12 u13 u14 u15 u16 u17 u21 u22 u23 u24 u25 u26 u27 u28 u29 u30 u31 u32 u33 u34 u35 u36 u37 u38 u39 u40 u41 u42 u43 u44 u45 u46 u47 u48 u49 u50 u51 u52 u53 u54 u55 u56 u57 u58 u59 u60 u61 u62 u63 u64 u65 u66 u67 u68 u69 u70 u71 u72 u73 u74 u75 u76 u77 u78 u79 u80 u81 u82 u83 u84 u85 u86 u87 u88 u89 u90 u91 u92 u93 u94 u95 u96 u97 u98 u99 u100 u101 u102 u103 u104 u105 u106 u107 u108 u109 u110 u111 u112 u113 u114 u115 u116 u117 u118 u119 u120 u121 u122 u123 u124 u125 u126 u127 u128 u129 u130 u131 u132 u133 u134 u135 u136 u137 u138 u139 u140 u141 u142 u143 u144 u145 u146 u147 u148 u149 u150 u151 u152 u153 u154 u155 u156 u157 u158 u159 u160 u161 u162 u163 u164 u165 u166 u167 u168 u169 u170 u171 u172 u173 u174 u175 u176 u177 u178 u179 u180 u181 u182 u183 u184 u185 u186 u187 u188 u189 u190 u191 u192 u193 u194 u195 u196 u197 u198 u199 u200 u201 u202 u203 u204 u205 u206 u207 u208 u209 u210 u211 u212 u213 u214 u215 u216 u217 u218 u219 : Value)
    (HROT : Hid (0 < L.length → 0 < R.length → Calls Try.prog 81 #[.slice (some ⟨b, 0, none⟩) N cap, .int .i64 i, .int .i64 m, .int .i64 t, .func (.func 63) #[] #[]] wr fun x w' => x = .returned (.tuple #[]) ∧ SR w' b ((P ++ A1) ++ R ++ L ++ (A2 ++ Q)) ∧ wr.grownBy w' (some b)))
    (HLF : Hid (0 < A1.length → 0 < R.length → ∀ w', SR w' b ((P ++ A1) ++ R ++ L ++ (A2 ++ Q)) → Calls Try.prog 80 #[.slice (some ⟨b, 0, none⟩) N cap, .int .i64 a, .int .i64 i, .int .i64 mid, .func (.func 63) #[] #[]] w' (MrgPost P A1 R (L ++ (A2 ++ Q)) b w')))
    (HRF : Hid (0 < L.length → 0 < A2.length → ∀ Z1 w', Sorted (A1 ++ R) Z1 → SR w' b (P ++ Z1 ++ (L ++ (A2 ++ Q))) → Calls Try.prog 80 #[.slice (some ⟨b, 0, none⟩) N cap, .int .i64 mid, .int .i64 t, .int .i64 e, .func (.func 63) #[] #[]] w' (MrgPost (P ++ Z1) L A2 Q b w')))
    (HC4 : Hid (Cut4 A1 L R A2)) (HXE : Hid (X = A1 ++ L)) (HYE : Hid (Y = R ++ A2)) (HL : Hid (A1.length = i - a ∧ L.length = m - i ∧ R.length = t - m ∧ A2.length = e - t)) (HT : Hid (i + t = mid + m))
    (hia : a ≤ i) (him : i ≤ m) (himid : i ≤ mid) (hmt : m ≤ t) (hte : t ≤ e) (hti : (mid : Int) + (m : Int) - (i : Int) = (t : Int)) (he2 : e ≤ 1000)
    (hr : SR wr b ((P ++ A1) ++ L ++ R ++ (A2 ++ Q))) (hg : w.grownBy wr (some b)) (c1 : i < m) (c2 : m < t) (c3 : ¬ a < i) (c4 : ¬ t < e) :
    Code.wp Try.prog C38 (bodyPost Try.prog Try.f80 (MrgPost P X Y Q b w)) ⟨#[.slice (some ⟨b, 0, none⟩) N cap, .int .i64 a, .int .i64 m, .int .i64 e, .func (.func 63) #[] #[], u5, u6, u7, u8, u9, u10, u11, u12, u13, u14, u15, u16, u17, .int .i64 mid, .int .i64 ((mid : Int) + (m : Int)), .int .i64 i, u21, u22, u23, u24, u25, u26, u27, u28, u29, u30, u31, u32, u33, u34, u35, u36, u37, u38, u39, u40, u41, u42, u43, u44, u45, u46, u47, u48, u49, u50, u51, u52, u53, u54, u55, u56, u57, u58, u59, u60, u61, u62, u63, u64, u65, u66, u67, u68, u69, u70, u71, u72, u73, u74, u75, u76, u77, u78, u79, u80, u81, u82, u83, u84, u85, u86, u87, u88, u89, u90, u91, u92, u93, u94, u95, u96, u97, u98, u99, u100, u101, u102, u103, u104, u105, u106, u107, u108, u109, u110, u111, u112, u113, u114, u115, u116, u117, u118, u119, u120, u121, u122, u123, u124, u125, u126, u127, u128, u129, u130, u131, u132, u133, u134, u135, u136, u137, u138, u139, u140, u141, u142, u143, u144, u145, u146, u147, u148, u149, u150, u151, u152, u153, u154, u155, u156, u157, u158, u159, u160, u161, u162, u163, u164, u165, u166, u167, u168, u169, u170, u171, u172, u173, u174, u175, u176, u177, u178, u179, u180, u181, u182, u183, u184, u185, u186, u187, u188, u189, u190, u191, u192, u193, u194, u195, u196, u197, u198, u199, u200, u201, u202, u203, u204, u205, u206, u207, u208, u209, u210, u211, u212, u213, u214, u215, u216, u217, u218, u219], []⟩ wr := by
  have HZ0 := Lib.hid (show A1 = [] ∨ R = [] → Sorted (A1 ++ R) (A1 ++ R) from fun h => HC4.out.z0 h)
  have HZ9 := Lib.hid (show L = [] ∨ A2 = [] → Sorted (L ++ A2) (L ++ A2) from fun h => HC4.out.z9 h)
  have HSW := Lib.hid (show L = [] ∨ R = [] → SR wr b ((P ++ A1) ++ R ++ L ++ (A2 ++ Q)) from fun h => SR_sw h hr)
  have hL := HL.out
  have hT := HT.out
  have d1 : decide ((i : Int) < (m : Int)) = true := decide_eq_true (by omega)
  have d2 : decide ((m : Int) < (t : Int)) = true := decide_eq_true (by omega)
  have d3 : decide ((a : Int) < (i : Int)) = false := decide_eq_false (by omega)
  have d5 : decide ((mid : Int) < (t : Int)) = true := decide_eq_true (by omega)
  have d6 : decide ((t : Int) < (e : Int)) = false := decide_eq_false (by omega)
  have HROT := Lib.hid (HROT.out (by rw [hL.2.1]; omega) (by rw [hL.2.2.1]; omega))
  have HZ0 := Lib.hid (HZ0.out (.inl (List.eq_nil_of_length_eq_zero (by rw [hL.1]; omega))))
  have HZ9 := Lib.hid (HZ9.out (.inr (List.eq_nil_of_length_eq_zero (by rw [hL.2.2.2]; omega))))
  clear hr hL hT
  conv => arg 2; whnf
  go_wp2_with (first | (go_at_call 81; refine HROT.out.mono ?_; rintro e5 w5 ⟨rfl, hs5, hg5⟩))
  go_end0
  exact ⟨rfl, fin_mrg HC4.out HZ0.out HZ9.out HXE.out HYE.out (SR_right0 (SR_left0 hs5)), gb_step hg hg5⟩
set_option maxRecDepth 100000 in
set_option maxHeartbeats 4000000 in
theorem tl_l (f : Nat) (b cap N a m e mid i t : Nat) (P X Y Q A1 L R A2 : List Ev) (w wr : World) (u5 u6 u7 u8 u9 u10 u11 u12 u13 u14 u15 u16 u17 u21 u22 u23 u24 u25 u26 u27 u28 u29 u30 u31 u32 u33 u34 u35 u36 u37 u38 u39 u40 u41 u42 u43 u44 u45 u46 u47 u48 u49 u50 u51 u52 u53 u54 u55 u56 u57 u58 u59 u60 u61 u62 u63 u64 u65 u66 u67 u68 u69 u70 u71 u72 u73 u74 u75 u76 u77 u78 u79 u80 u81 u82 u83 u84 u85 u86 u87 u88 u89 u90 u91 u92 u93 u94 u95 u96 u97 u98 u99 u100 u101 u102 u103 u104 u105 u106 u107 u108 u109 u110 u111 u112 u113 u114 u115 u116 u117 u118 u119 u120 u121 u122 u123 u124 u125 u126 u127 u128 u129 u130 u131 u132 u133 u134 u135 u136 u137 u138 u139 u140 u141 u142 u143 u144 u145 u146 u147 u148 u149 u150 u151 u152 u153 u154 u155 u156 u157 u158 u159 u160 u161 u162 u163 u164 u165 u166 u167 u168 u169 u170 u171 u172 u173 u174 u175 u176 u177 u178 u179 u180 u181 u182 u183 u184 u185 u186 u187 u188 u189 u190 u191 u192 u193 u194 u195 u196 u197 u198 u199 u200 u201 u202 u203 u204 u205 u206 u207 u208 u209 u210 u211 u212 u213 u214 u215 u216 u217 u218 u219 : Value)
    (HROT : Hid (0 < L.length → 0 < R.length → Calls Try.prog 81 #[.slice (some ⟨b, 0, none⟩) N cap, .int .i64 i, .int .i64 m, .int .i64 t, .func (.func 63) #[] #[]] wr fun x w' => x = .returned (.tuple #[]) ∧ SR w' b ((P ++ A1) ++ R ++ L ++ (A2 ++ Q)) ∧ wr.grownBy w' (some b)))
    (HLF : Hid (0 < A1.length → 0 < R.length → ∀ w', SR w' b ((P ++ A1) ++ R ++ L ++ (A2 ++ Q)) → Calls Try.prog 80 #[.slice (some ⟨b, 0, none⟩) N cap, .int .i64 a, .int .i64 i, .int .i64 mid, .func (.func 63) #[] #[]] w' (MrgPost P A1 R (L ++ (A2 ++ Q)) b w')))
    (HRF : Hid (0 < L.length → 0 < A2.length → ∀ Z1 w', Sorted (A1 ++ R) Z1 → SR w' b (P ++ Z1 ++ (L ++ (A2 ++ Q))) → Calls Try.prog 80 #[.slice (some ⟨b, 0, none⟩) N cap, .int .i64 mid, .int .i64 t, .int .i64 e, .func (.func 63) #[] #[]] w' (MrgPost (P ++ Z1) L A2 Q b w')))
    (HC4 : Hid (Cut4 A1 L R A2)) (HXE : Hid (X = A1 ++ L)) (HYE : Hid (Y = R ++ A2)) (HL : Hid (A1.length = i - a ∧ L.length = m - i ∧ R.length = t - m ∧ A2.length = e - t)) (HT : Hid (i + t = mid + m))
    (hia : a ≤ i) (him : i ≤ m) (himid : i ≤ mid) (hmt : m ≤ t) (hte : t ≤ e) (hti : (mid : Int) + (m : Int) - (i : Int) = (t : Int)) (he2 : e ≤ 1000)
    (hr : SR wr b ((P ++ A1) ++ L ++ R ++ (A2 ++ Q))) (hg : w.grownBy wr (some b)) (c1 : ¬ i < m) (c2 : m < t) (c3 : a < i) :
    Code.wp Try.prog C38 (bodyPost Try.prog Try.f80 (MrgPost P X Y Q b w)) ⟨#[.slice (some ⟨b, 0, none⟩) N cap, .int .i64 a, .int .i64 m, .int .i64 e, .func (.func 63) #[] #[], u5, u6, u7, u8, u9, u10, u11, u12, u13, u14, u15, u16, u17, .int .i64 mid, .int .i64 ((mid : Int) + (m : Int)), .int .i64 i, u21, u22, u23, u24, u25, u26, u27, u28, u29, u30, u31, u32, u33, u34, u35, u36, u37, u38, u39, u40, u41, u42, u43, u44, u45, u46, u47, u48, u49, u50, u51, u52, u53, u54, u55, u56, u57, u58, u59, u60, u61, u62, u63, u64, u65, u66, u67, u68, u69, u70, u71, u72, u73, u74, u75, u76, u77, u78, u79, u80, u81, u82, u83, u84, u85, u86, u87, u88, u89, u90, u91, u92, u93, u94, u95, u96, u97, u98, u99, u100, u101, u102, u103, u104, u105, u106, u107, u108, u109, u110, u111, u112, u113, u114, u115, u116, u117, u118, u119, u120, u121, u122, u123, u124, u125, u126, u127, u128, u129, u130, u131, u132, u133, u134, u135, u136, u137, u138, u139, u140, u141, u142, u143, u144, u145, u146, u147, u148, u149, u150, u151, u152, u153, u154, u155, u156, u157, u158, u159, u160, u161, u162, u163, u164, u165, u166, u167, u168, u169, u170, u171, u172, u173, u174, u175, u176, u177, u178, u179, u180, u181, u182, u183, u184, u185, u186, u187, u188, u189, u190, u191, u192, u193, u194, u195, u196, u197, u198, u199, u200, u201, u202, u203, u204, u205, u206, u207, u208, u209, u210, u211, u212, u213, u214, u215, u216, u217, u218, u219], []⟩ wr := by
  have HZ0 := Lib.hid (show A1 = [] ∨ R = [] → Sorted (A1 ++ R) (A1 ++ R) from fun h => HC4.out.z0 h)
  have HZ9 := Lib.hid (show L = [] ∨ A2 = [] → Sorted (L ++ A2) (L ++ A2) from fun h => HC4.out.z9 h)
  have HSW := Lib.hid (show L = [] ∨ R = [] → SR wr b ((P ++ A1) ++ R ++ L ++ (A2 ++ Q)) from fun h => SR_sw h hr)
  have hL := HL.out
  have hT := HT.out
  have d1 : decide ((i : Int) < (m : Int)) = false := decide_eq_false (by omega)
  have d3 : decide ((a : Int) < (i : Int)) = true := decide_eq_true (by omega)
  have d4 : decide ((i : Int) < (mid : Int)) = true := decide_eq_true (by omega)
  have d5 : decide ((mid : Int) < (t : Int)) = false := decide_eq_false (by omega)
  have HSW := Lib.hid (HSW.out (.inl (List.eq_nil_of_length_eq_zero (by rw [hL.2.1]; omega))))
  have HLF := Lib.hid (HLF.out (by rw [hL.1]; omega) (by rw [hL.2.2.1]; omega))
  have HZ9 := Lib.hid (HZ9.out (.inl (List.eq_nil_of_length_eq_zero (by rw [hL.2.1]; omega))))
  clear hr hL hT
  conv => arg 2; whnf
  have hs5 := HSW.out
  have hg5 : wr.grownBy wr (some b) := World.grownBy.refl wr _
  go_wp2_with (first | (go_at_call 80; (with_reducible refine (HLF.out _ hs5).mono ?_); rintro e6 w6 ⟨rfl, ⟨Z1, hZ1, hs6⟩, hg6⟩))
  go_end0
  exact ⟨rfl, fin_mrg HC4.out hZ1 HZ9.out HXE.out HYE.out (SR_right0 hs6), gb_step hg (gb_step hg5 hg6)⟩
set_option maxRecDepth 100000 in
set_option maxHeartbeats 4000000 in
theorem tl_l0 (f : Nat) (b cap N a m e mid i t : Nat) (P X Y Q A1 L R A2 : List Ev) (w wr : World) (u5 u6 u7 u8 u9 u10 u11 u12 u13 u14 u15 u16 u17 u21 u22 u23 u24 u25 u26 u27 u28 u29 u30 u31 u32 u33 u34 u35 u36 u37 u38 u39 u40 u41 u42 u43 u44 u45 u46 u47 u48 u49 u50 u51 u52 u53 u54 u55 u56 u57 u58 u59 u60 u61 u62 u63 u64 u65 u66 u67 u68 u69 u70 u71 u72 u73 u74 u75 u76 u77 u78 u79 u80 u81 u82 u83 u84 u85 u86 u87 u88 u89 u90 u91 u92 u93 u94 u95 u96 u97 u98 u99 u100 u101 u102 u103 u104 u105 u106 u107 u108 u109 u110 u111 u112 u113 u114 u115 u116 u117 u118 u119 u120 u121 u122 u123 u124 u125 u126 u127 u128 u129 u130 u131 u132 u133 u134 u135 u136 u137 u138 u139 u140 u141 u142 u143 u144 u145 u146 u147 u148 u149 u150 u151 u152 u153 u154 u155 u156 u157 u158 u159 u160 u161 u162 u163 u164 u165 u166 u167 u168 u169 u170 u171 u172 u173 u174 u175 u176 u177 u178 u179 u180 u181 u182 u183 u184 u185 u186 u187 u188 u189 u190 u191 u192 u193 u194 u195 u196 u197 u198 u199 u200 u201 u202 u203 u204 u205 u206 u207 u208 u209 u210 u211 u212 u213 u214 u215 u216 u217 u218 u219 : Value)
    (HROT : Hid (0 < L.length → 0 < R.length → Calls Try.prog 81 #[.slice (some ⟨b, 0, none⟩) N cap, .int .i64 i, .int .i64 m, .int .i64 t, .func (.func 63) #[] #[]] wr fun x w' => x = .returned (.tuple #[]) ∧ SR w' b ((P ++ A1) ++ R ++ L ++ (A2 ++ Q)) ∧ wr.grownBy w' (some b)))
    (HLF : Hid (0 < A1.length → 0 < R.length → ∀ w', SR w' b ((P ++ A1) ++ R ++ L ++ (A2 ++ Q)) → Calls Try.prog 80 #[.slice (some ⟨b, 0, none⟩) N cap, .int .i64 a, .int .i64 i, .int .i64 mid, .func (.func 63) #[] #[]] w' (MrgPost P A1 R (L ++ (A2 ++ Q)) b w')))
    (HRF : Hid (0 < L.length → 0 < A2.length → ∀ Z1 w', Sorted (A1 ++ R) Z1 → SR w' b (P ++ Z1 ++ (L ++ (A2 ++ Q))) → Calls Try.prog 80 #[.slice (some ⟨b, 0, none⟩) N cap, .int .i64 mid, .int .i64 t, .int .i64 e, .func (.func 63) #[] #[]] w' (MrgPost (P ++ Z1) L A2 Q b w')))
    (HC4 : Hid (Cut4 A1 L R A2)) (HXE : Hid (X = A1 ++ L)) (HYE : Hid (Y = R ++ A2)) (HL : Hid (A1.length = i - a ∧ L.length = m - i ∧ R.length = t - m ∧ A2.length = e - t)) (HT : Hid (i + t = mid + m))
    (hia : a ≤ i) (him : i ≤ m) (himid : i ≤ mid) (hmt : m ≤ t) (hte : t ≤ e) (hti : (mid : Int) + (m : Int) - (i : Int) = (t : Int)) (he2 : e ≤ 1000)
    (hr : SR wr b ((P ++ A1) ++ L ++ R ++ (A2 ++ Q))) (hg : w.grownBy wr (some b)) (c1 : ¬ i < m) (c2 : m < t) (c3 : ¬ a < i) :
    Code.wp Try.prog C38 (bodyPost Try.prog Try.f80 (MrgPost P X Y Q b w)) ⟨#[.slice (some ⟨b, 0, none⟩) N cap, .int .i64 a, .int .i64 m, .int .i64 e, .func (.func 63) #[] #[], u5, u6, u7, u8, u9, u10, u11, u12, u13, u14, u15, u16, u17, .int .i64 mid, .int .i64 ((mid : Int) + (m : Int)), .int .i64 i, u21, u22, u23, u24, u25, u26, u27, u28, u29, u30, u31, u32, u33, u34, u35, u36, u37, u38, u39, u40, u41, u42, u43, u44, u45, u46, u47, u48, u49, u50, u51, u52, u53, u54, u55, u56, u57, u58, u59, u60, u61, u62, u63, u64, u65, u66, u67, u68, u69, u70, u71, u72, u73, u74, u75, u76, u77, u78, u79, u80, u81, u82, u83, u84, u85, u86, u87, u88, u89, u90, u91, u92, u93, u94, u95, u96, u97, u98, u99, u100, u101, u102, u103, u104, u105, u106, u107, u108, u109, u110, u111, u112, u113, u114, u115, u116, u117, u118, u119, u120, u121, u122, u123, u124, u125, u126, u127, u128, u129, u130, u131, u132, u133, u134, u135, u136, u137, u138, u139, u140, u141, u142, u143, u144, u145, u146, u147, u148, u149, u150, u151, u152, u153, u154, u155, u156, u157, u158, u159, u160, u161, u162, u163, u164, u165, u166, u167, u168, u169, u170, u171, u172, u173, u174, u175, u176, u177, u178, u179, u180, u181, u182, u183, u184, u185, u186, u187, u188, u189, u190, u191, u192, u193, u194, u195, u196, u197, u198, u199, u200, u201, u202, u203, u204, u205, u206, u207, u208, u209, u210, u211, u212, u213, u214, u215, u216, u217, u218, u219], []⟩ wr := by
  have HZ0 := Lib.hid (show A1 = [] ∨ R = [] → Sorted (A1 ++ R) (A1 ++ R) from fun h => HC4.out.z0 h)
  have HZ9 := Lib.hid (show L = [] ∨ A2 = [] → Sorted (L ++ A2) (L ++ A2) from fun h => HC4.out.z9 h)
  have HSW := Lib.hid (show L = [] ∨ R = [] → SR wr b ((P ++ A1) ++ R ++ L ++ (A2 ++ Q)) from fun h => SR_sw h hr)
  have hL := HL.out
  have hT := HT.out
  have d1 : decide ((i : Int) < (m : Int)) = false := decide_eq_false (by omega)
  have d3 : decide ((a : Int) < (i : Int)) = false := decide_eq_false (by omega)
  have d5 : decide ((mid : Int) < (t : Int)) = false := decide_eq_false (by omega)
  have HSW := Lib.hid (HSW.out (.inl (List.eq_nil_of_length_eq_zero (by rw [hL.2.1]; omega))))
  have HZ0 := Lib.hid (HZ0.out (.inl (List.eq_nil_of_length_eq_zero (by rw [hL.1]; omega))))
  have HZ9 := Lib.hid (HZ9.out (.inl (List.eq_nil_of_length_eq_zero (by rw [hL.2.1]; omega))))
  clear hr hL hT
  conv => arg 2; whnf
  have hs5 := HSW.out
  have hg5 : wr.grownBy wr (some b) := World.grownBy.refl wr _
  go_wp2_with fail
  go_end0
  exact ⟨rfl, fin_mrg HC4.out HZ0.out HZ9.out HXE.out HYE.out (SR_right0 (SR_left0 hs5)), gb_step hg hg5⟩
set_option maxRecDepth 100000 in
set_option maxHeartbeats 4000000 in
theorem tl_n (f : Nat) (b cap N a m e mid i t : Nat) (P X Y Q A1 L R A2 : List Ev) (w wr : World) (u5 u6 u7 u8 u9 u10 u11 u12 u13 u14 u15 u16 u17 u21 u22 u23 u24 u25 u26 u27 u28 u29 u30 u31 u32 u33 u34 u35 u36 u37 u38 u39 u40 u41 u42 u43 u44 u45 u46 u47 u48 u49 u50 u51 u52 u53 u54 u55 u56 u57 u58 u59 u60 u61 u62 u63 u64 u65 u66 u67 u68 u69 u70 u71 u72 u73 u74 u75 u76 u77 u78 u79 u80 u81 u82 u83 u84 u85 u86 u87 u88 u89 u90 u91 u92 u93 u94 u95 u96 u97 u98 u99 u100 u101 u102 u103 u104 u105 u106 u107 u108 u109 u110 u111 u112 u113 u114 u115 u116 u117 u118 u119 u120 u121 u122 u123 u124 u125 u126 u127 u128 u129 u130 u131 u132 u133 u134 u135 u136 u137 u138 u139 u140 u141 u142 u143 u144 u145 u146 u147 u148 u149 u150 u151 u152 u153 u154 u155 u156 u157 u158 u159 u160 u161 u162 u163 u164 u165 u166 u167 u168 u169 u170 u171 u172 u173 u174 u175 u176 u177 u178 u179 u180 u181 u182 u183 u184 u185 u186 u187 u188 u189 u190 u191 u192 u193 u194 u195 u196 u197 u198 u199 u200 u201 u202 u203 u204 u205 u206 u207 u208 u209 u210 u211 u212 u213 u214 u215 u216 u217 u218 u219 : Value)
    (HROT : Hid (0 < L.length → 0 < R.length → Calls Try.prog 81 #[.slice (some ⟨b, 0, none⟩) N cap, .int .i64 i, .int .i64 m, .int .i64 t, .func (.func 63) #[] #[]] wr fun x w' => x = .returned (.tuple #[]) ∧ SR w' b ((P ++ A1) ++ R ++ L ++ (A2 ++ Q)) ∧ wr.grownBy w' (some b)))
    (HLF : Hid (0 < A1.length → 0 < R.length → ∀ w', SR w' b ((P ++ A1) ++ R ++ L ++ (A2 ++ Q)) → Calls Try.prog 80 #[.slice (some ⟨b, 0, none⟩) N cap, .int .i64 a, .int .i64 i, .int .i64 mid, .func (.func 63) #[] #[]] w' (MrgPost P A1 R (L ++ (A2 ++ Q)) b w')))
    (HRF : Hid (0 < L.length → 0 < A2.length → ∀ Z1 w', Sorted (A1 ++ R) Z1 → SR w' b (P ++ Z1 ++ (L ++ (A2 ++ Q))) → Calls Try.prog 80 #[.slice (some ⟨b, 0, none⟩) N cap, .int .i64 mid, .int .i64 t, .int .i64 e, .func (.func 63) #[] #[]] w' (MrgPost (P ++ Z1) L A2 Q b w')))
    (HC4 : Hid (Cut4 A1 L R A2)) (HXE : Hid (X = A1 ++ L)) (HYE : Hid (Y = R ++ A2)) (HL : Hid (A1.length = i - a ∧ L.length = m - i ∧ R.length = t - m ∧ A2.length = e - t)) (HT : Hid (i + t = mid + m))
    (hia : a ≤ i) (him : i ≤ m) (himid : i ≤ mid) (hmt : m ≤ t) (hte : t ≤ e) (hti : (mid : Int) + (m : Int) - (i : Int) = (t : Int)) (he2 : e ≤ 1000)
    (hr : SR wr b ((P ++ A1) ++ L ++ R ++ (A2 ++ Q))) (hg : w.grownBy wr (some b)) (c1 : ¬ i < m) (c2 : ¬ m < t) (c3 : a < i) :
    Code.wp Try.prog C38 (bodyPost Try.prog Try.f80 (MrgPost P X Y Q b w)) ⟨#[.slice (some ⟨b, 0, none⟩) N cap, .int .i64 a, .int .i64 m, .int .i64 e, .func (.func 63) #[] #[], u5, u6, u7, u8, u9, u10, u11, u12, u13, u14, u15, u16, u17, .int .i64 mid, .int .i64 ((mid : Int) + (m : Int)), .int .i64 i, u21, u22, u23, u24, u25, u26, u27, u28, u29, u30, u31, u32, u33, u34, u35, u36, u37, u38, u39, u40, u41, u42, u43, u44, u45, u46, u47, u48, u49, u50, u51, u52, u53, u54, u55, u56, u57, u58, u59, u60, u61, u62, u63, u64, u65, u66, u67, u68, u69, u70, u71, u72, u73, u74, u75, u76, u77, u78, u79, u80, u81, u82, u83, u84, u85, u86, u87, u88, u89, u90, u91, u92, u93, u94, u95, u96, u97, u98, u99, u100, u101, u102, u103, u104, u105, u106, u107, u108, u109, u110, u111, u112, u113, u114, u115, u116, u117, u118, u119, u120, u121, u122, u123, u124, u125, u126, u127, u128, u129, u130, u131, u132, u133, u134, u135, u136, u137, u138, u139, u140, u141, u142, u143, u144, u145, u146, u147, u148, u149, u150, u151, u152, u153, u154, u155, u156, u157, u158, u159, u160, u161, u162, u163, u164, u165, u166, u167, u168, u169, u170, u171, u172, u173, u174, u175, u176, u177, u178, u179, u180, u181, u182, u183, u184, u185, u186, u187, u188, u189, u190, u191, u192, u193, u194, u195, u196, u197, u198, u199, u200, u201, u202, u203, u204, u205, u206, u207, u208, u209, u210, u211, u212, u213, u214, u215, u216, u217, u218, u219], []⟩ wr := by
  have HZ0 := Lib.hid (show A1 = [] ∨ R = [] → Sorted (A1 ++ R) (A1 ++ R) from fun h => HC4.out.z0 h)
  have HZ9 := Lib.hid (show L = [] ∨ A2 = [] → Sorted (L ++ A2) (L ++ A2) from fun h => HC4.out.z9 h)
  have HSW := Lib.hid (show L = [] ∨ R = [] → SR wr b ((P ++ A1) ++ R ++ L ++ (A2 ++ Q)) from fun h => SR_sw h hr)
  have hL := HL.out
  have hT := HT.out
  have d1 : decide ((i : Int) < (m : Int)) = false := decide_eq_false (by omega)
  have d3 : decide ((a : Int) < (i : Int)) = true := decide_eq_true (by omega)
  have d4 : decide ((i : Int) < (mid : Int)) = false := decide_eq_false (by omega)
  have d5 : decide ((mid : Int) < (t : Int)) = false := decide_eq_false (by omega)
  have HSW := Lib.hid (HSW.out (.inl (List.eq_nil_of_length_eq_zero (by rw [hL.2.1]; omega))))
  have HZ0 := Lib.hid (HZ0.out (.inr (List.eq_nil_of_length_eq_zero (by rw [hL.2.2.1]; omega))))
  have HZ9 := Lib.hid (HZ9.out (.inl (List.eq_nil_of_length_eq_zero (by rw [hL.2.1]; omega))))
  clear hr hL hT
  conv => arg 2; whnf
  have hs5 := HSW.out
  have hg5 : wr.grownBy wr (some b) := World.grownBy.refl wr _
  go_wp2_with fail
  go_end0
  exact ⟨rfl, fin_mrg HC4.out HZ0.out HZ9.out HXE.out HYE.out (SR_right0 (SR_left0 hs5)), gb_step hg hg5⟩
set_option maxRecDepth 100000 in
set_option maxHeartbeats 4000000 in
theorem tl_n0 (f : Nat) (b cap N a m e mid i t : Nat) (P X Y Q A1 L R A2 : List Ev) (w wr : World) (u5 u6 u7 u8 u9 u10 u11 u12 u13 u14 u15 u16 u17 u21 u22 u23 u24 u25 u26 u27 u28 u29 u30 u31 u32 u33 u34 u35 u36 u37 u38 u39 u40 u41 u42 u43 u44 u45 u46 u47 u48 u49 u50 u51 u52 u53 u54 u55 u56 u57 u58 u59 u60 u61 u62 u63 u64 u65 u66 u67 u68 u69 u70 u71 u72 u73 u74 u75 u76 u77 u78 u79 u80 u81 u82 u83 u84 u85 u86 u87 u88 u89 u90 u91 u92 u93 u94 u95 u96 u97 u98 u99 u100 u101 u102 u103 u104 u105 u106 u107 u108 u109 u110 u111 u112 u113 u114 u115 u116 u117 u118 u119 u120 u121 u122 u123 u124 u125 u126 u127 u128 u129 u130 u131 u132 u133 u134 u135 u136 u137 u138 u139 u140 u141 u142 u143 u144 u145 u146 u147 u148 u149 u150 u151 u152 u153 u154 u155 u156 u157 u158 u159 u160 u161 u162 u163 u164 u165 u166 u167 u168 u169 u170 u171 u172 u173 u174 u175 u176 u177 u178 u179 u180 u181 u182 u183 u184 u185 u186 u187 u188 u189 u190 u191 u192 u193 u194 u195 u196 u197 u198 u199 u200 u201 u202 u203 u204 u205 u206 u207 u208 u209 u210 u211 u212 u213 u214 u215 u216 u217 u218 u219 : Value)
    (HROT : Hid (0 < L.length → 0 < R.length → Calls Try.prog 81 #[.slice (some ⟨b, 0, none⟩) N cap, .int .i64 i, .int .i64 m, .int .i64 t, .func (.func 63) #[] #[]] wr fun x w' => x = .returned (.tuple #[]) ∧ SR w' b ((P ++ A1) ++ R ++ L ++ (A2 ++ Q)) ∧ wr.grownBy w' (some b)))
    (HLF : Hid (0 < A1.length → 0 < R.length → ∀ w', SR w' b ((P ++ A1) ++ R ++ L ++ (A2 ++ Q)) → Calls Try.prog 80 #[.slice (some ⟨b, 0, none⟩) N cap, .int .i64 a, .int .i64 i, .int .i64 mid, .func (.func 63) #[] #[]] w' (MrgPost P A1 R (L ++ (A2 ++ Q)) b w')))
    (HRF : Hid (0 < L.length → 0 < A2.length → ∀ Z1 w', Sorted (A1 ++ R) Z1 → SR w' b (P ++ Z1 ++ (L ++ (A2 ++ Q))) → Calls Try.prog 80 #[.slice (some ⟨b, 0, none⟩) N cap, .int .i64 mid, .int .i64 t, .int .i64 e, .func (.func 63) #[] #[]] w' (MrgPost (P ++ Z1) L A2 Q b w')))
    (HC4 : Hid (Cut4 A1 L R A2)) (HXE : Hid (X = A1 ++ L)) (HYE : Hid (Y = R ++ A2)) (HL : Hid (A1.length = i - a ∧ L.length = m - i ∧ R.length = t - m ∧ A2.length = e - t)) (HT : Hid (i + t = mid + m))
    (hia : a ≤ i) (him : i ≤ m) (himid : i ≤ mid) (hmt : m ≤ t) (hte : t ≤ e) (hti : (mid : Int) + (m : Int) - (i : Int) = (t : Int)) (he2 : e ≤ 1000)
    (hr : SR wr b ((P ++ A1) ++ L ++ R ++ (A2 ++ Q))) (hg : w.grownBy wr (some b)) (c1 : ¬ i < m) (c2 : ¬ m < t) (c3 : ¬ a < i) :
    Code.wp Try.prog C38 (bodyPost Try.prog Try.f80 (MrgPost P X Y Q b w)) ⟨#[.slice (some ⟨b, 0, none⟩) N cap, .int .i64 a, .int .i64 m, .int .i64 e, .func (.func 63) #[] #[], u5, u6, u7, u8, u9, u10, u11, u12, u13, u14, u15, u16, u17, .int .i64 mid, .int .i64 ((mid : Int) + (m : Int)), .int .i64 i, u21, u22, u23, u24, u25, u26, u27, u28, u29, u30, u31, u32, u33, u34, u35, u36, u37, u38, u39, u40, u41, u42, u43, u44, u45, u46, u47, u48, u49, u50, u51, u52, u53, u54, u55, u56, u57, u58, u59, u60, u61, u62, u63, u64, u65, u66, u67, u68, u69, u70, u71, u72, u73, u74, u75, u76, u77, u78, u79, u80, u81, u82, u83, u84, u85, u86, u87, u88, u89, u90, u91, u92, u93, u94, u95, u96, u97, u98, u99, u100, u101, u102, u103, u104, u105, u106, u107, u108, u109, u110, u111, u112, u113, u114, u115, u116, u117, u118, u119, u120, u121, u122, u123, u124, u125, u126, u127, u128, u129, u130, u131, u132, u133, u134, u135, u136, u137, u138, u139, u140, u141, u142, u143, u144, u145, u146, u147, u148, u149, u150, u151, u152, u153, u154, u155, u156, u157, u158, u159, u160, u161, u162, u163, u164, u165, u166, u167, u168, u169, u170, u171, u172, u173, u174, u175, u176, u177, u178, u179, u180, u181, u182, u183, u184, u185, u186, u187, u188, u189, u190, u191, u192, u193, u194, u195, u196, u197, u198, u199, u200, u201, u202, u203, u204, u205, u206, u207, u208, u209, u210, u211, u212, u213, u214, u215, u216, u217, u218, u219], []⟩ wr := by
  have HZ0 := Lib.hid (show A1 = [] ∨ R = [] → Sorted (A1 ++ R) (A1 ++ R) from fun h => HC4.out.z0 h)
  have HZ9 := Lib.hid (show L = [] ∨ A2 = [] → Sorted (L ++ A2) (L ++ A2) from fun h => HC4.out.z9 h)
  have HSW := Lib.hid (show L = [] ∨ R = [] → SR wr b ((P ++ A1) ++ R ++ L ++ (A2 ++ Q)) from fun h => SR_sw h hr)
  have hL := HL.out
  have hT := HT.out
  have d1 : decide ((i : Int) < (m : Int)) = false := decide_eq_false (by omega)
  have d3 : decide ((a : Int) < (i : Int)) = false := decide_eq_false (by omega)
  have d5 : decide ((mid : Int) < (t : Int)) = false := decide_eq_false (by omega)
  have HSW := Lib.hid (HSW.out (.inl (List.eq_nil_of_length_eq_zero (by rw [hL.2.1]; omega))))
  have HZ0 := Lib.hid (HZ0.out (.inr (List.eq_nil_of_length_eq_zero (by rw [hL.2.2.1]; omega))))
  have HZ9 := Lib.hid (HZ9.out (.inl (List.eq_nil_of_length_eq_zero (by rw [hL.2.1]; omega))))
  clear hr hL hT
  conv => arg 2; whnf
  have hs5 := HSW.out
  have hg5 : wr.grownBy wr (some b) := World.grownBy.refl wr _
  go_wp2_with fail
  go_end0
  exact ⟨rfl, fin_mrg HC4.out HZ0.out HZ9.out HXE.out HYE.out (SR_right0 (SR_left0 hs5)), gb_step hg hg5⟩
set_option maxRecDepth 100000 in
set_option maxHeartbeats 4000000 in
theorem tl_p1 (f : Nat) (b cap N a m e mid i t : Nat) (P X Y Q A1 L R A2 : List Ev) (w wr : World) (u5 u6 u7 u8 u9 u10 u11 u12 u13 u14 u15 u16 u17 u21 u22 u23 u24 u25 u26 u27 u28 u29 u30 u31 u32 u33 u34 u35 u36 u37 u38 u39 u40 u41 u42 u43 u44 u45 u46 u47 u48 u49 u50 u51 u52 u53 u54 u55 u56 u57 u58 u59 u60 u61 u62 u63 u64 u65 u66 u67 u68 u69 u70 u71 u72 u73 u74 u75 u76 u77 u78 u79 u80 u81 u82 u83 u84 u85 u86 u87 u88 u89 u90 u91 u92 u93 u94 u95 u96 u97 u98 u99 u100 u101 u102 u103 u104 u105 u106 u107 u108 u109 u110 u111 u112 u113 u114 u115 u116 u117 u118 u119 u120 u121 u122 u123 u124 u125 u126 u127 u128 u129 u130 u131 u132 u133 u134 u135 u136 u137 u138 u139 u140 u141 u142 u143 u144 u145 u146 u147 u148 u149 u150 u151 u152 u153 u154 u155 u156 u157 u158 u159 u160 u161 u162 u163 u164 u165 u166 u167 u168 u169 u170 u171 u172 u173 u174 u175 u176 u177 u178 u179 u180 u181 u182 u183 u184 u185 u186 u187 u188 u189 u190 u191 u192 u193 u194 u195 u196 u197 u198 u199 u200 u201 u202 u203 u204 u205 u206 u207 u208 u209 u210 u211 u212 u213 u214 u215 u216 u217 u218 u219 : Value)
    (HROT : Hid (0 < L.length → 0 < R.length → Calls Try.prog 81 #[.slice (some ⟨b, 0, none⟩) N cap, .int .i64 i, .int .i64 m, .int .i64 t, .func (.func 63) #[] #[]] wr fun x w' => x = .returned (.tuple #[]) ∧ SR w' b ((P ++ A1) ++ R ++ L ++ (A2 ++ Q)) ∧ wr.grownBy w' (some b)))
    (HLF : Hid (0 < A1.length → 0 < R.length → ∀ w', SR w' b ((P ++ A1) ++ R ++ L ++ (A2 ++ Q)) → Calls Try.prog 80 #[.slice (some ⟨b, 0, none⟩) N cap, .int .i64 a, .int .i64 i, .int .i64 mid, .func (.func 63) #[] #[]] w' (MrgPost P A1 R (L ++ (A2 ++ Q)) b w')))
    (HRF : Hid (0 < L.length → 0 < A2.length → ∀ Z1 w', Sorted (A1 ++ R) Z1 → SR w' b (P ++ Z1 ++ (L ++ (A2 ++ Q))) → Calls Try.prog 80 #[.slice (some ⟨b, 0, none⟩) N cap, .int .i64 mid, .int .i64 t, .int .i64 e, .func (.func 63) #[] #[]] w' (MrgPost (P ++ Z1) L A2 Q b w')))
    (HC4 : Hid (Cut4 A1 L R A2)) (HXE : Hid (X = A1 ++ L)) (HYE : Hid (Y = R ++ A2)) (HL : Hid (A1.length = i - a ∧ L.length = m - i ∧ R.length = t - m ∧ A2.length = e - t)) (HT : Hid (i + t = mid + m))
    (hia : a ≤ i) (him : i ≤ m) (himid : i ≤ mid) (hmt : m ≤ t) (hte : t ≤ e) (hti : (mid : Int) + (m : Int) - (i : Int) = (t : Int)) (he2 : e ≤ 1000)
    (hr : SR wr b ((P ++ A1) ++ L ++ R ++ (A2 ++ Q))) (hg : w.grownBy wr (some b)) (c1 : i < m) (c2 : ¬ m < t) (c3 : a < i) (c4 : t < e) :
    Code.wp Try.prog C38 (bodyPost Try.prog Try.f80 (MrgPost P X Y Q b w)) ⟨#[.slice (some ⟨b, 0, none⟩) N cap, .int .i64 a, .int .i64 m, .int .i64 e, .func (.func 63) #[] #[], u5, u6, u7, u8, u9, u10, u11, u12, u13, u14, u15, u16, u17, .int .i64 mid, .int .i64 ((mid : Int) + (m : Int)), .int .i64 i, u21, u22, u23, u24, u25, u26, u27, u28, u29, u30, u31, u32, u33, u34, u35, u36, u37, u38, u39, u40, u41, u42, u43, u44, u45, u46, u47, u48, u49, u50, u51, u52, u53, u54, u55, u56, u57, u58, u59, u60, u61, u62, u63, u64, u65, u66, u67, u68, u69, u70, u71, u72, u73, u74, u75, u76, u77, u78, u79, u80, u81, u82, u83, u84, u85, u86, u87, u88, u89, u90, u91, u92, u93, u94, u95, u96, u97, u98, u99, u100, u101, u102, u103, u104, u105, u106, u107, u108, u109, u110, u111, u112, u113, u114, u115, u116, u117, u118, u119, u120, u121, u122, u123, u124, u125, u126, u127, u128, u129, u130, u131, u132, u133, u134, u135, u136, u137, u138, u139, u140, u141, u142, u143, u144, u145, u146, u147, u148, u149, u150, u151, u152, u153, u154, u155, u156, u157, u158, u159, u160, u161, u162, u163, u164, u165, u166, u167, u168, u169, u170, u171, u172, u173, u174, u175, u176, u177, u178, u179, u180, u181, u182, u183, u184, u185, u186, u187, u188, u189, u190, u191, u192, u193, u194, u195, u196, u197, u198, u199, u200, u201, u202, u203, u204, u205, u206, u207, u208, u209, u210, u211, u212, u213, u214, u215, u216, u217, u218, u219], []⟩ wr := by
  have HZ0 := Lib.hid (show A1 = [] ∨ R = [] → Sorted (A1 ++ R) (A1 ++ R) from fun h => HC4.out.z0 h)
  have HZ9 := Lib.hid (show L = [] ∨ A2 = [] → Sorted (L ++ A2) (L ++ A2) from fun h => HC4.out.z9 h)
  have HSW := Lib.hid (show L = [] ∨ R = [] → SR wr b ((P ++ A1) ++ R ++ L ++ (A2 ++ Q)) from fun h => SR_sw h hr)
  have hL := HL.out
  have hT := HT.out
  have d1 : decide ((i : Int) < (m : Int)) = true := decide_eq_true (by omega)
  have d2 : decide ((m : Int) < (t : Int)) = false := decide_eq_false (by omega)
  have d3 : decide ((a : Int) < (i : Int)) = true := decide_eq_true (by omega)
  have d5 : decide ((mid : Int) < (t : Int)) = true := decide_eq_true (by omega)
  have d6 : decide ((t : Int) < (e : Int)) = true := decide_eq_true (by omega)
  have d4 : decide ((i : Int) < (mid : Int)) = false := decide_eq_false (by omega)
  have HSW := Lib.hid (HSW.out (.inr (List.eq_nil_of_length_eq_zero (by rw [hL.2.2.1]; omega))))
  have HZ0 := Lib.hid (HZ0.out (.inr (List.eq_nil_of_length_eq_zero (by rw [hL.2.2.1]; omega))))
  have HRF := Lib.hid (HRF.out (by rw [hL.2.1]; omega) (by rw [hL.2.2.2]; omega))
  clear hr hL hT
  conv => arg 2; whnf
  have hs5 := HSW.out
  have hg5 : wr.grownBy wr (some b) := World.grownBy.refl wr _
  go_wp2_with (first | (go_at_call 80; (with_reducible refine (HRF.out (A1 ++ R) _ HZ0.out (SR_left0 hs5)).mono ?_); rintro e7 w7 ⟨rfl, ⟨Z2, hZ2, hs7⟩, hg7⟩))
  go_end0
  exact ⟨rfl, fin_mrg HC4.out HZ0.out hZ2 HXE.out HYE.out hs7, gb_step hg (gb_step hg5 hg7)⟩
set_option maxRecDepth 100000 in
set_option maxHeartbeats 4000000 in
theorem tl_p2 (f : Nat) (b cap N a m e mid i t : Nat) (P X Y Q A1 L R A2 : List Ev) (w wr : World) (u5 u6 u7 u8 u9 u10 u11 u12 u13 u14 u15 u16 u17 u21 u22 u23 u24 u25 u26 u27 u28 u29 u30 u31 u32 u33 u34 u35 u36 u37 u38 u39 u40 u41 u42 u43 u44 u45 u46 u47 u48 u49 u50 u51 u52 u53 u54 u55 u56 u57 u58 u59 u60 u61 u62 u63 u64 u65 u66 u67 u68 u69 u70 u71 u72 u73 u74 u75 u76 u77 u78 u79 u80 u81 u82 u83 u84 u85 u86 u87 u88 u89 u90 u91 u92 u93 u94 u95 u96 u97 u98 u99 u100 u101 u102 u103 u104 u105 u106 u107 u108 u109 u110 u111 u112 u113 u114 u115 u116 u117 u118 u119 u120 u121 u122 u123 u124 u125 u126 u127 u128 u129 u130 u131 u132 u133 u134 u135 u136 u137 u138 u139 u140 u141 u142 u143 u144 u145 u146 u147 u148 u149 u150 u151 u152 u153 u154 u155 u156 u157 u158 u159 u160 u161 u162 u163 u164 u165 u166 u167 u168 u169 u170 u171 u172 u173 u174 u175 u176 u177 u178 u179 u180 u181 u182 u183 u184 u185 u186 u187 u188 u189 u190 u191 u192 u193 u194 u195 u196 u197 u198 u199 u200 u201 u202 u203 u204 u205 u206 u207 u208 u209 u210 u211 u212 u213 u214 u215 u216 u217 u218 u219 : Value)
    (HROT : Hid (0 < L.length → 0 < R.length → Calls Try.prog 81 #[.slice (some ⟨b, 0, none⟩) N cap, .int .i64 i, .int .i64 m, .int .i64 t, .func (.func 63) #[] #[]] wr fun x w' => x = .returned (.tuple #[]) ∧ SR w' b ((P ++ A1) ++ R ++ L ++ (A2 ++ Q)) ∧ wr.grownBy w' (some b)))
    (HLF : Hid (0 < A1.length → 0 < R.length → ∀ w', SR w' b ((P ++ A1) ++ R ++ L ++ (A2 ++ Q)) → Calls Try.prog 80 #[.slice (some ⟨b, 0, none⟩) N cap, .int .i64 a, .int .i64 i, .int .i64 mid, .func (.func 63) #[] #[]] w' (MrgPost P A1 R (L ++ (A2 ++ Q)) b w')))
    (HRF : Hid (0 < L.length → 0 < A2.length → ∀ Z1 w', Sorted (A1 ++ R) Z1 → SR w' b (P ++ Z1 ++ (L ++ (A2 ++ Q))) → Calls Try.prog 80 #[.slice (some ⟨b, 0, none⟩) N cap, .int .i64 mid, .int .i64 t, .int .i64 e, .func (.func 63) #[] #[]] w' (MrgPost (P ++ Z1) L A2 Q b w')))
    (HC4 : Hid (Cut4 A1 L R A2)) (HXE : Hid (X = A1 ++ L)) (HYE : Hid (Y = R ++ A2)) (HL : Hid (A1.length = i - a ∧ L.length = m - i ∧ R.length = t - m ∧ A2.length = e - t)) (HT : Hid (i + t = mid + m))
    (hia : a ≤ i) (him : i ≤ m) (himid : i ≤ mid) (hmt : m ≤ t) (hte : t ≤ e) (hti : (mid : Int) + (m : Int) - (i : Int) = (t : Int)) (he2 : e ≤ 1000)
    (hr : SR wr b ((P ++ A1) ++ L ++ R ++ (A2 ++ Q))) (hg : w.grownBy wr (some b)) (c1 : i < m) (c2 : ¬ m < t) (c3 : a < i) (c4 : ¬ t < e) :
    Code.wp Try.prog C38 (bodyPost Try.prog Try.f80 (MrgPost P X Y Q b w)) ⟨#[.slice (some ⟨b, 0, none⟩) N cap, .int .i64 a, .int .i64 m, .int .i64 e, .func (.func 63) #[] #[], u5, u6, u7, u8, u9, u10, u11, u12, u13, u14, u15, u16, u17, .int .i64 mid, .int .i64 ((mid : Int) + (m : Int)), .int .i64 i, u21, u22, u23, u24, u25, u26, u27, u28, u29, u30, u31, u32, u33, u34, u35, u36, u37, u38, u39, u40, u41, u42, u43, u44, u45, u46, u47, u48, u49, u50, u51, u52, u53, u54, u55, u56, u57, u58, u59, u60, u61, u62, u63, u64, u65, u66, u67, u68, u69, u70, u71, u72, u73, u74, u75, u76, u77, u78, u79, u80, u81, u82, u83, u84, u85, u86, u87, u88, u89, u90, u91, u92, u93, u94, u95, u96, u97, u98, u99, u100, u101, u102, u103, u104, u105, u106, u107, u108, u109, u110, u111, u112, u113, u114, u115, u116, u117, u118, u119, u120, u121, u122, u123, u124, u125, u126, u127, u128, u129, u130, u131, u132, u133, u134, u135, u136, u137, u138, u139, u140, u141, u142, u143, u144, u145, u146, u147, u148, u149, u150, u151, u152, u153, u154, u155, u156, u157, u158, u159, u160, u161, u162, u163, u164, u165, u166, u167, u168, u169, u170, u171, u172, u173, u174, u175, u176, u177, u178, u179, u180, u181, u182, u183, u184, u185, u186, u187, u188, u189, u190, u191, u192, u193, u194, u195, u196, u197, u198, u199, u200, u201, u202, u203, u204, u205, u206, u207, u208, u209, u210, u211, u212, u213, u214, u215, u216, u217, u218, u219], []⟩ wr := by
  have HZ0 := Lib.hid (show A1 = [] ∨ R = [] → Sorted (A1 ++ R) (A1 ++ R) from fun h => HC4.out.z0 h)
  have HZ9 := Lib.hid (show L = [] ∨ A2 = [] → Sorted (L ++ A2) (L ++ A2) from fun h => HC4.out.z9 h)
  have HSW := Lib.hid (show L = [] ∨ R = [] → SR wr b ((P ++ A1) ++ R ++ L ++ (A2 ++ Q)) from fun h => SR_sw h hr)
  have hL := HL.out
  have hT := HT.out
  have d1 : decide ((i : Int) < (m : Int)) = true := decide_eq_true (by omega)
  have d2 : decide ((m : Int) < (t : Int)) = false := decide_eq_false (by omega)
  have d3 : decide ((a : Int) < (i : Int)) = true := decide_eq_true (by omega)
  have d5 : decide ((mid : Int) < (t : Int)) = true := decide_eq_true (by omega)
  have d6 : decide ((t : Int) < (e : Int)) = false := decide_eq_false (by omega)
  have d4 : decide ((i : Int) < (mid : Int)) = false := decide_eq_false (by omega)
  have HSW := Lib.hid (HSW.out (.inr (List.eq_nil_of_length_eq_zero (by rw [hL.2.2.1]; omega))))
  have HZ0 := Lib.hid (HZ0.out (.inr (List.eq_nil_of_length_eq_zero (by rw [hL.2.2.1]; omega))))
  have HZ9 := Lib.hid (HZ9.out (.inr (List.eq_nil_of_length_eq_zero (by rw [hL.2.2.2]; omega))))
  clear hr hL hT
  conv => arg 2; whnf
  have hs5 := HSW.out
  have hg5 : wr.grownBy wr (some b) := World.grownBy.refl wr _
  go_wp2_with fail
  go_end0
  exact ⟨rfl, fin_mrg HC4.out HZ0.out HZ9.out HXE.out HYE.out (SR_right0 (SR_left0 hs5)), gb_step hg hg5⟩
set_option maxRecDepth 100000 in
set_option maxHeartbeats 4000000 in
theorem tl_p3 (f : Nat) (b cap N a m e mid i t : Nat) (P X Y Q A1 L R A2 : List Ev) (w wr : World) (u5 u6 u7 u8 u9 u10 u11 u12 u13 u14 u15 u16 u17 u21 u22 u23 u24 u25 u26 u27 u28 u29 u30 u31 u32 u33 u34 u35 u36 u37 u38 u39 u40 u41 u42 u43 u44 u45 u46 u47 u48 u49 u50 u51 u52 u53 u54 u55 u56 u57 u58 u59 u60 u61 u62 u63 u64 u65 u66 u67 u68 u69 u70 u71 u72 u73 u74 u75 u76 u77 u78 u79 u80 u81 u82 u83 u84 u85 u86 u87 u88 u89 u90 u91 u92 u93 u94 u95 u96 u97 u98 u99 u100 u101 u102 u103 u104 u105 u106 u107 u108 u109 u110 u111 u112 u113 u114 u115 u116 u117 u118 u119 u120 u121 u122 u123 u124 u125 u126 u127 u128 u129 u130 u131 u132 u133 u134 u135 u136 u137 u138 u139 u140 u141 u142 u143 u144 u145 u146 u147 u148 u149 u150 u151 u152 u153 u154 u155 u156 u157 u158 u159 u160 u161 u162 u163 u164 u165 u166 u167 u168 u169 u170 u171 u172 u173 u174 u175 u176 u177 u178 u179 u180 u181 u182 u183 u184 u185 u186 u187 u188 u189 u190 u191 u192 u193 u194 u195 u196 u197 u198 u199 u200 u201 u202 u203 u204 u205 u206 u207 u208 u209 u210 u211 u212 u213 u214 u215 u216 u217 u218 u219 : Value)
    (HROT : Hid (0 < L.length → 0 < R.length → Calls Try.prog 81 #[.slice (some ⟨b, 0, none⟩) N cap, .int .i64 i, .int .i64 m, .int .i64 t, .func (.func 63) #[] #[]] wr fun x w' => x = .returned (.tuple #[]) ∧ SR w' b ((P ++ A1) ++ R ++ L ++ (A2 ++ Q)) ∧ wr.grownBy w' (some b)))
    (HLF : Hid (0 < A1.length → 0 < R.length → ∀ w', SR w' b ((P ++ A1) ++ R ++ L ++ (A2 ++ Q)) → Calls Try.prog 80 #[.slice (some ⟨b, 0, none⟩) N cap, .int .i64 a, .int .i64 i, .int .i64 mid, .func (.func 63) #[] #[]] w' (MrgPost P A1 R (L ++ (A2 ++ Q)) b w')))
    (HRF : Hid (0 < L.length → 0 < A2.length → ∀ Z1 w', Sorted (A1 ++ R) Z1 → SR w' b (P ++ Z1 ++ (L ++ (A2 ++ Q))) → Calls Try.prog 80 #[.slice (some ⟨b, 0, none⟩) N cap, .int .i64 mid, .int .i64 t, .int .i64 e, .func (.func 63) #[] #[]] w' (MrgPost (P ++ Z1) L A2 Q b w')))
    (HC4 : Hid (Cut4 A1 L R A2)) (HXE : Hid (X = A1 ++ L)) (HYE : Hid (Y = R ++ A2)) (HL : Hid (A1.length = i - a ∧ L.length = m - i ∧ R.length = t - m ∧ A2.length = e - t)) (HT : Hid (i + t = mid + m))
    (hia : a ≤ i) (him : i ≤ m) (himid : i ≤ mid) (hmt : m ≤ t) (hte : t ≤ e) (hti : (mid : Int) + (m : Int) - (i : Int) = (t : Int)) (he2 : e ≤ 1000)
    (hr : SR wr b ((P ++ A1) ++ L ++ R ++ (A2 ++ Q))) (hg : w.grownBy wr (some b)) (c1 : i < m) (c2 : ¬ m < t) (c3 : ¬ a < i) (c4 : t < e) :
    Code.wp Try.prog C38 (bodyPost Try.prog Try.f80 (MrgPost P X Y Q b w)) ⟨#[.slice (some ⟨b, 0, none⟩) N cap, .int .i64 a, .int .i64 m, .int .i64 e, .func (.func 63) #[] #[], u5, u6, u7, u8, u9, u10, u11, u12, u13, u14, u15, u16, u17, .int .i64 mid, .int .i64 ((mid : Int) + (m : Int)), .int .i64 i, u21, u22, u23, u24, u25, u26, u27, u28, u29, u30, u31, u32, u33, u34, u35, u36, u37, u38, u39, u40, u41, u42, u43, u44, u45, u46, u47, u48, u49, u50, u51, u52, u53, u54, u55, u56, u57, u58, u59, u60, u61, u62, u63, u64, u65, u66, u67, u68, u69, u70, u71, u72, u73, u74, u75, u76, u77, u78, u79, u80, u81, u82, u83, u84, u85, u86, u87, u88, u89, u90, u91, u92, u93, u94, u95, u96, u97, u98, u99, u100, u101, u102, u103, u104, u105, u106, u107, u108, u109, u110, u111, u112, u113, u114, u115, u116, u117, u118, u119, u120, u121, u122, u123, u124, u125, u126, u127, u128, u129, u130, u131, u132, u133, u134, u135, u136, u137, u138, u139, u140, u141, u142, u143, u144, u145, u146, u147, u148, u149, u150, u151, u152, u153, u154, u155, u156, u157, u158, u159, u160, u161, u162, u163, u164, u165, u166, u167, u168, u169, u170, u171, u172, u173, u174, u175, u176, u177, u178, u179, u180, u181, u182, u183, u184, u185, u186, u187, u188, u189, u190, u191, u192, u193, u194, u195, u196, u197, u198, u199, u200, u201, u202, u203, u204, u205, u206, u207, u208, u209, u210, u211, u212, u213, u214, u215, u216, u217, u218, u219], []⟩ wr := by
  have HZ0 := Lib.hid (show A1 = [] ∨ R = [] → Sorted (A1 ++ R) (A1 ++ R) from fun h => HC4.out.z0 h)
  have HZ9 := Lib.hid (show L = [] ∨ A2 = [] → Sorted (L ++ A2) (L ++ A2) from fun h => HC4.out.z9 h)
  have HSW := Lib.hid (show L = [] ∨ R = [] → SR wr b ((P ++ A1) ++ R ++ L ++ (A2 ++ Q)) from fun h => SR_sw h hr)
  have hL := HL.out
  have hT := HT.out
  have d1 : decide ((i : Int) < (m : Int)) = true := decide_eq_true (by omega)
  have d2 : decide ((m : Int) < (t : Int)) = false := decide_eq_false (by omega)
  have d3 : decide ((a : Int) < (i : Int)) = false := decide_eq_false (by omega)
  have d5 : decide ((mid : Int) < (t : Int)) = true := decide_eq_true (by omega)
  have d6 : decide ((t : Int) < (e : Int)) = true := decide_eq_true (by omega)
  have HSW := Lib.hid (HSW.out (.inr (List.eq_nil_of_length_eq_zero (by rw [hL.2.2.1]; omega))))
  have HZ0 := Lib.hid (HZ0.out (.inr (List.eq_nil_of_length_eq_zero (by rw [hL.2.2.1]; omega))))
  have HRF := Lib.hid (HRF.out (by rw [hL.2.1]; omega) (by rw [hL.2.2.2]; omega))
  clear hr hL hT
  conv => arg 2; whnf
  have hs5 := HSW.out
  have hg5 : wr.grownBy wr (some b) := World.grownBy.refl wr _
  go_wp2_with (first | (go_at_call 80; (with_reducible refine (HRF.out (A1 ++ R) _ HZ0.out (SR_left0 hs5)).mono ?_); rintro e7 w7 ⟨rfl, ⟨Z2, hZ2, hs7⟩, hg7⟩))
  go_end0
  exact ⟨rfl, fin_mrg HC4.out HZ0.out hZ2 HXE.out HYE.out hs7, gb_step hg (gb_step hg5 hg7)⟩
set_option maxRecDepth 100000 in
set_option maxHeartbeats 4000000 in
theorem tl_p4 (f : Nat) (b cap N a m e mid i t : Nat) (P X Y Q A1 L R A2 : List Ev) (w wr : World) (u5 u6 u7 u8 u9 u10 u11 u12 u13 u14 u15 u16 u17 u21 u22 u23 u24 u25 u26 u27 u28 u29 u30 u31 u32 u33 u34 u35 u36 u37 u38 u39 u40 u41 u42 u43 u44 u45 u46 u47 u48 u49 u50 u51 u52 u53 u54 u55 u56 u57 u58 u59 u60 u61 u62 u63 u64 u65 u66 u67 u68 u69 u70 u71 u72 u73 u74 u75 u76 u77 u78 u79 u80 u81 u82 u83 u84 u85 u86 u87 u88 u89 u90 u91 u92 u93 u94 u95 u96 u97 u98 u99 u100 u101 u102 u103 u104 u105 u106 u107 u108 u109 u110 u111 u112 u113 u114 u115 u116 u117 u118 u119 u120 u121 u122 u123 u124 u125 u126 u127 u128 u129 u130 u131 u132 u133 u134 u135 u136 u137 u138 u139 u140 u141 u142 u143 u144 u145 u146 u147 u148 u149 u150 u151 u152 u153 u154 u155 u156 u157 u158 u159 u160 u161 u162 u163 u164 u165 u166 u167 u168 u169 u170 u171 u172 u173 u174 u175 u176 u177 u178 u179 u180 u181 u182 u183 u184 u185 u186 u187 u188 u189 u190 u191 u192 u193 u194 u195 u196 u197 u198 u199 u200 u201 u202 u203 u204 u205 u206 u207 u208 u209 u210 u211 u212 u213 u214 u215 u216 u217 u218 u219 : Value)
    (HROT : Hid (0 < L.length → 0 < R.length → Calls Try.prog 81 #[.slice (some ⟨b, 0, none⟩) N cap, .int .i64 i, .int .i64 m, .int .i64 t, .func (.func 63) #[] #[]] wr fun x w' => x = .returned (.tuple #[]) ∧ SR w' b ((P ++ A1) ++ R ++ L ++ (A2 ++ Q)) ∧ wr.grownBy w' (some b)))
    (HLF : Hid (0 < A1.length → 0 < R.length → ∀ w', SR w' b ((P ++ A1) ++ R ++ L ++ (A2 ++ Q)) → Calls Try.prog 80 #[.slice (some ⟨b, 0, none⟩) N cap, .int .i64 a, .int .i64 i, .int .i64 mid, .func (.func 63) #[] #[]] w' (MrgPost P A1 R (L ++ (A2 ++ Q)) b w')))
    (HRF : Hid (0 < L.length → 0 < A2.length → ∀ Z1 w', Sorted (A1 ++ R) Z1 → SR w' b (P ++ Z1 ++ (L ++ (A2 ++ Q))) → Calls Try.prog 80 #[.slice (some ⟨b, 0, none⟩) N cap, .int .i64 mid, .int .i64 t, .int .i64 e, .func (.func 63) #[] #[]] w' (MrgPost (P ++ Z1) L A2 Q b w')))
    (HC4 : Hid (Cut4 A1 L R A2)) (HXE : Hid (X = A1 ++ L)) (HYE : Hid (Y = R ++ A2)) (HL : Hid (A1.length = i - a ∧ L.length = m - i ∧ R.length = t - m ∧ A2.length = e - t)) (HT : Hid (i + t = mid + m))
    (hia : a ≤ i) (him : i ≤ m) (himid : i ≤ mid) (hmt : m ≤ t) (hte : t ≤ e) (hti : (mid : Int) + (m : Int) - (i : Int) = (t : Int)) (he2 : e ≤ 1000)
    (hr : SR wr b ((P ++ A1) ++ L ++ R ++ (A2 ++ Q))) (hg : w.grownBy wr (some b)) (c1 : i < m) (c2 : ¬ m < t) (c3 : ¬ a < i) (c4 : ¬ t < e) :
    Code.wp Try.prog C38 (bodyPost Try.prog Try.f80 (MrgPost P X Y Q b w)) ⟨#[.slice (some ⟨b, 0, none⟩) N cap, .int .i64 a, .int .i64 m, .int .i64 e, .func (.func 63) #[] #[], u5, u6, u7, u8, u9, u10, u11, u12, u13, u14, u15, u16, u17, .int .i64 mid, .int .i64 ((mid : Int) + (m : Int)), .int .i64 i, u21, u22, u23, u24, u25, u26, u27, u28, u29, u30, u31, u32, u33, u34, u35, u36, u37, u38, u39, u40, u41, u42, u43, u44, u45, u46, u47, u48, u49, u50, u51, u52, u53, u54, u55, u56, u57, u58, u59, u60, u61, u62, u63, u64, u65, u66, u67, u68, u69, u70, u71, u72, u73, u74, u75, u76, u77, u78, u79, u80, u81, u82, u83, u84, u85, u86, u87, u88, u89, u90, u91, u92, u93, u94, u95, u96, u97, u98, u99, u100, u101, u102, u103, u104, u105, u106, u107, u108, u109, u110, u111, u112, u113, u114, u115, u116, u117, u118, u119, u120, u121, u122, u123, u124, u125, u126, u127, u128, u129, u130, u131, u132, u133, u134, u135, u136, u137, u138, u139, u140, u141, u142, u143, u144, u145, u146, u147, u148, u149, u150, u151, u152, u153, u154, u155, u156, u157, u158, u159, u160, u161, u162, u163, u164, u165, u166, u167, u168, u169, u170, u171, u172, u173, u174, u175, u176, u177, u178, u179, u180, u181, u182, u183, u184, u185, u186, u187, u188, u189, u190, u191, u192, u193, u194, u195, u196, u197, u198, u199, u200, u201, u202, u203, u204, u205, u206, u207, u208, u209, u210, u211, u212, u213, u214, u215, u216, u217, u218, u219], []⟩ wr := by
  have HZ0 := Lib.hid (show A1 = [] ∨ R = [] → Sorted (A1 ++ R) (A1 ++ R) from fun h => HC4.out.z0 h)
  have HZ9 := Lib.hid (show L = [] ∨ A2 = [] → Sorted (L ++ A2) (L ++ A2) from fun h => HC4.out.z9 h)
  have HSW := Lib.hid (show L = [] ∨ R = [] → SR wr b ((P ++ A1) ++ R ++ L ++ (A2 ++ Q)) from fun h => SR_sw h hr)
  have hL := HL.out
  have hT := HT.out
  have d1 : decide ((i : Int) < (m : Int)) = true := decide_eq_true (by omega)
  have d2 : decide ((m : Int) < (t : Int)) = false := decide_eq_false (by omega)
  have d3 : decide ((a : Int) < (i : Int)) = false := decide_eq_false (by omega)
  have d5 : decide ((mid : Int) < (t : Int)) = true := decide_eq_true (by omega)
  have d6 : decide ((t : Int) < (e : Int)) = false := decide_eq_false (by omega)
  have HSW := Lib.hid (HSW.out (.inr (List.eq_nil_of_length_eq_zero (by rw [hL.2.2.1]; omega))))
  have HZ0 := Lib.hid (HZ0.out (.inr (List.eq_nil_of_length_eq_zero (by rw [hL.2.2.1]; omega))))
  have HZ9 := Lib.hid (HZ9.out (.inr (List.eq_nil_of_length_eq_zero (by rw [hL.2.2.2]; omega))))
  clear hr hL hT
  conv => arg 2; whnf
  have hs5 := HSW.out
  have hg5 : wr.grownBy wr (some b) := World.grownBy.refl wr _
  go_wp2_with fail
  go_end0
  exact ⟨rfl, fin_mrg HC4.out HZ0.out HZ9.out HXE.out HYE.out (SR_right0 (SR_left0 hs5)), gb_step hg hg5⟩
end Go.Proofs.Ytlfhjlkhhaoicaa
