/- slices.symMergeCmpFunc for all rows; slices.stableCmpFunc and slices.SortStableFunc, at events. -/
import Derived.Test.YtlfhjlkhhaoicaaSortL
import Derived.LoopN
namespace Go.Proofs.Ytlfhjlkhhaoicaa
set_option linter.unusedVariables false
set_option linter.unusedSimpArgs false
open Go.RowKit
attribute [local go_sem] q_le0 q_le1 q_le2 q_le3 q_le4 q_le5 q_lt1 q_lt2 q_lt3 q_lt4 q_lt5

theorem symMerge_any : ∀ (f : Nat) (b cap N a m e : Nat) (P X Y Q : List Ev) (w : World), X.length + Y.length < f → SR w b (P ++ X ++ Y ++ Q) → a = P.length → m = a + X.length → e = m + Y.length → 0 < X.length → 0 < Y.length → Srt X → Srt Y → N = (P ++ X ++ Y ++ Q).length → N ≤ 1000 →
      Calls Try.prog 80 #[.slice (some ⟨b, 0, none⟩) N cap, .int .i64 a, .int .i64 m, .int .i64 e, SortFn] w (MrgPost P X Y Q b w)
  | 0, _, _, _, _, _, _, _, _, _, _, _, h, _, _, _, _, _, _, _, _, _, _ => absurd h (Nat.not_lt_zero _)
  | f + 1, b, cap, N, a, m, e, P, X, Y, Q, w, hf, h, ha, hm, he, hx, hy, hX, hY, hN, hN2 => by
    match X, hx with
    | [x], _ => exact symMerge_one b cap N a m e P Y Q x w h ha (by simpa using hm) he hY hN hN2
    | x1 :: x2 :: X', _ =>
      match Y, hy with
      | [y], _ => exact symMerge_last b cap N a m e P (x1 :: x2 :: X') Q y w h ha hm (by simpa using he) (by simp) hX hN hN2
      | y1 :: y2 :: Y', _ =>
        refine symMerge_gen _ (fun b cap N a m e P X Y Q w hlt => symMerge_any f b cap N a m e P X Y Q w (by omega)) b cap N a m e P (x1 :: x2 :: X') (y1 :: y2 :: Y') Q w rfl h ha hm he (by simp) (by simp) hX hY hN hN2
/-- What sorting does. -/
def StPost (d : List Ev) (b : Nat) (w : World) (x : Ending) (w' : World) : Prop := x = .returned (.tuple #[]) ∧ (∃ S, Sorted d S ∧ SR w' b S) ∧ w.grownBy w' (some b)
theorem Sorted.whole {d S : List Ev} (h : Sorted d S) : Sorted d S := h
set_option maxRecDepth 100000 in
set_option maxHeartbeats 2000000 in
theorem stable_any (b cap N : Nat) (d : List Ev) (w : World) (h : SR w b d) (hN : N = d.length) (h40 : N ≤ 40) :
    Calls Try.prog 78 #[.slice (some ⟨b, 0, none⟩) N cap, .int .i64 N, SortFn] w (StPost d b w) := by
  have hgo : ∀ (w' : World), w.grownBy w' (some b) → w.grownBy w' (some b) := fun _ h => h
  by_cases h20 : N < 20
  · have hc1 := insertion_any b cap N 0 N [] d [] w (by simpa using h) rfl (by simpa using hN) (by simpa using hN) (by omega)
    have HC1 := Lib.hid hc1
    have hd1 : decide ((20 : Int) ≤ (N : Int)) = false := decide_eq_false (by omega)
    have hd2 : decide ((20 : Int) < (N : Int)) = false := decide_eq_false (by omega)
    clear hc1 hN h hgo
    unfold SortFn at *
    go_enter Try.func78, Try.ntmps78
    go_wp2
    refine wp_loop_rounds 1 ?_
    rw [rounds_succ]
    go_wp2_with (first | (go_at_call 79; refine HC1.out.mono ?_; rintro e5 w5 ⟨rfl, ⟨S, hS, hs5⟩, hg5⟩))
    refine wp_loop_rounds 1 ?_
    rw [rounds_succ]
    go_wp2
    go_end0
    exact ⟨rfl, ⟨S, hS, by simpa using hs5⟩, hg5⟩
  · have h1 : (d.take 20).length = 20 := by rw [List.length_take]; omega
    have h2 : (d.drop 20).length = N - 20 := by rw [List.length_drop, hN]
    have hc1 := insertion_any b cap N 0 20 [] (d.take 20) (d.drop 20) w (by simpa using h) rfl (by simpa using h1.symm) (by simpa using hN) (by omega)
    have HC1 := Lib.hid hc1
    have hc2 := fun S1 (hS : Sorted (d.take 20) S1) w5 (hs : SR w5 b ([] ++ S1 ++ d.drop 20)) => insertion_any b cap N 20 N S1 (d.drop 20) [] w5 (by simpa using hs) (by rw [hS.len, h1]) (by rw [hS.len, h1, h2]; omega) (by simp [hS.len, h1]; omega) (by omega)
    have HC2 := Lib.hid hc2
    by_cases he : N = 20
    · subst he
      have hnil : d.drop 20 = [] := List.eq_nil_of_length_eq_zero (by rw [h2])
      have HNIL := Lib.hid hnil
      clear hc1 hc2 hN h hgo h1 h2 hnil h20 h40
      unfold SortFn at *
      go_enter Try.func78, Try.ntmps78
      go_wp2
      refine wp_loop_rounds 2 ?_
      rw [rounds_succ]
      go_wp2_with (first | (go_at_call 79; refine HC1.out.mono ?_; rintro e5 w5 ⟨rfl, ⟨S1, hS1, hs5⟩, hg5⟩))
      have HC3 := Lib.hid (HC2.out S1 hS1 _ hs5)
      rw [rounds_succ]
      go_wp2_with (first | (go_at_call 79; refine HC3.out.mono ?_; rintro e6 w6 ⟨rfl, ⟨S2, hS2, hs6⟩, hg6⟩))
      refine wp_loop_rounds 1 ?_
      rw [rounds_succ]
      go_wp2
      go_end0
      have hS2n : S2 = [] := List.eq_nil_of_length_eq_zero (by rw [hS2.len, HNIL.out]; rfl)
      have hdt : d.take 20 = d := by conv => rhs; rw [← List.take_append_drop 20 d, HNIL.out, List.append_nil]
      exact ⟨rfl, ⟨S1, by rwa [hdt] at hS1, by rw [hS2n] at hs6; simpa using hs6⟩, gb_step hg5 hg6⟩
    · have hc3 := fun S1 S2 (hS1 : Sorted (d.take 20) S1) (hS2 : Sorted (d.drop 20) S2) w6 (hs : SR w6 b (S1 ++ S2 ++ [])) => symMerge_any 1000 b cap N 0 20 N [] S1 S2 [] w6 (by rw [hS1.len, hS2.len, h1, h2]; omega) (by simpa using hs) rfl (by rw [hS1.len, h1]) (by rw [hS2.len, h2]; omega) (by rw [hS1.len, h1]; omega) (by rw [hS2.len, h2]; omega) hS1.srt hS2.srt (by simp [hS1.len, hS2.len, h1, h2]; omega) (by omega)
      have HCM := Lib.hid hc3
      have HFIN := Lib.hid (fun S1 S2 Z (hS1 : Sorted (d.take 20) S1) (hS2 : Sorted (d.drop 20) S2) (hZ : Sorted (S1 ++ S2) Z) => (⟨by have := (hS1.stb.append hS2.stb).trans hZ.stb; rwa [List.take_append_drop] at this, hZ.srt⟩ : Sorted d Z))
      by_cases he2 : N = 40
      · subst he2
        have hc4 := fun S1 S2 (hS1 : Sorted (d.take 20) S1) (hS2 : Sorted (d.drop 20) S2) w6 (hs : SR w6 b (S1 ++ S2 ++ [])) => insertion_any b cap 40 40 40 (S1 ++ S2) [] [] w6 (by simpa using hs) (by simp [hS1.len, hS2.len, h1, h2]) (by simp [hS1.len, hS2.len, h1, h2]) (by simp [hS1.len, hS2.len, h1, h2]) (by omega)
        have HC4 := Lib.hid hc4
        clear hc1 hc2 hc3 hc4 hN h hgo h1 h2 he h20 h40
        unfold SortFn at *
        go_enter Try.func78, Try.ntmps78
        go_wp2
        refine wp_loop_rounds 3 ?_
        rw [rounds_succ]
        go_wp2_with (first | (go_at_call 79; refine HC1.out.mono ?_; rintro e5 w5 ⟨rfl, ⟨S1, hS1, hs5⟩, hg5⟩))
        have HC3 := Lib.hid (HC2.out S1 hS1 _ hs5)
        rw [rounds_succ]
        go_wp2_with (first | (go_at_call 79; refine HC3.out.mono ?_; rintro e6 w6 ⟨rfl, ⟨S2, hS2, hs6⟩, hg6⟩))
        have HC5 := Lib.hid (HC4.out S1 S2 hS1 hS2 _ hs6)
        rw [rounds_succ]
        go_wp2_with (first | (go_at_call 79; refine HC5.out.mono ?_; rintro e7 w7 ⟨rfl, ⟨S3, hS3, hs7⟩, hg7⟩))
        have hS3n : S3 = [] := List.eq_nil_of_length_eq_zero (by rw [hS3.len]; rfl)
        subst hS3n
        have HC6 := Lib.hid (HCM.out S1 S2 hS1 hS2 _ (by simpa using hs7))
        refine wp_loop_rounds 2 ?_
        rw [rounds_succ]
        go_wp2
        refine wp_loop_rounds 2 ?_
        rw [rounds_succ]
        go_wp2_with (first | (go_at_call 80; refine HC6.out.mono ?_; rintro e8 w8 ⟨rfl, ⟨Z, hZ, hs8⟩, hg8⟩))
        rw [rounds_succ]
        go_wp2
        rw [rounds_succ]
        go_wp2
        go_end0
        exact ⟨rfl, ⟨Z, HFIN.out S1 S2 Z hS1 hS2 hZ, by simpa using hs8⟩, gb_step (gb_step (gb_step hg5 hg6) hg7) hg8⟩
      · have hd1 : decide ((20 : Int) ≤ (N : Int)) = true := decide_eq_true (by omega)
        have hd2 : decide ((20 : Int) < (N : Int)) = true := decide_eq_true (by omega)
        have hd3 : decide ((40 : Int) ≤ (N : Int)) = false := decide_eq_false (by omega)
        have hd4 : decide ((40 : Int) < (N : Int)) = false := decide_eq_false (by omega)
        clear hc1 hc2 hc3 hN h hgo h1 h2
        unfold SortFn at *
        go_enter Try.func78, Try.ntmps78
        go_wp2
        refine wp_loop_rounds 2 ?_
        rw [rounds_succ]
        go_wp2_with (first | (go_at_call 79; refine HC1.out.mono ?_; rintro e5 w5 ⟨rfl, ⟨S1, hS1, hs5⟩, hg5⟩))
        have HC3 := Lib.hid (HC2.out S1 hS1 _ hs5)
        rw [rounds_succ]
        go_wp2_with (first | (go_at_call 79; refine HC3.out.mono ?_; rintro e6 w6 ⟨rfl, ⟨S2, hS2, hs6⟩, hg6⟩))
        have HC6 := Lib.hid (HCM.out S1 S2 hS1 hS2 _ hs6)
        refine wp_loop_rounds 2 ?_
        rw [rounds_succ]
        go_wp2
        refine wp_loop_rounds 1 ?_
        rw [rounds_succ]
        go_wp2_with (first | (go_at_call 80; refine HC6.out.mono ?_; rintro e8 w8 ⟨rfl, ⟨Z, hZ, hs8⟩, hg8⟩))
        rw [rounds_succ]
        go_wp2
        go_end0
        exact ⟨rfl, ⟨Z, HFIN.out S1 S2 Z hS1 hS2 hZ, by simpa using hs8⟩, gb_step (gb_step hg5 hg6) hg8⟩
set_option maxRecDepth 100000 in
set_option maxHeartbeats 400000 in
theorem sortStable_any (b cap N : Nat) (d : List Ev) (w : World) (h : SR w b d) (hN : N = d.length) (h40 : N ≤ 40) :
    Calls Try.prog 70 #[.slice (some ⟨b, 0, none⟩) N cap, SortFn] w (StPost d b w) := by
  have HC := Lib.hid (stable_any b cap N d w h hN h40)
  clear h hN
  unfold SortFn at *
  go_enter Try.func70, Try.ntmps70
  go_wp2_with (first | (go_at_call 78; refine HC.out.mono ?_; rintro e5 w5 ⟨rfl, hS, hg5⟩))
  go_end0
  exact ⟨rfl, hS, hg5⟩
end Go.Proofs.Ytlfhjlkhhaoicaa
