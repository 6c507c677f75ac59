/- slices.Values, AppendSeq, Collect, and kith/past.Sort. -/
import Derived.RangeFuncNested
import Derived.RangeFuncBound
import Derived.RangeFuncCalls
import Derived.RangeFuncLeaves
import Derived.RangeFuncBox
import Derived.Shelf.Abstract
import Derived.WalkKit
import Derived.OwnWalkIn
import Derived.TacticsInMore
import Derived.LoopNIn
import Derived.LoopIn
import Derived.Maps.AppendAt
import Derived.Test.YtlfhjlkhhaoicaaWords
import Derived.Test.YtlfhjlkhhaoicaaSortN
namespace Go.Proofs.Ytlfhjlkhhaoicaa
set_option linter.unusedVariables false
set_option linter.unusedSimpArgs false
open Go Go.RowKit Go.Shelf
attribute [local go_sem] Oper.semAt_some

abbrev vEv (x : Ev) : Value := .agg #[.int .i64 x.r, .int .i64 x.n, .int .i64 x.c.x0, .int .i64 x.c.x1, .int .i64 x.c.x2, .int .i64 x.c.x3, .int .i64 x.c.x4, .int .i64 x.h, .int .i64 x.k, .string x.key, .int .i64 x.lab, .string x.val]
set_option maxRecDepth 100000 in
set_option maxHeartbeats 2000000 in
theorem values1_in (F : Fence) (n : Nat) (hf : F.fn 71) (hro : F.round = none) (hn : 1 ≤ n) (l Bs n₀ cap : Nat) (A : Option Addr) (p : List Ev) (hp : p.length ≤ 1000) (J Jx : List Ev → World → Prop) (W : World) (hn₀ : n₀ ≤ W.heap.size) (hJ : AbidesFrom W.heap.size J)
    (hY : ∀ pre x W1, J pre W1 → pre.length < p.length → YieldAt F (n - 1) Try.prog l #[vEv x] W1 fun e W' =>
      (e = .returned (.bool true) ∧ J (pre ++ [x]) W' ∧ Below n₀ W1 W') ∨ (e = .returned (.bool false) ∧ Jx (pre ++ [x]) W'))
    (hBs : W.cell? ⟨Bs, 0, none⟩ = some (.slice A p.length cap)) (hrow : evK.row W A p) (hA : ∀ a, A = some a → a.block < n₀) (h0 : J [] W) :
    CallsIn F n Try.prog 71 #[.func (.yield l) #[] #[], .pointer (some ⟨Bs, 0, none⟩)] W fun e W' => (∃ v, e = .returned v) ∧
      ((∃ ys, ys = p ∧ J ys W') ∨ (∃ pre, pre <+: p ∧ Jx pre W')) := by
  generalize hN : p.length = N at *
  have HN := Lib.hid hN
  clear hN
  refine callsIn_of_wp Try.func71 rfl hf ?_ hro
  simp only [Try.ntmps71, List.size_toArray, List.length_cons, List.length_nil, Nat.reduceAdd, Nat.reduceSub, Array.replicate_succ, Array.replicate_zero, List.push_toArray, List.append_toArray, List.nil_append, List.cons_append]
  gi_wp2
  gi_loopw [7] (fun i wr => ∃ k : Nat, k ≤ N ∧ i = .int .i64 k ∧ J (p.take k) wr ∧ Below n₀ W wr)
    (fun i _ => N - (intOf i).toNat)
  case atStart => exact ⟨0, Nat.zero_le _, rfl, h0, Below.refl _ _⟩
  case round =>
    obtain ⟨k, hk, rfl, hJs, hnx⟩ := hrel
    by_cases hlt : k < N
    · obtain ⟨x, hx⟩ : ∃ x, p[k]? = some x := ⟨_, List.getElem?_eq_getElem (by rw [HN.out]; exact hlt)⟩
      obtain ⟨b, off, rfl, hb, hat⟩ := hrow.get hx
      obtain ⟨c0, c1, c2, c3, c4, c5, c6, c7, c8, c9, c10, c11⟩ := evAt_get (hat.below hnx (hA _ rfl)) hx
      have hsz := hnx.size
      have hJ' : J (p.take k) (wr.alloc (Obj.cells #[.int .i64 x.r, .int .i64 x.n, .int .i64 x.c.x0, .int .i64 x.c.x1, .int .i64 x.c.x2, .int .i64 x.c.x3, .int .i64 x.c.x4, .int .i64 x.h, .int .i64 x.k, .string x.key, .int .i64 x.lab, .string x.val] 31)) := hJ _ _ _ none hJs (World.grownBy_alloc wr _ none) (fun r e => by cases e)
      obtain ⟨fn, tmps, assign, body, hy, hR⟩ := hY _ x _ hJ' (by rw [List.length_take, HN.out]; omega)
      have HX := Lib.hid (show p.take (k + 1) = p.take k ++ [x] by rw [List.take_add_one, hx]; rfl)
      have HP := Lib.hid (show p.take k ++ [x] <+: p by rw [← HX.out]; exact List.take_prefix _ _)
      clear hx
      gi_wp2
      refine hR.mono ?_
      rintro e W3 (⟨rfl, hJ3, hk3⟩ | ⟨rfl, hJx3⟩)
      · have hb3 : Below n₀ W W3 := (hnx.alloc (Nat.le_trans hn₀ (by first | exact hsz | exact Nat.le_trans (Nat.le_refl _) hsz)) _).trans hk3
        gi_wp2
        go_roundw
        case rel => exact ⟨k + 1, by omega, by simp, by rw [HX.out]; exact hJ3, hb3⟩
        case measure => simp [intOf]; omega
      · gi_wp2
        refine bodyPost_ret (results_none rfl _ _ _) rfl ?_
        exact ⟨⟨_, rfl⟩, .inr ⟨_, HP.out, hJx3⟩⟩
    · obtain rfl : k = N := by omega
      rw [List.take_of_length_le (by rw [HN.out]; exact Nat.le_refl _)] at hJs
      gi_wp2
      go_end0
      exact ⟨⟨_, rfl⟩, .inl ⟨_, rfl, hJs⟩⟩
theorem blk_kept {W W' : World} {row : Option Nat} {b : Nat} {cs : List Value} {t : TypeId} (h : blk W b cs t) (hg : W.grownBy W' row) (hr : ∀ r, row = some r → ∃ o : Obj, W.heap[r]? = some o ∧ o.isCells = false) : blk W' b cs t := h.grown hg (fun e => by
  obtain ⟨o, ho, hc⟩ := hr b e.symm
  unfold blk at h
  rw [h] at ho
  cases ho
  cases hc)
set_option maxRecDepth 100000 in
set_option maxHeartbeats 800000 in
theorem values_in (F : Fence) (n : Nat) (hf : F.fn 62) (hro : F.round = none) (A : Option Addr) (N cap : Nat) (w : World) :
    CallsIn F n Try.prog 62 #[.slice A N cap] w fun e w' => e = .returned (.func (.func 71) #[] #[.pointer (some ⟨w.heap.size, 0, none⟩)]) ∧ w' = w.alloc (.cells #[.slice A N cap] 24) := by
  refine callsIn_of_wp Try.func62 rfl hf ?_ hro
  simp only [Try.ntmps62, List.size_toArray, List.length_cons, List.length_nil, Nat.reduceAdd, Nat.reduceSub, Array.replicate_succ, Array.replicate_zero, List.push_toArray, List.append_toArray, List.nil_append, List.cons_append]
  gi_wp2
  go_ret
  exact ⟨rfl, rfl⟩
theorem values_stops (F : Fence) (n : Nat) (hf : F.fn 71) (hro : F.round = none) (hn : 1 ≤ n) (Bs n₀ cap : Nat) (A : Option Addr) (p : List Ev) (hp : p.length ≤ 1000) (w : World) (hn₀ : n₀ ≤ w.heap.size)
    (hB : Bs < w.heap.size) (hBs : w.cell? ⟨Bs, 0, none⟩ = some (.slice A p.length cap)) (hrow : evK.row w A p) (hA : ∀ a, A = some a → a.block < n₀) :
    SeqStopsK F n Try.prog 71 #[.pointer (some ⟨Bs, 0, none⟩)] (fun x : Ev => #[vEv x]) (Below n₀) (fun ys => ys = p) (fun pre => pre <+: p) p.length w := fun l J Jx W hW hJ _ hY h0 =>
  values1_in F n hf hro hn l Bs n₀ cap A p hp J Jx W (Nat.le_trans hn₀ hW.size) hJ hY ((hW.cell (p := ⟨Bs, 0, none⟩) hB).trans hBs) (hrow.below hW (Nat.le_refl _)) hA h0
set_option maxRecDepth 100000 in
set_option maxHeartbeats 4000000 in
theorem appendSeq_in (F : Fence) (n : Nat) (hf : F.fn 77) (hf1 : F.fn 71) (hro : F.round = none) (hn : 6 ≤ n) (Bs cap : Nat) (A : Option Addr) (p : List Ev) (hp : p.length ≤ 1000) (w : World)
    (hB : Bs < w.heap.size) (hBs : w.cell? ⟨Bs, 0, none⟩ = some (.slice A p.length cap)) (hrow : evK.row w A p) (hA : ∀ a, A = some a → a.block < w.heap.size) :
    CallsIn F n Try.prog 77 #[.slice none 0 0, .func (.func 71) #[] #[.pointer (some ⟨Bs, 0, none⟩)]] w fun e W' => ∃ v, e = .returned v ∧ W'.ownsRow w.heap.size 31 12 v p.length (p.flatMap evK.enc) ∧ Below w.heap.size w W' := by
  have h1 : 1 ≤ n := by omega
  obtain ⟨i0, hi, hz0, hz1, hz2⟩ := info_parts infoEv
  refine callsIn_of_wp_marks Try.func77 rfl hf ?_ hro
  simp only [Try.ntmps77, List.size_toArray, List.length_cons, List.length_nil, Nat.reduceAdd, Nat.reduceSub, Array.replicate_succ, Array.replicate_zero, List.push_toArray, List.append_toArray, List.nil_append, List.cons_append]
  gi_wp2
  have bO := Boxed.new w 24 (.slice none 0 0)
  have hB0 : Below w.heap.size w (w.alloc (.cells #[.slice none 0 0] 24)) := (Below.refl _ w).alloc (Nat.le_refl _) _
  have hsz : (w.alloc (.cells #[.slice none 0 0] 24)).heap.size = w.heap.size + 1 := by simp
  obtain ⟨W0, hW0⟩ : ∃ W0, w.alloc (.cells #[.slice none 0 0] 24) = W0 := ⟨_, rfl⟩
  rw [hW0] at bO hB0 hsz ⊢
  clear hW0
  refine wpIn_rangeFunc_ownH hro h1 (gf := 71) (lb := #[.pointer (some ⟨Bs, 0, none⟩)]) rfl hf1 (enters_of Try.func71 (by kernel_rfl) rfl)
    (values_stops F (n - 1) hf1 hro (by omega) Bs w.heap.size cap A p hp W0 (by omega) (by omega) ((hB0.cell (p := ⟨Bs, 0, none⟩) hB).trans hBs) (hrow.below hB0 (Nat.le_refl _)) hA) belowK_t (belowK_b (by omega)) (Below.refl _ _) (fun _ => rfl)
    (fun pre W => (∃ v, Boxed W w.heap.size 24 v ∧ W.ownsRow w.heap.size 31 12 v pre.length (pre.flatMap evK.enc) ∧ True) ∧ Below w.heap.size w W)
    (fun _ _ _ => False)
    (OwnFrom.and (Own.from (holdsRow_own w.heap.size w.heap.size 24 31 12 (fun pre : List Ev => pre.length) (fun pre : List Ev => pre.flatMap evK.enc) (fun _ _ => True)) _) (ownFrom_below (Nat.le_refl _) (by omega)))
    (fun _ _ _ _ _ hs _ _ => hs)
    ⟨⟨_, bO, World.ownsRow_nil _ _ _ _, trivial⟩, hB0⟩
    (fun x a' W => ∃ Bx, w.heap.size < Bx ∧ blk W Bx (evK.enc x) 31 ∧ a' = { tmps := #[.slice none 0 0, .func (.func 71) #[] #[.pointer (some ⟨Bs, 0, none⟩)], .pointer (some ⟨w.heap.size, 0, none⟩), undef, .slice none 0 0, .pointer (some ⟨Bx, 0, none⟩), .func (.func 71) #[] #[.pointer (some ⟨Bs, 0, none⟩)], vEv x, undef, undef, undef, undef, undef], defers := [] })
    (fun x a' _ X Y row hs hg hr => by obtain ⟨Bx, h1, h2, h3⟩ := hs; exact ⟨Bx, h1, blk_kept h2 hg (fun r e => (hr r e).2), h3⟩)
    ?assign ?body ?done ?stop
  case assign =>
    rintro l pre x W K ⟨⟨v, hv, hrw, _⟩, hB1⟩ hK
    gi_wp2
    exact hK _ _ ((KeepsOthers.alloc _ _).from _) ((Below.refl _ W).alloc hB1.size _) ⟨⟨v, hv.alloc _, hrw.alloc _, trivial⟩, hB1.alloc hB1.size _⟩ ⟨W.heap.size, hv.lt, blk_new W (evK.enc x) 31, rfl⟩
  case body =>
    rintro l pre x a' W hl ⟨r, hr⟩ ⟨⟨v, hv, hrw, _⟩, hB1⟩ ⟨Bx, hBx, bX, rfl⟩ hlt
    have hc := hv.cell
    have cX : ∀ o, W.cell? ⟨Bx, o, none⟩ = ([.int .i64 x.r, .int .i64 x.n, .int .i64 x.c.x0, .int .i64 x.c.x1, .int .i64 x.c.x2, .int .i64 x.c.x3, .int .i64 x.c.x4, .int .i64 x.h, .int .i64 x.k, .string x.key, .int .i64 x.lab, .string x.val] : List Value)[o]? := bX.cell
    have lX := bX.lt
    have hsW := hB1.size
    have hm1 : pre.length + 1 ≤ maxLen := by unfold maxLen; omega
    have hm2 : (pre.length + 1) * 112 ≤ 140737488355328 := by omega
    gi_wp2_with (first | (gi_at_builtin; refine wpListIn_append_own _ rfl _ _ 24 rfl w.heap.size 31 i0 (.agg #[.int .i64 Ev.zero.r, .int .i64 Ev.zero.n, .int .i64 Ev.zero.c.x0, .int .i64 Ev.zero.c.x1, .int .i64 Ev.zero.c.x2, .int .i64 Ev.zero.c.x3, .int .i64 Ev.zero.c.x4, .int .i64 Ev.zero.h, .int .i64 Ev.zero.k, .string Ev.zero.key, .int .i64 Ev.zero.lab, .string Ev.zero.val]) 12 112 Try.underlying24 hi hz0 hz1 hz2 rfl (by decide) _ _ _ rfl (hrw.alloc _) ⟨W.heap.size, 0, none⟩ 1 1 (evK.enc x) rfl rfl (Kn.news x (blk_new W (evK.enc x) 31)) (evK.one x) hm1 hm2 (by simp; omega) ?_; intro v' w1 hown' hgrow _; obtain ⟨g', cap', rfl⟩ := ownsRow_succ hown'; obtain ⟨hv1, hv2, hr2, hk2, hb2⟩ := hv.appended (by decide) hrw hB1.size (Nat.le_refl _) hown' hgrow; have hc1 := hv1.cell; have hf1' := hv1.frozen))
    exact ⟨hk2.from _, hb2, ⟨⟨_, hv2, by simpa using hr2, trivial⟩, hB1.trans hb2⟩⟩
  case done =>
    rintro D ys W hD rfl ⟨⟨v, hv, hrw, _⟩, hB1⟩ hK
    have hc := hv.cell
    gi_wp2
    refine ⟨by simp, .inl ⟨_, _, rfl, run_takeDeferred hK, ?_⟩⟩
    exact ⟨_, results_tmp rfl _ _ _, v, rfl, ownsRow_putObj hrw _ hK rfl, hB1.trans (belowK_b (w := w) (Nat.le_refl _) W D _ _ (by omega) hK rfl rfl)⟩
  case stop =>
    rintro D c pre W _ _ h _
    exact h.elim
end Go.Proofs.Ytlfhjlkhhaoicaa

namespace Go.Proofs.Ytlfhjlkhhaoicaa
set_option linter.unusedVariables false
set_option linter.unusedSimpArgs false
open Go.RowKit
attribute [local go_sem] q_le0 q_le1 q_le2 q_le3 q_le4 q_le5 q_lt1 q_lt2 q_lt3 q_lt4 q_lt5

abbrev SeqOf (Bs : Nat) : Value := .func (.func 71) #[] #[.pointer (some ⟨Bs, 0, none⟩)]
theorem appendSeq_any (Bs cap : Nat) (A : Option Addr) (p : List Ev) (hp : p.length ≤ 1000) (w : World) (hB : Bs < w.heap.size) (hBs : w.cell? ⟨Bs, 0, none⟩ = some (.slice A p.length cap)) (hrow : evK.row w A p) (hA : ∀ a, A = some a → a.block < w.heap.size) :
    Calls Try.prog 77 #[.slice none 0 0, SeqOf Bs] w fun e W' => ∃ v, e = .returned v ∧ evK.own 31 W' w.heap.size v p ∧ Below w.heap.size w W' :=
  (callsIn_wide (n := 6)).1 (appendSeq_in Fence.wide 6 trivial trivial rfl (Nat.le_refl _) Bs cap A p hp w hB hBs hrow hA)
theorem values_any (A : Option Addr) (N cap : Nat) (w : World) :
    Calls Try.prog 62 #[.slice A N cap] w fun e w' => e = .returned (SeqOf w.heap.size) ∧ w' = w.alloc (.cells #[.slice A N cap] 24) :=
  (callsIn_wide (n := 6)).1 (values_in Fence.wide 6 trivial rfl A N cap w)
set_option maxRecDepth 100000 in
set_option maxHeartbeats 800000 in
theorem collect_any (Bs cap : Nat) (A : Option Addr) (p : List Ev) (hp : p.length ≤ 1000) (w : World) (hB : Bs < w.heap.size) (hBs : w.cell? ⟨Bs, 0, none⟩ = some (.slice A p.length cap)) (hrow : evK.row w A p) (hA : ∀ a, A = some a → a.block < w.heap.size) :
    Calls Try.prog 69 #[SeqOf Bs] w fun e W' => ∃ v, e = .returned v ∧ evK.own 31 W' w.heap.size v p ∧ Below w.heap.size w W' := by
  have HC := Lib.hid (appendSeq_any Bs cap A p hp w hB hBs hrow hA)
  clear hB hBs hrow hA
  go_enter Try.func69, Try.ntmps69
  go_wp2_with (first | (go_at_call 77; refine HC.out.mono ?_; rintro e5 w5 ⟨v, rfl, ho, hb⟩))
  go_ret
  exact ⟨v, rfl, ho, hb⟩
def SortPost (p : List Ev) (w : World) (e : Ending) (w' : World) : Prop := ∃ A cap S, e = .returned (.slice A p.length cap) ∧ Sorted p S ∧ evK.row w' A S ∧ (∀ a, A = some a → a.block < w'.heap.size) ∧ Below w.heap.size w w'
set_option maxRecDepth 100000 in
set_option maxHeartbeats 400000 in
theorem insertion_nil (A : Option Addr) (cap : Nat) (w : World) :
    Calls Try.prog 79 #[.slice A 0 cap, .int .i64 0, .int .i64 0, SortFn] w fun e w' => e = .returned (.tuple #[]) ∧ w = w' := by
  unfold SortFn
  go_enter Try.func79, Try.ntmps79
  go_wp2
  refine wp_loop_rounds 1 ?_
  rw [rounds_succ]
  go_wp2
  go_end0
  exact ⟨rfl, rfl⟩
set_option maxRecDepth 100000 in
set_option maxHeartbeats 400000 in
theorem stable_nil (A : Option Addr) (cap : Nat) (w : World) :
    Calls Try.prog 78 #[.slice A 0 cap, .int .i64 0, SortFn] w fun e w' => e = .returned (.tuple #[]) ∧ w = w' := by
  have HC := Lib.hid (insertion_nil A cap)
  unfold SortFn at *
  go_enter Try.func78, Try.ntmps78
  go_wp2
  refine wp_loop_rounds 1 ?_
  rw [rounds_succ]
  go_wp2_with (first | (go_at_call 79; refine (HC.out _).mono ?_; rintro e5 w5 ⟨rfl, rfl⟩))
  refine wp_loop_rounds 1 ?_
  rw [rounds_succ]
  go_wp2
  go_end0
  exact ⟨rfl, rfl⟩
set_option maxRecDepth 100000 in
set_option maxHeartbeats 400000 in
theorem sortStable_nil (A : Option Addr) (cap : Nat) (w : World) :
    Calls Try.prog 70 #[.slice A 0 cap, SortFn] w fun e w' => e = .returned (.tuple #[]) ∧ w = w' := by
  have HC := Lib.hid (stable_nil A cap)
  unfold SortFn at *
  go_enter Try.func70, Try.ntmps70
  go_wp2_with (first | (go_at_call 78; refine (HC.out _).mono ?_; rintro e5 w5 ⟨rfl, rfl⟩))
  go_end0
  exact ⟨rfl, rfl⟩
set_option maxRecDepth 100000 in
set_option maxHeartbeats 1000000 in
theorem sortedStable_any (Bs cap : Nat) (A : Option Addr) (p : List Ev) (hp : p.length ≤ 40) (w : World) (hB : Bs < w.heap.size) (hBs : w.cell? ⟨Bs, 0, none⟩ = some (.slice A p.length cap)) (hrow : evK.row w A p) (hA : ∀ a, A = some a → a.block < w.heap.size) :
    Calls Try.prog 61 #[SeqOf Bs, SortFn] w (SortPost p w) := by
  have HC := Lib.hid (collect_any Bs cap A p (by omega) w hB hBs hrow hA)
  have HN := Lib.hid sortStable_nil
  have HS := Lib.hid sortStable_any
  clear hB hBs hrow hA
  unfold SortFn at *
  go_enter Try.func61, Try.ntmps61
  go_upto_region 2 with (first | (go_at_call 69; refine HC.out.mono ?_; rintro e5 w5 ⟨v, rfl, ho, hb⟩; obtain ⟨A5, c5, rfl, hr5, _, hA5⟩ := id ho.form))
  cases p with
  | nil =>
    go_wp2_with (first | (go_at_call 70; refine (HN.out A5 c5 _).mono ?_; rintro e6 w6 ⟨rfl, rfl⟩))
    go_ret
    exact ⟨A5, c5, [], rfl, ⟨Stb.refl _, List.Pairwise.nil⟩, .inl rfl, fun a ha => (hA5 a ha).2.2, hb⟩
  | cons x p =>
    obtain ⟨g, rfl, hg1, hg2, hat⟩ := ho.addr (k := 0) (x := x) rfl
    have hsr : SR w5 g (x :: p) := ⟨hat, ho.free, hg2⟩
    generalize hx : x :: p = q at *
    clear hx
    have HS5 := Lib.hid (HS.out g c5 q.length q w5 hsr rfl hp)
    clear hsr hat ho hr5 hA5
    go_wp2_with (first | (go_at_call 70; refine HS5.out.mono ?_; rintro e6 w6 ⟨rfl, ⟨S, hS, hs6⟩, hg6⟩))
    go_ret
    exact ⟨_, c5, S, rfl, hS, by have := hs6.row; exact this, fun a ha => by cases ha; exact hs6.lt, hb.trans (gb_below hg6 hg1 hb.size)⟩
set_option maxRecDepth 100000 in
set_option maxHeartbeats 800000 in
theorem sort_any (A : Option Addr) (cap : Nat) (p : List Ev) (hp : p.length ≤ 40) (w : World) (hrow : evK.row w A p) (hA : ∀ a, A = some a → a.block < w.heap.size) :
    Calls Try.prog 42 #[.slice A p.length cap] w (SortPost p w) := by
  have HV := Lib.hid (values_any A p.length cap w)
  have hb0 : Below w.heap.size w (w.alloc (.cells #[.slice A p.length cap] 24)) := (Below.refl _ _).alloc (Nat.le_refl _) _
  have hbx := blk_new w [.slice A p.length cap] 24
  have HS := Lib.hid (sortedStable_any w.heap.size cap A p hp (w.alloc (.cells #[.slice A p.length cap] 24)) (by simp) (by have := hbx.cell 0; exact this) (hrow.below hb0 (Nat.le_refl _)) (fun a ha => Nat.lt_of_lt_of_le (hA a ha) hb0.size))
  clear hbx hrow hA
  unfold SortFn at *
  go_enter Try.func42, Try.ntmps42
  go_wp2_with (first
    | (go_at_call 62; refine HV.out.mono ?_; rintro e5 w5 ⟨rfl, rfl⟩)
    | (go_at_call 61; refine HS.out.mono ?_; rintro e6 w6 ⟨A6, c6, S, rfl, hS, hr6, hA6, hb6⟩))
  go_ret
  exact ⟨A6, c6, S, rfl, hS, hr6, hA6, hb0.trans (hb6.mono hb0.size)⟩
end Go.Proofs.Ytlfhjlkhhaoicaa
