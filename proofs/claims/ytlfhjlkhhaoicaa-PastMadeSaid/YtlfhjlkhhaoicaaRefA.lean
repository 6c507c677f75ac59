/- The walks of the reference's small functions: Join, Height. -/
import Derived.Test.YtlfhjlkhhaoicaaClock
import Derived.Test.YtlfhjlkhhaoicaaPastP
namespace Go.Proofs.Ytlfhjlkhhaoicaa
set_option linter.unusedVariables false
set_option linter.unusedSimpArgs false
open Go.RowKit
attribute [local go_sem] ck_get ck_get? q_le0 q_le1 q_le2 q_le3 q_le4 q_le5 q_lt1 q_lt2 q_lt3 q_lt4 q_lt5

set_option maxRecDepth 100000 in
set_option maxHeartbeats 400000 in
theorem refJoin_any (a b : Ck) (w : World) :
    Calls Try.prog 47 #[.agg #[.int .i64 a.x0, .int .i64 a.x1, .int .i64 a.x2, .int .i64 a.x3, .int .i64 a.x4], .agg #[.int .i64 b.x0, .int .i64 b.x1, .int .i64 b.x2, .int .i64 b.x3, .int .i64 b.x4]] w fun e w' => e = .returned (.agg #[.int .i64 ((joinC a b)).x0, .int .i64 ((joinC a b)).x1, .int .i64 ((joinC a b)).x2, .int .i64 ((joinC a b)).x3, .int .i64 ((joinC a b)).x4]) ∧ Below w.heap.size w w' := by
  go_enter Try.func47, Try.ntmps47
  go_wp2
  go_loopw [6] (fun i wr => ∃ k : Nat, k ≤ 5 ∧ i = .int .i64 k ∧ ∃ x : Ck, (∀ j, j < 5 → x.get j = if j < k then max (a.get j) (b.get j) else 0) ∧ blk wr w.heap.size [Value.int .i64 a.x0, Value.int .i64 a.x1, Value.int .i64 a.x2, Value.int .i64 a.x3, Value.int .i64 a.x4] 23 ∧ blk wr (w.heap.size + 1) [Value.int .i64 b.x0, Value.int .i64 b.x1, Value.int .i64 b.x2, Value.int .i64 b.x3, Value.int .i64 b.x4] 23 ∧ blk wr (w.heap.size + 1 + 1) [Value.int .i64 0, .int .i64 0, .int .i64 0, .int .i64 0, .int .i64 0] 23 ∧ blk wr (w.heap.size + 1 + 1 + 1) [Value.int .i64 x.x0, Value.int .i64 x.x1, Value.int .i64 x.x2, Value.int .i64 x.x3, Value.int .i64 x.x4] 23 ∧ Below w.heap.size w wr) (fun i _ => 5 - (intOf i).toNat)
  case atStart => exact ⟨0, by omega, rfl, Ck.zero, fun j hj => by rcases lt5 hj with rfl | rfl | rfl | rfl | rfl <;> rfl, (((blk_new _ _ _).alloc _).alloc _).alloc _, ((blk_at (by simp) _ _).alloc _).alloc _, (blk_at (by simp) _ _).alloc _, blk_at (by simp) _ _, ((((Below.refl _ _).alloc (Nat.le_refl _) _).alloc (by simp) _).alloc (by simp; omega) _).alloc (by simp; omega) _⟩
  case round =>
    obtain ⟨k, hk, rfl, x, hx, h0, h1, h2, h3, hB⟩ := hrel
    have c0 := h0.cell; have c1 := h1.cell; have c2 := h2.cell; have c3 := h3.cell
    have f3 := h3.free; have f2 := h2.free
    by_cases hlt : k < 5
    · go_wp2
      go_region
      all_goals go_wp2
      all_goals go_roundw
      case rel =>
        refine ⟨k + 1, by omega, by go_num, x.set k (if a.get k < b.get k then b.get k else a.get k), fun j hj => ?_, (h0.set_ne (by simp <;> omega) _).drew, (h1.set_ne (by simp <;> omega) _).drew, (h2.set_ne (by simp <;> omega) _).drew, (h3.setCk hlt _).drew, (hB.setCell (by simp <;> omega) _).drew⟩
        have := hx j hj
        by_cases e : j = k
        · subst e
          have e1 : (if j < j + 1 then max (a.get j) (b.get j) else 0) = max (a.get j) (b.get j) := if_pos (by omega)
          rw [Ck.get_set_same _ hj, e1]
          split <;> omega
        · rw [Ck.get_set_ne _ (Ne.symm e), this]
          by_cases e2 : j < k
          · rw [if_pos e2, if_pos (by omega)]
          · rw [if_neg e2, if_neg (by omega)]
      case measure => simp [intOf]; omega
    · go_wp2
      have hxj : x = joinC a b := Ck.ext' fun j hj => by rw [hx j hj, if_pos (by omega), joinC_get hj]
      subst hxj
      refine bodyPost_ret (v := .agg #[.int .i64 ((joinC a b)).x0, .int .i64 ((joinC a b)).x1, .int .i64 ((joinC a b)).x2, .int .i64 ((joinC a b)).x3, .int .i64 ((joinC a b)).x4]) (by simp [results, Try.results47, go_sem, c2]) rfl ⟨rfl, ?_⟩
      exact ((((hB.setCell (by simp; omega) _).setCell (by simp; omega) _).setCell (by simp; omega) _).setCell (by simp; omega) _).setCell (by simp; omega) _

/-- What the reference's Height knows, k events looked at. -/
def HtSt (l : List Ev) (c : Ck) (k : Nat) (hi : Int) (any : Bool) : Prop :=
  (any = false ∧ hi = 0 ∧ ∀ e ∈ l.take k, hasB c e.r e.n = false) ∨ (any = true ∧ (∃ e ∈ l.take k, hasB c e.r e.n = true ∧ hi = e.h) ∧ ∀ e ∈ l.take k, hasB c e.r e.n = true → e.h ≤ hi)
theorem mem_take_succ {l : List Ev} {k : Nat} {e x : Ev} (h : l[k]? = some e) : x ∈ l.take (k + 1) ↔ x ∈ l.take k ∨ x = e := by
  rw [List.take_add_one, h]; simp
theorem HtSt.skip {l : List Ev} {c : Ck} {k : Nat} {hi : Int} {any : Bool} (h : HtSt l c k hi any) {e : Ev} (he : l[k]? = some e) (hs : hasB c e.r e.n = false ∨ (any = true ∧ e.h ≤ hi)) : HtSt l c (k + 1) hi any := by
  rcases h with ⟨h1, h2, h3⟩ | ⟨h1, ⟨x, hx, h2⟩, h3⟩
  · left
    refine ⟨h1, h2, fun y hy => ?_⟩
    rcases (mem_take_succ he).1 hy with hy | rfl
    · exact h3 y hy
    · rcases hs with hs | ⟨hs, _⟩
      · exact hs
      · rw [h1] at hs; simp at hs
  · right
    refine ⟨h1, ⟨x, (mem_take_succ he).2 (.inl hx), h2⟩, fun y hy hb => ?_⟩
    rcases (mem_take_succ he).1 hy with hy | rfl
    · exact h3 y hy hb
    · rcases hs with hs | ⟨_, hs⟩
      · rw [hb] at hs; simp at hs
      · exact hs
theorem HtSt.put {l : List Ev} {c : Ck} {k : Nat} {hi : Int} {any : Bool} (h : HtSt l c k hi any) {e : Ev} (he : l[k]? = some e) (hb : hasB c e.r e.n = true) (hs : any = false ∨ hi < e.h) : HtSt l c (k + 1) e.h true := by
  refine .inr ⟨rfl, ⟨e, (mem_take_succ he).2 (.inr rfl), hb, rfl⟩, fun y hy hby => ?_⟩
  rcases (mem_take_succ he).1 hy with hy | rfl
  · rcases h with ⟨h1, h2, h3⟩ | ⟨h1, _, h3⟩
    · rw [h3 y hy] at hby; simp at hby
    · have := h3 y hy hby
      rcases hs with hs | hs
      · rw [h1] at hs; simp at hs
      · omega
  · exact Int.le_refl _
theorem HtSt.isHeight {l : List Ev} {c : Ck} {hi : Int} {any : Bool} (h : HtSt l c l.length hi any) : isHeight l c (hi + 1) := by
  unfold HtSt at h
  rw [List.take_length] at h
  rcases h with ⟨h1, h2, h3⟩ | ⟨h1, ⟨x, hx, h2, h4⟩, h3⟩
  · refine ⟨fun e he hb => ?_, .inl ⟨by omega, h3⟩⟩
    rw [h3 e he] at hb; simp at hb
  · exact ⟨fun e he hb => by have := h3 e he hb; omega, .inr ⟨x, hx, h2, by omega⟩⟩
theorem HtSt.bd {l : List Ev} {c : Ck} {k : Nat} {hi : Int} {any : Bool} (h : HtSt l c k hi any) (hb : ∀ e ∈ l, 0 ≤ e.h ∧ e.h ≤ 100000000) : 0 ≤ hi ∧ hi ≤ 100000000 := by
  rcases h with ⟨h1, h2, h3⟩ | ⟨h1, ⟨x, hx, h2, h4⟩, h3⟩
  · omega
  · have := hb x ((List.take_sublist _ _).subset hx); omega

set_option maxRecDepth 100000 in
set_option maxHeartbeats 1000000 in
theorem refHeight_any (A : Option Addr) (ca : Nat) (l : List Ev) (c : Ck) (w : World) (hl : evs w A l) (hn : l.length ≤ 1000) (hh : ∀ e ∈ l, 0 ≤ e.h ∧ e.h ≤ 100000000) :
    Calls Try.prog 49 #[.slice A l.length ca, .agg #[.int .i64 c.x0, .int .i64 c.x1, .int .i64 c.x2, .int .i64 c.x3, .int .i64 c.x4]] w fun e w' => ∃ h, e = .returned (.int .i64 h) ∧ isHeight l c h ∧ Below w.heap.size w w' := by
  generalize hnn : l.length = n at *
  have HN := Lib.hid hnn
  have HH := Lib.hid hh
  clear hnn hh
  have kc0 := blk_new w [Value.int .i64 c.x0, Value.int .i64 c.x1, Value.int .i64 c.x2, Value.int .i64 c.x3, Value.int .i64 c.x4] 23
  go_enter Try.func49, Try.ntmps49
  go_wp2
  go_loopw [5, 6, 7] (fun v5 v6 v7 wr => ∃ (k : Nat) (hi : Int) (any : Bool), k ≤ n ∧ v7 = .int .i64 k ∧ v5 = .int .i64 hi ∧ v6 = .bool any ∧ Hid (HtSt l c k hi any) ∧ blk wr w.heap.size [Value.int .i64 c.x0, Value.int .i64 c.x1, Value.int .i64 c.x2, Value.int .i64 c.x3, Value.int .i64 c.x4] 23 ∧ Below w.heap.size w wr) (fun _ _ i _ => n - (intOf i).toNat)
  case atStart => exact ⟨0, 0, false, by omega, rfl, rfl, rfl, .inl ⟨rfl, rfl, by simp⟩, kc0, (Below.refl _ _).alloc (Nat.le_refl _) _⟩
  case round =>
    obtain ⟨k, hi, any, hk, rfl, rfl, rfl, hS, kc, hB⟩ := hrel
    have hbd := hS.out.bd HH.out
    by_cases hlt : k < n
    · obtain ⟨e, he⟩ : ∃ e, l[k]? = some e := ⟨_, List.getElem?_eq_getElem (by rw [HN.out]; exact hlt)⟩
      obtain ⟨b, off, rfl, hb, hat⟩ := hl.get he
      have hatr := hat.below hB hb
      obtain ⟨c0, c1, -, -, -, -, -, c7, -⟩ := evAt_get hatr he
      have hltr := kc.lt
      have kcr := kc.cell
      have hsz := hB.size
      have HE := Lib.hid he
      clear he
      have fin : ∀ (w5 : World), Below wr.drew.heap.size wr.drew w5 → w5.cell? ⟨b, off + k * 12 + 7, none⟩ = some (.int .i64 e.h) := fun w5 hb3 => (hb3.cell (p := ⟨b, _, none⟩) (by simp; omega)).trans c7
      go_wp2
      go_region_held3 (fun w' => (∀ o, w'.cell? ⟨w.heap.size, o, none⟩ = [Value.int .i64 c.x0, Value.int .i64 c.x1, Value.int .i64 c.x2, Value.int .i64 c.x3, Value.int .i64 c.x4][o]?) ∧ w'.cell? ⟨b, off + k * 12, none⟩ = some (.int .i64 e.r) ∧ w'.cell? ⟨b, off + k * 12 + 1, none⟩ = some (.int .i64 e.n) ∧ wr.heap.size ≤ w'.heap.size) (first | exact ⟨kcr, c0, c1, Nat.le_refl _⟩ | exact ⟨(kc.drew.below hb3 hltr).cell, (hb3.cell (p := ⟨b, _, none⟩) (by simp; omega)).trans c0, (hb3.cell (p := ⟨b, _, none⟩) (by simp; omega)).trans c1, hb3.size⟩) (first | (go_at_call 21; refine (refHas_any c e.r e.n _).mono ?_; rintro e3 w5 ⟨rfl, hb3⟩))
      have c75 := fin w5 hb3
      have kc5 := kc.drew.below hb3 hltr
      have hB5 := hB.drew.trans (hb3.mono (by simp; omega))
      clear c0 c1 c7 kcr fin hatr
      cases hhb : hasB c e.r e.n with
      | false =>
        have HB := Lib.hid hhb
        clear hhb
        go_wp2
        go_roundw
        case rel => exact ⟨k + 1, hi, any, by omega, by go_num, rfl, rfl, hS.out.skip HE.out (.inl HB.out), kc5, hB5⟩
        case measure => simp [intOf]; omega
      | true =>
        have HB := Lib.hid hhb
        clear hhb
        cases any with
        | false =>
          go_wp2
          go_roundw
          case rel => exact ⟨k + 1, e.h, true, by omega, by go_num, rfl, rfl, hS.out.put HE.out HB.out (.inl rfl), kc5, hB5⟩
          case measure => simp [intOf]; omega
        | true =>
          by_cases hg : hi < e.h
          · go_wp2
            go_roundw
            case rel => exact ⟨k + 1, e.h, true, by omega, by go_num, rfl, rfl, hS.out.put HE.out HB.out (.inr hg), kc5, hB5⟩
            case measure => simp [intOf]; omega
          · go_wp2
            go_roundw
            case rel => exact ⟨k + 1, hi, true, by omega, by go_num, rfl, rfl, hS.out.skip HE.out (.inr ⟨rfl, by omega⟩), kc5, hB5⟩
            case measure => simp [intOf]; omega
    · obtain rfl : k = n := by omega
      go_wp2
      go_ret
      refine ⟨hi + 1, rfl, HtSt.isHeight (any := any) (by rw [HN.out]; exact hS.out), hB⟩
end Go.Proofs.Ytlfhjlkhhaoicaa
