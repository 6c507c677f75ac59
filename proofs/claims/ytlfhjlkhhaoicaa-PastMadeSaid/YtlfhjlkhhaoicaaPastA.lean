/- The walks of past.mark, past.index, past.has with the closure of Ordered, and past.Ordered. -/
import Derived.Test.YtlfhjlkhhaoicaaTextA
import Derived.Test.YtlfhjlkhhaoicaaMapM
import Derived.Deep.DrawnRows
namespace Go.Proofs.Ytlfhjlkhhaoicaa
set_option linter.unusedVariables false
set_option linter.unusedSimpArgs false
open Go.RowKit Go.Maps Go.ChangeMaps
attribute [local go_sem] ck_get ck_get? q_le0 q_le1 q_le2 q_le3 q_le4 q_le5 q_lt1 q_lt2 q_lt3 q_lt4 q_lt5

set_option maxRecDepth 100000 in
set_option maxHeartbeats 400000 in
theorem mark_any (e : Ev) (w : World) :
    Calls Try.prog 51 #[.agg #[.int .i64 e.r, .int .i64 e.n, .int .i64 e.c.x0, .int .i64 e.c.x1, .int .i64 e.c.x2, .int .i64 e.c.x3, .int .i64 e.c.x4, .int .i64 e.h, .int .i64 e.k, .string e.key, .int .i64 e.lab, .string e.val]] w fun x w' => x = .returned (.agg #[.int .i64 e.mk'.r, .int .i64 e.mk'.n]) ∧ Below w.heap.size w w' := by
  go_enter Try.func51, Try.ntmps51
  go_wp2
  refine bodyPost_ret (v := .agg #[.int .i64 e.mk'.r, .int .i64 e.mk'.n]) (by simp [results, Try.results51, go_sem]; exact ⟨rfl, rfl⟩) rfl ⟨rfl, ?_⟩
  exact ((Below.refl _ _).alloc (Nat.le_refl _) _).alloc (by simp) _

/-- The place of the first event of a mark. -/
def firstI (l : List Ev) (m : Mk) : Option Nat := l.findIdx? fun e => decide (m = e.mk')
def intV (i : Nat) : Value := .int .i64 i
/-- What an index knows of a row. -/
structure idxOK (l : List Ev) (ms : List (Mk × Value)) : Prop where
  look : ∀ m, lookM ms m = (firstI l m).map intV
  len : ms.length ≤ l.length
  nodup : ms.length = l.length ↔ (l.map Ev.mk').Nodup
theorem lookM_append (ms : List (Mk × Value)) (m' : Mk) (v : Value) (m : Mk) : lookM (ms ++ [(m', v)]) m = (lookM ms m).or (if m = m' then some v else none) := by
  unfold lookM
  rw [List.find?_append]
  cases h : ms.find? (fun p => decide (m = p.1)) with
  | some x => rfl
  | none =>
    by_cases e : m = m' <;> simp [List.find?_cons, e]
theorem firstI_append (l : List Ev) (e : Ev) (m : Mk) : firstI (l ++ [e]) m = (firstI l m).or (if m = e.mk' then some l.length else none) := by
  unfold firstI
  rw [List.findIdx?_append]
  cases h : l.findIdx? (fun x => decide (m = x.mk')) with
  | some x => rfl
  | none => by_cases e : m = e.mk' <;> simp [e]
theorem firstI_none {l : List Ev} {m : Mk} : firstI l m = none ↔ ∀ e ∈ l, e.mk' ≠ m := by
  unfold firstI
  rw [List.findIdx?_eq_none_iff]
  constructor
  · intro h e he hc; have := h e he; simp [hc.symm] at this
  · intro h e he; simp only [decide_eq_false_iff_not]; exact fun hc => h e he hc.symm
theorem firstI_some {l : List Ev} {m : Mk} {i : Nat} (h : firstI l m = some i) : ∃ e, l[i]? = some e ∧ e.mk' = m ∧ ∀ j x, j < i → l[j]? = some x → x.mk' ≠ m := by
  unfold firstI at h
  obtain ⟨hlt, he, hn⟩ := List.findIdx?_eq_some_iff_getElem.1 h
  refine ⟨l[i], List.getElem?_eq_getElem hlt, (of_decide_eq_true he).symm, fun j x hj hx hc => ?_⟩
  obtain ⟨hjl, hx'⟩ := List.getElem?_eq_some_iff.1 hx
  have := hn j hj
  rw [hx'] at this
  simp [hc.symm] at this
theorem idxOK.nil : idxOK [] [] := ⟨fun m => rfl, by simp, by simp⟩
theorem idxOK.skip {l : List Ev} {ms : List (Mk × Value)} (h : idxOK l ms) {e : Ev} {v : Value} (hs : lookM ms e.mk' = some v) : idxOK (l ++ [e]) ms := by
  have hf : ∃ i, firstI l e.mk' = some i := by
    rw [h.look] at hs
    cases hx : firstI l e.mk' with
    | none => rw [hx] at hs; simp at hs
    | some i => exact ⟨i, rfl⟩
  obtain ⟨i, hi⟩ := hf
  refine ⟨fun m => ?_, by rw [List.length_append]; have := h.len; omega, ?_⟩
  · rw [firstI_append, h.look]
    by_cases e1 : m = e.mk'
    · subst e1; rw [hi]; rfl
    · rw [if_neg e1, Option.or_none]
  · refine ⟨fun hc => ?_, fun hc => ?_⟩
    · have := h.len; rw [List.length_append] at hc; simp at hc; omega
    · exfalso
      obtain ⟨x, hx, hm, _⟩ := firstI_some hi
      rw [List.map_append, List.nodup_append] at hc
      exact hc.2.2 x.mk' (List.mem_map.2 ⟨x, List.mem_of_getElem? hx, rfl⟩) e.mk' (by simp) hm
theorem idxOK.put {l : List Ev} {ms : List (Mk × Value)} (h : idxOK l ms) {e : Ev} (hs : lookM ms e.mk' = none) : idxOK (l ++ [e]) (ms ++ [(e.mk', intV l.length)]) := by
  have hf : firstI l e.mk' = none := by
    rw [h.look] at hs
    cases hx : firstI l e.mk' with
    | none => rfl
    | some i => rw [hx] at hs; simp at hs
  refine ⟨fun m => ?_, by simp; exact h.len, ?_⟩
  · rw [firstI_append, lookM_append, h.look]
    cases firstI l m with
    | some i => rfl
    | none => by_cases e1 : m = e.mk' <;> simp [e1]
  · rw [List.length_append, List.length_append, List.map_append, List.nodup_append]
    simp only [List.length_singleton, Nat.add_right_cancel_iff, h.nodup]
    refine ⟨fun hc => ⟨hc, by simp, fun a ha b hb => ?_⟩, fun hc => hc.1⟩
    obtain ⟨x, hx, rfl⟩ := List.mem_map.1 ha
    simp at hb
    subst hb
    exact firstI_none.1 hf x hx
theorem zeroInt (w : World) : (zeroValue 3).run Try.prog w = .ok (.int .i64 0) w := by kernel_rfl

set_option maxRecDepth 100000 in
set_option maxHeartbeats 1000000 in
theorem index_any (A : Option Addr) (ca : Nat) (l : List Ev) (w : World) (hl : evs w A l) (hn : l.length ≤ 1000) :
    Calls Try.prog 50 #[.slice A l.length ca, .func (.func 51) #[] #[]] w fun e w' => ∃ b ms, e = .returned (.map (some b)) ∧ w.heap.size ≤ b ∧ mapAt w' b ms ∧ idxOK l ms ∧ Below w.heap.size w w' := by
  generalize hnn : l.length = n at *
  have HN := Lib.hid hnn
  clear hnn
  have hmm := @run_makeMap Try.prog
  go_enter Try.func50, Try.ntmps50
  go_wp2
  go_loopw [13] (fun v13 wr => ∃ (k : Nat) (ms : List (Mk × Value)), k ≤ n ∧ v13 = .int .i64 k ∧ Hid (idxOK (l.take k) ms) ∧ mapAt wr w.heap.size ms ∧ Below w.heap.size w wr) (fun v13 _ => n - (intOf v13).toNat)
  case atStart => exact ⟨0, [], by omega, rfl, idxOK.nil, mapAt_new rfl, (Below.refl _ _).alloc (Nat.le_refl _) _⟩
  case round =>
    obtain ⟨k, ms, hk, rfl, hI, hM, hB⟩ := hrel
    have hltM := hM.lt
    by_cases hlt : k < n
    · obtain ⟨e, he⟩ : ∃ e, l[k]? = some e := ⟨_, List.getElem?_eq_getElem (by rw [HN.out]; exact hlt)⟩
      obtain ⟨b, off, rfl, hb, hat⟩ := hl.get he
      obtain ⟨c0, c1, c2, c3, c4, c5, c6, c7, c8, c9, c10, c11⟩ := evAt_get (hat.below hB hb) he
      have HT := Lib.hid (show l.take (k + 1) = l.take k ++ [e] by rw [List.take_add_one, he]; rfl)
      have HL := Lib.hid (show (l.take k).length = k by rw [List.length_take, HN.out]; omega)
      clear he
      have hx := blk_new wr [.int .i64 e.r, .int .i64 e.n, .int .i64 e.c.x0, .int .i64 e.c.x1, .int .i64 e.c.x2, .int .i64 e.c.x3, .int .i64 e.c.x4, .int .i64 e.h, .int .i64 e.k, .string e.key, .int .i64 e.lab, .string e.val] 31
      have hltx := hx.lt
      go_wp2_with fail
      refine (mark_any e _).mono ?_
      rintro e' w1 ⟨rfl, hb1⟩
      have hM1 := (hM.alloc _).below hb1 (by first | omega | (simp; done) | (simp; omega))
      have hx1 := hx.below hb1 hltx
      have kx1 := hx1.cell
      have hltx1 := hx1.lt
      have hB1 := (hB.alloc hB.size _).trans (hb1.mono (by first | omega | (simp; done) | (simp; omega)))
      cases hlk : lookM ms e.mk' with
      | some v =>
        have HLK := Lib.hid hlk
        clear hlk
        go_wp2_with (first | (at_lookup; refine wpL_look _ rfl _ _ 79 3 rfl Try.underlying79 (.int .i64 0) (zeroInt _) _ ms rfl hM1 e.mk' rfl ?_; rw [HLK.out]))
        go_roundw
        case measure => simp [intOf]; omega
        case rel => exact ⟨k + 1, ms, by omega, by go_num, by rw [HT.out]; exact hI.out.skip HLK.out, hM1, hB1⟩
      | none =>
        have HLK := Lib.hid hlk
        clear hlk
        go_wp2_with (first | (at_lookup; refine wpL_look _ rfl _ _ 79 3 rfl Try.underlying79 (.int .i64 0) (zeroInt _) _ ms rfl hM1 e.mk' rfl ?_; rw [HLK.out]))
        refine (mark_any e _).mono ?_
        rintro e' w2 ⟨rfl, hb2⟩
        have hM2 := hM1.below hb2 hM1.lt
        have hB2 := hB1.trans (hb2.mono hB1.size)
        go_wp2_with (first | (at_mapUpdate; refine wpL_put _ rfl _ _ _ 79 3 rfl Try.underlying79 _ ms rfl hM2 e.mk' rfl (.int .i64 k) rfl HLK.out ?_; intro w3 hM3 ht3))
        go_roundw
        case measure => simp [intOf]; omega
        case rel =>
          have hp := hI.out.put HLK.out
          rw [HL.out] at hp
          exact ⟨k + 1, _, by omega, by go_num, by rw [HT.out]; exact hp, hM3, hB2.grown ht3.grown hB2.size (fun x hx => by cases hx; omega)⟩
    · obtain rfl : k = n := by omega
      go_wp2
      go_ret
      refine ⟨_, ms, rfl, Nat.le_refl _, hM, ?_, hB⟩
      have := hI.out
      rwa [List.take_of_length_le (by rw [HN.out]; omega)] at this
end Go.Proofs.Ytlfhjlkhhaoicaa
