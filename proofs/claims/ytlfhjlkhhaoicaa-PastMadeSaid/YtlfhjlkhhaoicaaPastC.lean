/- The walks of past.Ordered and past.Clock. -/
import Derived.Test.YtlfhjlkhhaoicaaPastB
namespace Go.Proofs.Ytlfhjlkhhaoicaa
set_option linter.unusedVariables false
set_option linter.unusedSimpArgs false
open Go.RowKit Go.Maps Go.ChangeMaps
attribute [local go_sem] ck_get ck_get? q_le0 q_le1 q_le2 q_le3 q_le4 q_le5 q_lt1 q_lt2 q_lt3 q_lt4 q_lt5

def ordB (l : List Ev) (i : Nat) (m : Mk) : Bool :=
  match firstI l m with
  | some j => decide (j < i)
  | none => false
theorem ordB_iff {l : List Ev} {i : Nat} {m : Mk} : ordB l i m = true ↔ marked (l.take i) m.r m.n := by
  unfold ordB
  cases h : firstI l m with
  | none =>
    simp only [Bool.false_eq_true, false_iff]
    rintro ⟨x, hx, a, b⟩
    exact firstI_none.1 h x ((List.take_sublist _ _).subset hx) (by unfold Ev.mk'; rw [a, b])
  | some j =>
    obtain ⟨e, he, hm, hn⟩ := firstI_some h
    simp only [decide_eq_true_eq]
    constructor
    · intro hj
      refine ⟨e, List.mem_of_getElem? (i := j) (by rw [List.getElem?_take_of_lt hj]; exact he), ?_, ?_⟩
      · rw [← hm]; rfl
      · rw [← hm]; rfl
    · rintro ⟨x, hx, a, b⟩
      obtain ⟨t, ht⟩ := List.getElem?_of_mem hx
      have hti : t < i := by have := (List.getElem?_eq_some_iff.1 ht).1; rw [List.length_take] at this; omega
      rw [List.getElem?_take_of_lt hti] at ht
      rcases Nat.lt_or_ge t j with hc | hc
      · exact absurd (show x.mk' = m by unfold Ev.mk'; rw [a, b]) (hn t x hc ht)
      · omega
def ordAll (l : List Ev) (k : Nat) : Prop := ∀ i e, i < k → l[i]? = some e → allHas e.c l.length (fun q n => ordB l i ⟨q, n⟩) 5
theorem allHas_iff {c : Ck} {many : Nat} {so : Nat → Int → Bool} : allHas c many so 5 ↔ (∀ i : Nat, i < 5 → c.get i ≤ (many : Int)) ∧ ∀ r n, hasB c r n = true → so r.toNat n = true := by
  constructor
  · intro h
    refine ⟨fun i hi => (h i hi).1, fun r n hb => ?_⟩
    obtain ⟨h0, h1, h2, h3⟩ := hasB_iff.1 hb
    exact (h r.toNat (by omega)).2 n h2 h3
  · rintro ⟨h1, h2⟩ q hq
    exact ⟨h1 q hq, fun k a b => by have := h2 q k (has_mk hq a b); simpa using this⟩
theorem ordAll_iff {l : List Ev} : ordAll l l.length ↔ orderedP l := by
  constructor
  · intro h l1 e l2 hl
    have he : l[l1.length]? = some e := by rw [hl, List.getElem?_append_right (Nat.le_refl _)]; simp
    have hlt : l1.length < l.length := by rw [hl]; simp
    obtain ⟨a, b⟩ := allHas_iff.1 (h l1.length e hlt he)
    refine ⟨a, fun r n hb => ?_⟩
    have := ordB_iff.1 (b r n hb)
    have ht : l.take l1.length = l1 := by rw [hl]; simp
    rw [ht] at this
    obtain ⟨h0, h1, _⟩ := hasB_iff.1 hb
    have hr : ((r.toNat : Nat) : Int) = r := by omega
    simp only [hr] at this
    exact this
  · intro h i e hi he
    have hl : l = l.take i ++ e :: l.drop (i + 1) := by
      obtain ⟨hlt, hge⟩ := List.getElem?_eq_some_iff.1 he
      rw [← hge, ← List.drop_eq_getElem_cons hlt, List.take_append_drop]
    obtain ⟨a, b⟩ := h _ _ _ hl
    refine allHas_iff.2 ⟨a, fun r n hb => ordB_iff.2 ?_⟩
    obtain ⟨h0, h1, _⟩ := hasB_iff.1 hb
    have hr : ((r.toNat : Nat) : Int) = r := by omega
    simp only [hr]
    exact b r n hb

set_option maxRecDepth 100000 in
set_option maxHeartbeats 400000 in
theorem ord1_any (m : Mk) (ba bi B : Nat) (l : List Ev) (ms : List (Mk × Value)) (i : Nat) (w : World) (h1 : blk w ba [.map (some B)] 79) (h2 : blk w bi [.int .i64 i] 3) (hM : mapAt w B ms) (hI : idxOK l ms) :
    Calls Try.prog 53 #[.agg #[.int .i64 m.r, .int .i64 m.n], .pointer (some ⟨ba, 0, none⟩), .pointer (some ⟨bi, 0, none⟩)] w fun e w' => e = .returned (.bool (ordB l i m)) ∧ Below w.heap.size w w' := by
  have lt1 := h1.lt; have lt2 := h2.lt
  have c1 := h1.cell 0; have c2 := h2.cell 0
  simp only [List.getElem?_cons_zero] at c1 c2
  have hM1 := hM.alloc (Obj.cells #[.int .i64 m.r, .int .i64 m.n] 70)
  cases hf : firstI l m with
  | none =>
    have HLK := Lib.hid (show lookM ms m = none by rw [hI.look, hf]; rfl)
    have HO := Lib.hid (show ordB l i m = false by unfold ordB; rw [hf])
    clear hf hI
    go_enter Try.func53, Try.ntmps53
    go_wp2_with (first | (at_lookup; refine wpL_look _ rfl _ _ 79 3 rfl Try.underlying79 (.int .i64 0) (zeroInt _) _ ms rfl hM1 m rfl ?_; rw [HLK.out]))
    go_ret
    exact ⟨ret_bool HO.out.symm, (Below.refl _ _).alloc (Nat.le_refl _) _⟩
  | some j =>
    have HLK := Lib.hid (show lookM ms m = some (.int .i64 (j : Nat)) by rw [hI.look, hf]; rfl)
    have HO := Lib.hid (show ordB l i m = decide (j < i) by unfold ordB; rw [hf])
    clear hf hI
    by_cases hj : j < i
    · have hji : (j : Int) < (i : Int) := by omega
      have hd := Lib.hid (decide_eq_true hj)
      go_enter Try.func53, Try.ntmps53
      go_wp2_with (first | (at_lookup; refine wpL_look _ rfl _ _ 79 3 rfl Try.underlying79 (.int .i64 0) (zeroInt _) _ ms rfl hM1 m rfl ?_; rw [HLK.out]))
      go_ret
      exact ⟨ret_bool (by rw [HO.out, hd.out]; try simp [hj]), (Below.refl _ _).alloc (Nat.le_refl _) _⟩
    · have hji : ¬ (j : Int) < (i : Int) := by omega
      have hd := Lib.hid (decide_eq_false hj)
      go_enter Try.func53, Try.ntmps53
      go_wp2_with (first | (at_lookup; refine wpL_look _ rfl _ _ 79 3 rfl Try.underlying79 (.int .i64 0) (zeroInt _) _ ms rfl hM1 m rfl ?_; rw [HLK.out]))
      go_ret
      exact ⟨ret_bool (by rw [HO.out, hd.out]; try simp [hj]), (Below.refl _ _).alloc (Nat.le_refl _) _⟩

set_option maxRecDepth 100000 in
set_option maxHeartbeats 1000000 in
theorem ordered_any (A : Option Addr) (ca : Nat) (l : List Ev) (w : World) (hl : evs w A l) (hn : l.length ≤ 1000) :
    Calls Try.prog 26 #[.slice A l.length ca] w fun e w' => e = .returned (.bool (pB (orderedP l))) ∧ Below w.heap.size w w' := by
  have hmf : ∀ (fn : Fn) (first cap : Array Value) (w : World), (Instr.makeFunc fn first cap).run Try.prog w = .ok (.func fn first cap) w := fun _ _ _ _ => rfl
  go_enter Try.func26, Try.ntmps26
  go_wp2_with fail
  refine (index_any A ca l w hl hn).mono ?_
  rintro e w1 ⟨B, ms, rfl, hBB, hM, hI, hB1⟩
  have HI := Lib.hid hI
  clear hI
  have hM1 := hM.alloc (Obj.cells #[.map (some B)] 79)
  have hb1 := blk_new w1 [.map (some B)] 79
  have hB2 := hB1.alloc hB1.size (Obj.cells #[.map (some B)] 79)
  generalize hnn : l.length = n at *
  have HN := Lib.hid hnn
  clear hnn hM hB1
  go_wp2
  go_loopw [10] (fun v10 wr => ∃ k : Nat, k ≤ n ∧ v10 = .int .i64 k ∧ Hid (ordAll l k) ∧ mapAt wr B ms ∧ blk wr w1.heap.size [.map (some B)] 79 ∧ Below w.heap.size w wr) (fun v10 _ => n - (intOf v10).toNat)
  case atStart => exact ⟨0, by omega, rfl, fun i e hi => by omega, hM1, hb1, hB2⟩
  case round =>
    clear hM1 hb1 hB2
    obtain ⟨k, hk, rfl, hO, hM, hb1, hB⟩ := hrel
    by_cases hlt : k < n
    · obtain ⟨e, he⟩ : ∃ e, l[k]? = some e := ⟨_, List.getElem?_eq_getElem (by rw [HN.out]; exact hlt)⟩
      obtain ⟨b, off, rfl, hb, hat⟩ := hl.get he
      obtain ⟨c0, c1, c2, c3, c4, c5, c6, c7, c8, c9, c10, c11⟩ := evAt_get (hat.below hB hb) he
      have HE := Lib.hid he
      clear he
      have hszB := hB.size
      have hx1 := (blk_new wr [.int .i64 k] 3).alloc (Obj.cells #[.int .i64 e.r, .int .i64 e.n, .int .i64 e.c.x0, .int .i64 e.c.x1, .int .i64 e.c.x2, .int .i64 e.c.x3, .int .i64 e.c.x4, .int .i64 e.h, .int .i64 e.k, .string e.key, .int .i64 e.lab, .string e.val] 31)
      have hx2 := blk_at (w := wr.alloc (Obj.cells #[.int .i64 k] 3)) (b := wr.heap.size + 1) (by simp) [.int .i64 e.r, .int .i64 e.n, .int .i64 e.c.x0, .int .i64 e.c.x1, .int .i64 e.c.x2, .int .i64 e.c.x3, .int .i64 e.c.x4, .int .i64 e.h, .int .i64 e.k, .string e.key, .int .i64 e.lab, .string e.val] 31
      have hMx := (hM.alloc (Obj.cells #[.int .i64 k] 3)).alloc (Obj.cells #[.int .i64 e.r, .int .i64 e.n, .int .i64 e.c.x0, .int .i64 e.c.x1, .int .i64 e.c.x2, .int .i64 e.c.x3, .int .i64 e.c.x4, .int .i64 e.h, .int .i64 e.k, .string e.key, .int .i64 e.lab, .string e.val] 31)
      have hbx := (hb1.alloc (Obj.cells #[.int .i64 k] 3)).alloc (Obj.cells #[.int .i64 e.r, .int .i64 e.n, .int .i64 e.c.x0, .int .i64 e.c.x1, .int .i64 e.c.x2, .int .i64 e.c.x3, .int .i64 e.c.x4, .int .i64 e.h, .int .i64 e.k, .string e.key, .int .i64 e.lab, .string e.val] 31)
      have hBx := (hB.alloc hB.size (Obj.cells #[.int .i64 k] 3)).alloc (by first | omega | (simp; done) | (simp; omega)) (Obj.cells #[.int .i64 e.r, .int .i64 e.n, .int .i64 e.c.x0, .int .i64 e.c.x1, .int .i64 e.c.x2, .int .i64 e.c.x3, .int .i64 e.c.x4, .int .i64 e.h, .int .i64 e.k, .string e.key, .int .i64 e.lab, .string e.val] 31)
      have ltb := hb1.lt; have ltM := hM.lt
      go_wp2_with fail
      refine (has_ord_any e.c n (by omega) (fun q kk => ordB l k ⟨q, kk⟩) w1.heap.size wr.heap.size _ ?c1).mono ?_
      case c1 =>
        intro i kk w' hi h1 h2 hBw
        exact ord1_any ⟨i, kk⟩ w1.heap.size wr.heap.size B l ms k w' (hbx.below hBw hbx.lt) (hx1.below hBw hx1.lt) (hMx.below hBw hMx.lt) HI.out
      rintro e' w2 ⟨rfl, hb2⟩
      have hM2 := hMx.below hb2 hMx.lt
      have hbb2 := hbx.below hb2 hbx.lt
      have hB2 := hBx.trans (hb2.mono hBx.size)
      clear hx1 hx2 hMx hbx hBx hb2 c0 c1 c2 c3 c4 c5 c6 c7 c8 c9 c10 c11
      by_cases hp : allHas e.c n (fun q kk => ordB l k ⟨q, kk⟩) 5
      · have HP := Lib.hid hp
        rw [pB_true hp]
        clear hp
        go_wp2
        go_roundw
        case measure => simp [intOf]; omega
        case rel => exact ⟨k + 1, by omega, by go_num, fun i x hi hx => if h : i = k then (by subst h; have := HE.out; rw [hx] at this; cases this; rw [HN.out]; exact HP.out) else hO.out i x (by omega) hx, hM2, hbb2, hB2⟩
      · have HF := Lib.hid (pB_false (p := orderedP l) fun h => hp (by have := ordAll_iff.2 h k e (by rw [HN.out]; exact hlt) HE.out; rwa [HN.out] at this))
        rw [pB_false hp]
        clear hp
        go_wp2
        go_ret
        exact ⟨ret_bool HF.out.symm, hB2⟩
    · obtain rfl : k = n := by omega
      have HT := Lib.hid (pB_true (ordAll_iff.1 (by rw [HN.out]; exact hO.out)))
      go_wp2
      go_ret
      exact ⟨ret_bool HT.out.symm, hB⟩

set_option maxRecDepth 100000 in
set_option maxHeartbeats 1000000 in
theorem pclock_any (A : Option Addr) (ca : Nat) (l : List Ev) (w : World) (hl : evs w A l) (hn : l.length ≤ 1000) :
    Calls Try.prog 25 #[.slice A l.length ca] w fun e w' => ∃ c, e = .returned (.agg #[.int .i64 c.x0, .int .i64 c.x1, .int .i64 c.x2, .int .i64 c.x3, .int .i64 c.x4]) ∧ isClock l c ∧ Below w.heap.size w w' := by
  have hB0 := (Below.refl w.heap.size w).alloc (Nat.le_refl _) (Obj.cells (#[.int .i64 Ck.zero.x0, .int .i64 Ck.zero.x1, .int .i64 Ck.zero.x2, .int .i64 Ck.zero.x3, .int .i64 Ck.zero.x4]) 23)
  have hz0 := blk_new w [Value.int .i64 Ck.zero.x0, Value.int .i64 Ck.zero.x1, Value.int .i64 Ck.zero.x2, Value.int .i64 Ck.zero.x3, Value.int .i64 Ck.zero.x4] 23
  go_enter Try.func25, Try.ntmps25
  go_wp2_with fail
  refine (index_any A ca l _ (hl.below hB0 (Nat.le_refl _)) hn).mono ?_
  rintro e w1 ⟨B, ms, rfl, hBB, hM, hI, hB1⟩
  have HI := Lib.hid hI
  clear hI
  have hM1 := hM.alloc (Obj.cells (#[.int .i64 Ck.zero.x0, .int .i64 Ck.zero.x1, .int .i64 Ck.zero.x2, .int .i64 Ck.zero.x3, .int .i64 Ck.zero.x4]) 23)
  have hb1 := blk_new w1 [Value.int .i64 Ck.zero.x0, Value.int .i64 Ck.zero.x1, Value.int .i64 Ck.zero.x2, Value.int .i64 Ck.zero.x3, Value.int .i64 Ck.zero.x4] 23
  have hz1 := (hz0.below hB1 hz0.lt).alloc (Obj.cells (#[.int .i64 Ck.zero.x0, .int .i64 Ck.zero.x1, .int .i64 Ck.zero.x2, .int .i64 Ck.zero.x3, .int .i64 Ck.zero.x4]) 23)
  have hB2 := (hB0.trans (hB1.mono hB0.size)).alloc (by have := hB0.size; have := hB1.size; omega) (Obj.cells (#[.int .i64 Ck.zero.x0, .int .i64 Ck.zero.x1, .int .i64 Ck.zero.x2, .int .i64 Ck.zero.x3, .int .i64 Ck.zero.x4]) 23)
  have hltz := hz0.lt
  have hszz : (w.heap.size : Nat) < w1.heap.size := Nat.lt_of_lt_of_le hltz hB1.size
  have HNE := Lib.hid (show B < w1.heap.size from hM.lt)
  have hBge : w.heap.size + 1 ≤ B := by simpa using hBB
  clear hM hB1 hz0 hB0 hltz hBB
  go_wp2
  go_loopw [10, 5] (fun v10 v5 wr => ∃ (i : Nat) (x : Ck), i ≤ 5 ∧ v10 = .int .i64 i ∧ Hid ((∀ q, q < i → 0 ≤ x.get q ∧ (∀ k : Int, 1 ≤ k → k ≤ x.get q → marked l q k) ∧ ¬ marked l q (x.get q + 1)) ∧ ∀ q, i ≤ q → q < 5 → x.get q = 0) ∧ mapAt wr B ms ∧ blk wr w1.heap.size [Value.int .i64 x.x0, Value.int .i64 x.x1, Value.int .i64 x.x2, Value.int .i64 x.x3, Value.int .i64 x.x4] 23 ∧ blk wr w.heap.size [Value.int .i64 Ck.zero.x0, Value.int .i64 Ck.zero.x1, Value.int .i64 Ck.zero.x2, Value.int .i64 Ck.zero.x3, Value.int .i64 Ck.zero.x4] 23 ∧ Below w.heap.size w wr) (fun v10 _ _ => 5 - (intOf v10).toNat)
  case atStart => exact ⟨0, Ck.zero, by omega, rfl, ⟨fun q hq => by omega, fun q _ hq => by rcases lt5 hq with h | h | h | h | h <;> rw [h] <;> rfl⟩, hM1, hb1, hz1, hB2⟩
  case round =>
    clear hM1 hb1 hz1 hB2
    obtain ⟨i, x, hi, rfl, hX, hM, hb, hz, hB⟩ := hrel
    by_cases hlt : i < 5
    · have hdi : decide ((i : Int) < 5) = true := decide_eq_true (by omega)
      go_wp2
      obtain ⟨W0, rfl⟩ : ∃ W0 : World, W0 = wr := ⟨_, rfl⟩
      go_loopg [6, 7] (l.length + 1) (fun f v6 v7 wr => ∃ (j : Nat) (y : Ck), Hid (y.get i = j ∧ (∀ q, q ≠ i → y.get q = x.get q) ∧ ∀ k : Int, 1 ≤ k → k ≤ j → marked l i k) ∧ l.length - j + 1 ≤ f ∧ j ≤ l.length ∧ mapAt wr B ms ∧ blk wr w1.heap.size [Value.int .i64 y.x0, Value.int .i64 y.x1, Value.int .i64 y.x2, Value.int .i64 y.x3, Value.int .i64 y.x4] 23 ∧ blk wr w.heap.size [Value.int .i64 Ck.zero.x0, Value.int .i64 Ck.zero.x1, Value.int .i64 Ck.zero.x2, Value.int .i64 Ck.zero.x3, Value.int .i64 Ck.zero.x4] 23 ∧ Below w.heap.size w wr)
      case atStart => exact ⟨0, x, ⟨hX.out.2 i (Nat.le_refl _) hlt, fun _ _ => rfl, fun k h1 h2 => by omega⟩, by omega, by omega, hM, hb, hz, hB⟩
      case round =>
        clear hM hb hz hB
        obtain ⟨j, y, hY, hf, hjl, hM, hb, hz, hB⟩ := hrel
        obtain ⟨f, rfl⟩ : ∃ f, gk = f + 1 := ⟨gk - 1, by omega⟩
        have hyj := hY.out.1
        have kc := (hb.cell i).trans (ck_get? y hlt)
        rw [hyj] at kc
        have kf := hb.free
        have ltb := hb.lt; have ltM := hM.lt
        have hMd := hM.alloc (Obj.cells #[.int .i64 i, .int .i64 (j + 1)] 70)
        clear hyj
        cases hlk : firstI l ⟨i, j + 1⟩ with
        | none =>
          have HLK := Lib.hid (show lookM ms ⟨i, j + 1⟩ = none by rw [HI.out.look, hlk]; rfl)
          have HNO := Lib.hid (show ¬ marked l i ((j : Int) + 1) from fun ⟨z, hz, a, b⟩ => firstI_none.1 hlk z hz (by unfold Ev.mk'; rw [a, b]))
          clear hlk
          go_wp2_with (first | (at_lookup; refine wpL_look _ rfl _ _ 79 3 rfl Try.underlying79 (.int .i64 0) (zeroInt _) _ ms rfl (by first | exact hM | exact hMd | exact hM.drew) ⟨i, j + 1⟩ rfl ?_; rw [HLK.out]))
          go_roundw
          case measure => simp [intOf]; omega
          case rel =>
            refine ⟨i + 1, y, by omega, by go_num, ⟨fun q hq => ?_, fun q h1 h2 => ?_⟩, hM, hb, hz, hB⟩
            · by_cases e : q = i
              · subst e
                have hyj := hY.out.1
                rw [hyj]
                exact ⟨by omega, hY.out.2.2, HNO.out⟩
              · rw [hY.out.2.1 q e]; exact hX.out.1 q (by omega)
            · rw [hY.out.2.1 q (by omega)]; exact hX.out.2 q (by omega) h2
        | some t =>
          have HLK := Lib.hid (show lookM ms ⟨i, j + 1⟩ = some (.int .i64 (t : Nat)) by rw [HI.out.look, hlk]; rfl)
          have HYES := Lib.hid (show marked l i ((j : Int) + 1) from by obtain ⟨e, he, hm, _⟩ := firstI_some hlk; exact ⟨e, List.mem_of_getElem? he, by rw [show e.r = e.mk'.r from rfl, hm], by rw [show e.n = e.mk'.n from rfl, hm]⟩)
          clear hlk
          have HALL := Lib.hid (show ∀ k : Int, 1 ≤ k → k ≤ ((j + 1 : Nat) : Int) → marked l i k from fun k h1 h2 => if h : k = (j : Int) + 1 then (by rw [h]; exact HYES.out) else hY.out.2.2 k h1 (by omega))
          have hfew : j + 1 ≤ l.length := few_of HALL.out
          go_wp2_with (first | (at_lookup; refine wpL_look _ rfl _ _ 79 3 rfl Try.underlying79 (.int .i64 0) (zeroInt _) _ ms rfl (by first | exact hM | exact hMd | exact hM.drew) ⟨i, j + 1⟩ rfl ?_; rw [HLK.out]))
          go_roundg f
          case measure => omega
          case rel =>
            have hne := HNE.out
            exact ⟨j + 1, y.set i ((j : Int) + 1), ⟨by rw [Ck.get_set_same _ hlt]; omega, fun q hq => by rw [Ck.get_set_ne _ (Ne.symm hq)]; exact hY.out.2.1 q hq, HALL.out⟩, by omega, hfew, hM.set_ne (by first | omega | (simp; done) | (simp; omega)) _, hb.setCk hlt _, hz.set_ne (by first | omega | (simp; done) | (simp; omega)) _, hB.setCell (by first | omega | (simp; done) | (simp; omega)) _⟩
    · obtain rfl : i = 5 := by omega
      have kb := hb.cell
      have kz := hz.cell
      have kzf := hz.free
      have HC := Lib.hid (show isClock l x from fun q hq => hX.out.1 q hq)
      go_wp2
      refine bodyPost_ret (v := .agg #[.int .i64 x.x0, .int .i64 x.x1, .int .i64 x.x2, .int .i64 x.x3, .int .i64 x.x4]) (by simp [results, Try.results25, go_sem, kz]) rfl ⟨x, rfl, HC.out, ?_⟩
      exact ((((hB.setCell (by first | omega | (simp; done) | (simp; omega)) _).setCell (by first | omega | (simp; done) | (simp; omega)) _).setCell (by first | omega | (simp; done) | (simp; omega)) _).setCell (by first | omega | (simp; done) | (simp; omega)) _).setCell (by first | omega | (simp; done) | (simp; omega)) _
end Go.Proofs.Ytlfhjlkhhaoicaa
