/- How two events are compared; a row of events that is sorted in place. -/
import Derived.Test.YtlfhjlkhhaoicaaDrain2
import Derived.Test.YtlfhjlkhhaoicaaSortP
import Derived.Deep.MidRow
namespace Go.Proofs.Ytlfhjlkhhaoicaa
set_option linter.unusedVariables false
set_option linter.unusedSimpArgs false
open Go.RowKit
attribute [local go_sem] q_le0 q_le1 q_le2 q_le3 q_le4 q_le5 q_lt1 q_lt2 q_lt3 q_lt4 q_lt5

def cmpI (a b : Int) : Int := if a < b then -1 else if b < a then 1 else 0
theorem cmpI_lt {a b : Int} (h : a < b) : cmpI a b = -1 := if_pos h
theorem cmpI_gt {a b : Int} (h : b < a) : cmpI a b = 1 := by unfold cmpI; rw [if_neg (by omega), if_pos h]
theorem cmpI_eq {a b : Int} (h : a = b) : cmpI a b = 0 := by unfold cmpI; rw [if_neg (by omega), if_neg (by omega)]
def orI (a b : Int) : Int := if a = 0 then b else a
def cmpE (x y : Ev) : Int := orI (cmpI x.h y.h) (cmpI x.r y.r)
theorem cmpE_lt {x y : Ev} : cmpE x y < 0 ↔ ltE x y := by
  unfold cmpE ltE orI cmpI
  split <;> (split at * <;> (try split) <;> (try split) <;> omega)
set_option maxRecDepth 100000 in
set_option maxHeartbeats 400000 in
theorem isNaN_any (a : Int) (w : World) : Calls Try.prog 68 #[.int .i64 a] w fun e w' => e = .returned (.bool false) ∧ w = w' := by
  go_enter Try.func68, Try.ntmps68
  go_wp2
  go_ret
  exact ⟨rfl, rfl⟩
set_option maxRecDepth 100000 in
set_option maxHeartbeats 400000 in
theorem compare_any (a b : Int) (w : World) : Calls Try.prog 60 #[.int .i64 a, .int .i64 b] w fun e w' => e = .returned (.int .i64 (cmpI a b)) ∧ w = w' := by
  rcases Int.lt_trichotomy a b with h | h | h
  · have h1 := cmpI_lt h
    go_enter Try.func60, Try.ntmps60
    go_wp2_with (first | (go_at_call 68; refine (isNaN_any _ _).mono ?_; rintro e w' ⟨rfl, rfl⟩))
    go_ret
    exact ⟨ret_int h1.symm, rfl⟩
  · have h1 := cmpI_eq h
    subst h
    go_enter Try.func60, Try.ntmps60
    go_wp2_with (first | (go_at_call 68; refine (isNaN_any _ _).mono ?_; rintro e w' ⟨rfl, rfl⟩))
    go_ret
    exact ⟨ret_int h1.symm, rfl⟩
  · have h1 := cmpI_gt h
    have h2 : ¬ a < b := by omega
    go_enter Try.func60, Try.ntmps60
    go_wp2_with (first | (go_at_call 68; refine (isNaN_any _ _).mono ?_; rintro e w' ⟨rfl, rfl⟩))
    go_ret
    exact ⟨ret_int h1.symm, rfl⟩
set_option maxRecDepth 100000 in
set_option maxHeartbeats 800000 in
theorem or_any (a b : Int) (g : Nat) (w : World) (t : TypeId) (h : blk w g [.int .i64 a, .int .i64 b] t) : Calls Try.prog 59 #[.slice (some ⟨g, 0, none⟩) 2 2] w fun e w' => e = .returned (.int .i64 (orI a b)) ∧ w = w' := by
  have h0 := cell_at h 0 rfl
  have h1 := cell_at h 1 rfl
  have hl := h.lt
  by_cases ha : a = 0
  · have hr : orI a b = b := if_pos ha
    have ha2 : (a == 0) = true := by simpa using ha
    subst ha
    go_enter Try.func59, Try.ntmps59
    go_wp2
    go_loop [8] (fun v8 => ∃ k : Nat, k ≤ 2 ∧ v8 = .int .i64 k ∧ (k = 2 → b = 0)) (fun v8 => 2 - (intOf v8).toNat)
    case atStart => exact ⟨0, by omega, rfl, fun h => by omega⟩
    case round =>
      obtain ⟨k, hk, rfl, hkb⟩ := hrel
      rcases (show k = 0 ∨ k = 1 ∨ k = 2 by omega) with rfl | rfl | rfl
      · go_wp2
        go_round
        case rel => exact ⟨1, by omega, rfl, fun h => by omega⟩
        case measure => simp [intOf]
      · by_cases hb : b = 0
        · subst hb
          go_wp2
          go_round
          case rel => exact ⟨2, by omega, rfl, by simp⟩
          case measure => simp [intOf]
        · have hb2 : (b == 0) = false := by simpa using hb
          go_wp2
          go_ret
          exact ⟨ret_int (by first | rfl | exact hr.symm), rfl⟩
      · have hb := hkb rfl
        clear hkb
        subst hb
        go_wp2
        go_ret
        exact ⟨ret_int (by first | rfl | exact hr.symm), rfl⟩
  · have hr : orI a b = a := if_neg ha
    have ha2 : (a == 0) = false := by simpa using ha
    go_enter Try.func59, Try.ntmps59
    go_wp2
    go_loop [8] (fun v8 => v8 = .int .i64 0) (fun v8 => 0)
    case atStart => rfl
    case round =>
      obtain rfl := hrel
      go_wp2
      go_ret
      exact ⟨ret_int (by first | rfl | exact hr.symm), rfl⟩
/-- What past.Sort compares by. -/
def SortFn : Value := .func (.func 63) #[] #[]
theorem keep2 {w w' : World} {g1 g2 : Nat} {l1 l2 : List Value} {t1 t2 : TypeId} (h1 : blk w g1 l1 t1) (h2 : blk w g2 l2 t2) (h : Below w.heap.size w w') : (∀ o, w'.cell? ⟨g1, o, none⟩ = l1[o]?) ∧ (∀ o, w'.cell? ⟨g2, o, none⟩ = l2[o]?) ∧ Below w.heap.size w w' := ⟨(h1.below h h1.lt).cell, (h2.below h h2.lt).cell, h⟩
set_option maxRecDepth 100000 in
set_option maxHeartbeats 2000000 in
theorem cmp_any (x y : Ev) (w : World) : Calls Try.prog 63 #[.agg #[.int .i64 x.r, .int .i64 x.n, .int .i64 x.c.x0, .int .i64 x.c.x1, .int .i64 x.c.x2, .int .i64 x.c.x3, .int .i64 x.c.x4, .int .i64 x.h, .int .i64 x.k, .string x.key, .int .i64 x.lab, .string x.val], .agg #[.int .i64 y.r, .int .i64 y.n, .int .i64 y.c.x0, .int .i64 y.c.x1, .int .i64 y.c.x2, .int .i64 y.c.x3, .int .i64 y.c.x4, .int .i64 y.h, .int .i64 y.k, .string y.key, .int .i64 y.lab, .string y.val]] w fun e w' => e = .returned (.int .i64 (cmpE x y)) ∧ Below w.heap.size w w' := by
  have hB0 := ((Below.refl w.heap.size w).alloc (Nat.le_refl _) (Obj.cells #[.int .i64 x.r, .int .i64 x.n, .int .i64 x.c.x0, .int .i64 x.c.x1, .int .i64 x.c.x2, .int .i64 x.c.x3, .int .i64 x.c.x4, .int .i64 x.h, .int .i64 x.k, .string x.key, .int .i64 x.lab, .string x.val] 31)).alloc (by simp) (Obj.cells #[.int .i64 y.r, .int .i64 y.n, .int .i64 y.c.x0, .int .i64 y.c.x1, .int .i64 y.c.x2, .int .i64 y.c.x3, .int .i64 y.c.x4, .int .i64 y.h, .int .i64 y.k, .string y.key, .int .i64 y.lab, .string y.val] 31)
  have hx0 := (blk_new w [.int .i64 x.r, .int .i64 x.n, .int .i64 x.c.x0, .int .i64 x.c.x1, .int .i64 x.c.x2, .int .i64 x.c.x3, .int .i64 x.c.x4, .int .i64 x.h, .int .i64 x.k, .string x.key, .int .i64 x.lab, .string x.val] 31).alloc (Obj.cells #[.int .i64 y.r, .int .i64 y.n, .int .i64 y.c.x0, .int .i64 y.c.x1, .int .i64 y.c.x2, .int .i64 y.c.x3, .int .i64 y.c.x4, .int .i64 y.h, .int .i64 y.k, .string y.key, .int .i64 y.lab, .string y.val] 31)
  have hy0 := blk_at (w := w.alloc (Obj.cells #[.int .i64 x.r, .int .i64 x.n, .int .i64 x.c.x0, .int .i64 x.c.x1, .int .i64 x.c.x2, .int .i64 x.c.x3, .int .i64 x.c.x4, .int .i64 x.h, .int .i64 x.k, .string x.key, .int .i64 x.lab, .string x.val] 31)) (b := w.heap.size + 1) (by simp) [.int .i64 y.r, .int .i64 y.n, .int .i64 y.c.x0, .int .i64 y.c.x1, .int .i64 y.c.x2, .int .i64 y.c.x3, .int .i64 y.c.x4, .int .i64 y.h, .int .i64 y.k, .string y.key, .int .i64 y.lab, .string y.val] 31
  go_enter Try.func63, Try.ntmps63
  go_upto_region 1 with fail
  generalize (w.alloc (Obj.cells #[.int .i64 x.r, .int .i64 x.n, .int .i64 x.c.x0, .int .i64 x.c.x1, .int .i64 x.c.x2, .int .i64 x.c.x3, .int .i64 x.c.x4, .int .i64 x.h, .int .i64 x.k, .string x.key, .int .i64 x.lab, .string x.val] 31)).alloc (Obj.cells #[.int .i64 y.r, .int .i64 y.n, .int .i64 y.c.x0, .int .i64 y.c.x1, .int .i64 y.c.x2, .int .i64 y.c.x3, .int .i64 y.c.x4, .int .i64 y.h, .int .i64 y.k, .string y.key, .int .i64 y.lab, .string y.val] 31) = W at *
  have hlx := hx0.lt
  have hly := hy0.lt
  have hkz := keep2 hx0 hy0 ((Below.refl W.heap.size W).drew.alloc (Nat.le_refl _) (Obj.cells #[.int .i64 (cmpI x.h y.h), .int .i64 (cmpI x.r y.r)] 3))
  first | (go_region_held3 (fun w' => (∀ o, w'.cell? ⟨w.heap.size, o, none⟩ = ([.int .i64 x.r, .int .i64 x.n, .int .i64 x.c.x0, .int .i64 x.c.x1, .int .i64 x.c.x2, .int .i64 x.c.x3, .int .i64 x.c.x4, .int .i64 x.h, .int .i64 x.k, .string x.key, .int .i64 x.lab, .string x.val] : List Value)[o]?) ∧ (∀ o, w'.cell? ⟨w.heap.size + 1, o, none⟩ = ([.int .i64 y.r, .int .i64 y.n, .int .i64 y.c.x0, .int .i64 y.c.x1, .int .i64 y.c.x2, .int .i64 y.c.x3, .int .i64 y.c.x4, .int .i64 y.h, .int .i64 y.k, .string y.key, .int .i64 y.lab, .string y.val] : List Value)[o]?) ∧ Below W.heap.size W w')
    (first | with_reducible assumption | with_reducible exact keep2 hx0 hy0 (Below.refl _ _).drew | exact hkz)
    (first
      | (go_at_call 60; refine (compare_any _ _ _).mono ?_; rintro e5 w5 ⟨rfl, rfl⟩)
      | (go_at_call 59; refine (or_any (cmpI x.h y.h) (cmpI x.r y.r) W.heap.size _ 3 (blk_new W.drew [.int .i64 (cmpI x.h y.h), .int .i64 (cmpI x.r y.r)] 3)).mono ?_; rintro e6 w6 ⟨rfl, rfl⟩))) | fail
  all_goals go_wp2
  all_goals go_ret
  all_goals exact ⟨rfl, hB0.trans (hkz.2.2.mono hB0.size)⟩
end Go.Proofs.Ytlfhjlkhhaoicaa

namespace Go.Proofs.Ytlfhjlkhhaoicaa
set_option linter.unusedVariables false
set_option linter.unusedSimpArgs false
open Go.RowKit

/-- The row lies at block b, and may be written. -/
structure SR (w : World) (b : Nat) (d : List Ev) : Prop where
  at0 : evK.at w b 0 d
  free : ∀ o, w.frozen? ⟨b, o, none⟩ = false
  lt : b < w.heap.size
section
variable {w w' : World} {b : Nat} {d : List Ev}
theorem SR.below (h : SR w b d) (hb : Below w.heap.size w w') : SR w' b d :=
  ⟨h.at0.below hb h.lt, fun o => by rw [hb.frozen (p := ⟨b, o, none⟩) h.lt]; exact h.free o, Nat.lt_of_lt_of_le h.lt hb.size⟩
theorem SR.drew (h : SR w b d) : SR w.drew b d := ⟨h.at0, h.free, h.lt⟩
theorem SR.get (h : SR w b d) {k : Nat} {e : Ev} (he : d[k]? = some e) : (w.cell? ⟨b, k * 12, none⟩ = some (.int .i64 e.r) ∧ w.cell? ⟨b, k * 12 + 1, none⟩ = some (.int .i64 e.n) ∧ w.cell? ⟨b, k * 12 + 2, none⟩ = some (.int .i64 e.c.x0) ∧ w.cell? ⟨b, k * 12 + 3, none⟩ = some (.int .i64 e.c.x1) ∧ w.cell? ⟨b, k * 12 + 4, none⟩ = some (.int .i64 e.c.x2) ∧ w.cell? ⟨b, k * 12 + 5, none⟩ = some (.int .i64 e.c.x3) ∧ w.cell? ⟨b, k * 12 + 6, none⟩ = some (.int .i64 e.c.x4) ∧ w.cell? ⟨b, k * 12 + 7, none⟩ = some (.int .i64 e.h) ∧ w.cell? ⟨b, k * 12 + 8, none⟩ = some (.int .i64 e.k) ∧ w.cell? ⟨b, k * 12 + 9, none⟩ = some (.string e.key) ∧ w.cell? ⟨b, k * 12 + 10, none⟩ = some (.int .i64 e.lab) ∧ w.cell? ⟨b, k * 12 + 11, none⟩ = some (.string e.val)) := by
  have := evAt_get h.at0 he
  simpa only [Nat.zero_add] using this
theorem SR.row (h : SR w b d) : evK.row w (some ⟨b, 0, none⟩) d := .inr ⟨b, 0, rfl, h.lt, h.at0⟩
theorem setCells_gb (b : Nat) : ∀ (vs : List Value) (o : Nat) (w : World), w.grownBy (w.setCells b o vs) (some b)
  | [], o, w => World.grownBy.refl w _
  | v :: r, o, w => gb_trans (gb_set (World.grownBy.refl w (some b)) o v) (setCells_gb b r (o + 1) _) (fun k hk => .inl (by cases hk; rfl))
theorem setCells_cell_in (b : Nat) : ∀ (vs : List Value) (o : Nat) (w : World) (j : Nat) (u : Value), vs[j]? = some u → (∀ i, i < vs.length → (w.cell? ⟨b, o + i, none⟩).isSome = true) → (w.setCells b o vs).cell? ⟨b, o + j, none⟩ = some u := fun vs o w j u hu hs => by
  revert o w j
  induction vs with
  | nil => intro o w j hu; simp at hu
  | cons v r ih =>
    intro o w j hu hs
    rw [World.setCells]
    cases j with
    | zero =>
      have hv : v = u := by simpa using hu
      subst hv
      have h0 := hs 0 (by simp)
      rw [Nat.add_zero] at h0
      have : ∀ (r : List Value) (o' : Nat) (w : World), o < o' → (w.setCells b o' r).cell? ⟨b, o, none⟩ = w.cell? ⟨b, o, none⟩ := by
        intro r
        induction r with
        | nil => intro o' w _; rfl
        | cons x r ih2 => intro o' w ho; rw [World.setCells, ih2 (o' + 1) _ (by omega), World.cell?_setCell_other _ _ _ _ (by first | omega | (simp; done) | (simp; omega))]
      exact (this r (o + 1) _ (by omega)).trans (World.cell?_setCell_same' _ _ _ h0)
    | succ j =>
      have hr : r[j]? = some u := by simpa using hu
      have := ih (o + 1) (w.setCell ⟨b, o, none⟩ v) j hr (fun i hi => by
        have h1 := hs (i + 1) (by simp; omega)
        rw [World.cell?_setCell_other _ _ _ _ (by first | omega | (simp; done) | (simp; omega)), show o + 1 + i = o + (i + 1) from by omega]
        exact h1)
      rw [show o + (j + 1) = o + 1 + j from by omega]
      exact this
theorem setCells_cell_out (b : Nat) : ∀ (vs : List Value) (o : Nat) (w : World) (p : Nat), (p < o ∨ o + vs.length ≤ p) → (w.setCells b o vs).cell? ⟨b, p, none⟩ = w.cell? ⟨b, p, none⟩
  | [], o, w, p, _ => rfl
  | v :: r, o, w, p, h => by
    rw [World.setCells, setCells_cell_out b r (o + 1) _ p (by simp at h; omega), World.cell?_setCell_other _ _ _ _ (by simp at h; first | (simp; done) | (simp; omega))]
theorem setCells_frozen (b : Nat) : ∀ (vs : List Value) (o : Nat) (w : World) (p : Addr), (w.setCells b o vs).frozen? p = w.frozen? p
  | [], _, _, _ => rfl
  | v :: r, o, w, p => by rw [World.setCells, setCells_frozen b r (o + 1), World.frozen?_setCell]
theorem SR.put (h : SR w b d) {k : Nat} (hk : k < d.length) (y : Ev) : SR (w.setCells b (k * 12) (evK.enc y)) b (d.set k y) := by
  refine ⟨fun k' x' hx' j' u' hu' => ?_, fun o => by rw [setCells_frozen]; exact h.free o, Nat.lt_of_lt_of_le h.lt (setCells_gb b _ _ w).size⟩
  have hj' : j' < 12 := by have := (List.getElem?_eq_some_iff.1 hu').1; rwa [evK.len] at this
  rw [Nat.zero_add]
  show (w.setCells b (k * 12) (evK.enc y)).cell? ⟨b, k' * 12 + j', none⟩ = some u'
  by_cases hkk : k' = k
  · subst hkk
    rw [List.getElem?_set_self hk] at hx'
    obtain rfl := Option.some.inj hx'
    refine setCells_cell_in b _ _ _ _ _ hu' fun i hi => ?_
    rw [evK.len] at hi
    have := h.at0 k' _ (List.getElem?_eq_getElem hk) i _ (List.getElem?_eq_getElem (by rw [evK.len]; exact hi))
    rw [Nat.zero_add] at this
    show (w.cell? ⟨b, k' * evK.sz + i, none⟩).isSome = true
    rw [this]; rfl
  · rw [List.getElem?_set_ne (Ne.symm hkk)] at hx'
    rw [setCells_cell_out b _ _ _ _ (by rw [evK.len]; show _ ∨ k * 12 + 12 ≤ _; omega)]
    have := h.at0 k' x' hx' j' u' hu'
    rwa [Nat.zero_add] at this
end
theorem infoEvSz : (Try.prog.info? 31).map (·.size) = some 12 := by kernel_rfl
/-- A store of an event into such a row: a step of a region that draws. -/
theorem step_storeEv {w : World} {o : Oper} {a : Act} {Q : Exit → Act → World → Prop} {K' : Act → World → Prop} {E : Prop} {dops : Array Oper} {b k : Nat} {d : List Ev} (hgd : o.guard = none) (x y : Operand) (ho : o.op = .store 31 x y) (h : SR w b d) (hk : k < d.length) (e : Ev)
    (hx : a.eval x = .pointer (some ⟨b, k * 12, none⟩)) (hy : a.eval y = .agg #[.int .i64 e.r, .int .i64 e.n, .int .i64 e.c.x0, .int .i64 e.c.x1, .int .i64 e.c.x2, .int .i64 e.c.x3, .int .i64 e.c.x4, .int .i64 e.h, .int .i64 e.k, .string e.key, .int .i64 e.lab, .string e.val]) (hn : K' (a.put o.dst undef) (w.setCells b (k * 12) (evK.enc e))) : if Region.wanted o (yielded dops a.tmps) = true then Oper.wp Try.prog o a w K' Q else E := by
  have hw : Region.wanted o (yielded dops a.tmps) = true := by simp [Region.wanted, hgd]
  rw [if_pos hw]
  refine wp_store_mid 31 x y ho b (k * 12) (evK.enc e).toArray hx hy (fun j hj => ?_) (by rw [infoEvSz]; simp [evK]) (all_oneCell_toArray (evK.one e)) hn
  have hj' : j < 12 := by simpa [evK] using hj
  have := h.at0 k _ (List.getElem?_eq_getElem hk) j _ (List.getElem?_eq_getElem (by rw [evK.len]; exact hj'))
  rw [Nat.zero_add] at this
  exact ⟨by show (w.cell? ⟨b, k * evK.sz + j, none⟩).isSome = true; rw [this]; rfl, h.free _⟩
theorem gb_step {w0 w w' : World} {b : Nat} (h : w0.grownBy w (some b)) (h' : w.grownBy w' (some b)) : w0.grownBy w' (some b) := gb_trans h h' (fun k hk => .inl (by cases hk; rfl))
/-- Two elements, swapped. -/
theorem SR.swap {w : World} {b : Nat} {d d' : List Ev} (h : SR w b d) {u v : Nat} (hu : u < d.length) (hv : v < d.length) {x y : Ev} (hd : (d.set u y).set v x = d') : SR ((w.setCells b (u * 12) (evK.enc y)).setCells b (v * 12) (evK.enc x)) b d' := by
  rw [← hd]
  exact (h.put hu y).put (by rw [List.length_set]; exact hv) x
theorem gb_swap {w0 w : World} {b u v : Nat} {x y : Ev} (h : w0.grownBy w (some b)) : w0.grownBy ((w.setCells b (u * 12) (evK.enc y)).setCells b (v * 12) (evK.enc x)) (some b) :=
  gb_trans (gb_trans h (setCells_gb b _ _ _) (fun k hk => .inl (by cases hk; rfl))) (setCells_gb b _ _ _) (fun k hk => .inl (by cases hk; rfl))
end Go.Proofs.Ytlfhjlkhhaoicaa
