/- Plain facts and words for kithlaw08.PastSpoilt: an element of a row is changed. -/
import Derived.Test.YtlfhjlkhhaoicaaPastR
import Derived.Test.YtlfhjlkhhaoicaaL08
import Derived.Test.YtlfhjlkhhaoicaaInboxLoses
namespace Go.Proofs.Ytlfhjlkhhaoicaa
set_option linter.unusedVariables false
set_option linter.unusedSimpArgs false
open Go.RowKit
theorem Kn.at.put {α : Type} {K : Kn α} {w : World} {b off : Nat} {l : List α} (h : K.at w b off l) {k j : Nat} {x y : α} {u : Value} (hx : l[k]? = some x) (hj : j < K.sz) (hy : K.enc y = (K.enc x).set j u) : K.at (w.setCell ⟨b, off + k * K.sz + j, none⟩ u) b off (l.set k y) := by
  intro k' x' hx' j' u' hu'
  have hj' : j' < K.sz := by have := (List.getElem?_eq_some_iff.1 hu').1; rwa [K.len] at this
  have hjx : j < (K.enc x).length := by rw [K.len]; exact hj
  by_cases hk : k' = k
  · subst hk
    rw [List.getElem?_set_self (List.getElem?_eq_some_iff.1 hx).1] at hx'
    obtain rfl := Option.some.inj hx'
    rw [hy] at hu'
    by_cases he : j' = j
    · subst he
      rw [List.getElem?_set_self hjx] at hu'
      obtain rfl := Option.some.inj hu'
      have h0 := h k' x hx j' _ (List.getElem?_eq_getElem hjx)
      exact World.cell?_setCell_same _ _ _ (by rw [h0]; first | done | rfl)
    · rw [List.getElem?_set_ne (Ne.symm he)] at hu'
      rw [World.cell?_setCell_other _ _ _ _ (by first | omega | (simp; done) | (simp; omega))]
      exact h k' x hx j' u' hu'
  · rw [List.getElem?_set_ne (Ne.symm hk)] at hx'
    rw [World.cell?_setCell_other _ _ _ _ (by
      simp only [ne_eq, Addr.mk.injEq, true_and, and_true]
      intro hc
      rcases Nat.lt_or_ge k' k with h1 | h1
      · have := Nat.mul_le_mul_right K.sz h1
        rw [Nat.succ_mul] at this
        omega
      · have := Nat.mul_le_mul_right K.sz (show k + 1 ≤ k' by omega)
        rw [Nat.succ_mul] at this
        omega)]
    exact h k' x' hx' j' u' hu'
theorem Kn.own.free {α : Type} {K : Kn α} {e : TypeId} {w : World} {base n cap g : Nat} {l : List α} (h : K.own e w base (.slice (some ⟨g, 0, none⟩) n cap) l) (o : Nat) : w.frozen? ⟨g, o, none⟩ = false := by
  rcases h.2 with ⟨h1, _⟩ | ⟨g', c, cur, h1, _, hh, _⟩
  · cases h1
  · cases h1
    simp [World.frozen?, hh]
theorem Kn.own.addr {α : Type} {K : Kn α} {e : TypeId} {w : World} {base n cap : Nat} {A : Option Addr} {l : List α} (h : K.own e w base (.slice A n cap) l) {k : Nat} {x : α} (hx : l[k]? = some x) : ∃ g, A = some ⟨g, 0, none⟩ ∧ base ≤ g ∧ g < w.heap.size ∧ K.at w g 0 l := by
  obtain ⟨b, off, rfl, hb, hat⟩ := h.row.get hx
  rcases h.2 with ⟨h1, _⟩ | ⟨g', c, cur, h1, h2, hh, _⟩
  · cases h1
  · cases h1
    exact ⟨b, rfl, h2, hb, hat⟩
theorem Kn.at.drop {α : Type} {K : Kn α} {w : World} {b off : Nat} {l : List α} (h : K.at w b off l) (n : Nat) : K.at w b (off + n * K.sz) (l.drop n) := fun k x hx j u hu => by
  rw [List.getElem?_drop] at hx
  have := h (n + k) x hx j u hu
  rw [Nat.add_mul] at this
  rw [show off + n * K.sz + k * K.sz + j = off + (n * K.sz + k * K.sz) + j from by omega]
  exact this
def AnyW1 (w : World) : Prop := 0 ≤ w.heap.size
theorem anyW1 (w : World) : AnyW1 w := Nat.zero_le _
theorem row_drop_if {w : World} {b off c k : Nat} {p : List Ev} (hat : evK.at w b off p) (hb : b < w.heap.size) (hl : p.length ≤ c) : evK.row w (if c = k then some ⟨b, off, none⟩ else some ⟨b, off + k * 12, none⟩) (p.drop k) := by
  by_cases h : c = k
  · exact .inl (List.drop_eq_nil_of_le (by omega))
  · rw [if_neg h]
    exact .inr ⟨b, off + k * 12, rfl, hb, hat.drop k⟩
/-- A row that is spoilt. -/
structure SpOK (S : List Ev) : Prop where
  not : ¬ rightP S
  evs : ∀ x ∈ S, evOk x
  len : S.length ≤ 100
theorem sp_evs {l : List Ev} (h : Past l) {k : Nat} {y : Ev} (hy : l[k]? = some y) {y' : Ev} (hy' : evOk y') : ∀ x ∈ l.set k y', evOk x := fun x hx => by
  rcases List.mem_or_eq_of_mem_set hx with hx | rfl
  · exact h.evOk x hx
  · exact hy'
def Ev.upH (e : Ev) : Ev := { e with h := e.h + 1 }
def Ev.upN (e : Ev) : Ev := { e with n := e.n + 1 }
def Ev.upC (e : Ev) (q : Nat) (v : Int) : Ev := { e with c := e.c.set q v }
theorem upC_enc (y : Ev) {q : Nat} (hq : q < 5) (v : Int) : evK.enc (y.upC q v) = (evK.enc y).set (2 + q) (.int .i64 v) := by
  rcases lt5 hq with rfl | rfl | rfl | rfl | rfl <;> rfl
section
variable {l : List Ev} (h : Past l) {k : Nat} {y : Ev} (hy : l[k]? = some y)
include h hy
theorem sp_height (hl : l.length ≤ 40) : SpOK (l.set k y.upH) := by
  have hm := h.may y (List.mem_of_getElem? hy)
  have hle := h.hle (List.mem_of_getElem? hy)
  have h1 := hm.h1
  refine ⟨spoilt_height h hy rfl rfl rfl rfl, sp_evs h hy ⟨.inl ⟨hm.r0, hm.r5, hm.n1, hm.nm, hm.own, ?_, ?_, hm.c0, hm.cm⟩, h.ed y (List.mem_of_getElem? hy), ?_, ?_⟩, by rw [List.length_set]; omega⟩
  · show 1 ≤ y.h + 1; omega
  · show y.h + 1 ≤ 16777216; omega
  · show 0 ≤ y.h + 1; omega
  · show y.h + 1 ≤ 100000000; omega
theorem sp_own (hl : l.length ≤ 40) : SpOK (l.set k y.upN) := by
  have hm := h.may y (List.mem_of_getElem? hy)
  have hle := h.hle (List.mem_of_getElem? hy)
  have hn := h.nle (List.mem_of_getElem? hy)
  have h1 := hm.h1
  have h2 := hm.n1
  have h3 := hm.own
  refine ⟨spoilt_own h hy rfl rfl rfl, sp_evs h hy ⟨.inr ⟨⟨hm.r0, hm.r5, ?_, ?_⟩, ?_⟩, h.ed y (List.mem_of_getElem? hy), ?_, ?_⟩, by rw [List.length_set]; omega⟩
  · show 1 ≤ y.n + 1; omega
  · show y.n + 1 ≤ 1048576; omega
  · show y.c.get y.r.toNat ≠ y.n + 1 - 1; omega
  · show 0 ≤ y.h; omega
  · show y.h ≤ 100000000; omega
theorem sp_clock (hl : l.length ≤ 40) {q : Nat} (hq : q < 5) (hne : q ≠ y.r.toNat) : SpOK (l.set k (y.upC q (1 + l.length))) := by
  have hm := h.may y (List.mem_of_getElem? hy)
  have hle := h.hle (List.mem_of_getElem? hy)
  have h1 := hm.h1
  refine ⟨spoilt_clock h hy (y' := y.upC q (1 + l.length)) hq (by simp [Ev.upC, Ck.get_set_same _ hq]), sp_evs h hy ⟨.inl ⟨hm.r0, hm.r5, hm.n1, hm.nm, ?_, h1, hm.hm, fun i hi => ?_, fun i hi => ?_⟩, h.ed y (List.mem_of_getElem? hy), ?_, ?_⟩, by rw [List.length_set]; omega⟩
  · show (y.c.set q _).get y.r.toNat = _
    rw [Ck.get_set_ne _ hne]; exact hm.own
  · show 0 ≤ (y.c.set q _).get i
    by_cases hc : q = i
    · subst hc; rw [Ck.get_set_same _ hq]; omega
    · rw [Ck.get_set_ne _ hc]; exact hm.c0 i hi
  · show (y.c.set q _).get i ≤ _
    by_cases hc : q = i
    · subst hc; rw [Ck.get_set_same _ hq]; omega
    · rw [Ck.get_set_ne _ hc]; exact hm.cm i hi
  · show 0 ≤ y.h; omega
  · show y.h ≤ 100000000; have := hm.hm; omega
theorem sp_twice (hl : l.length ≤ 40) : SpOK (l ++ [y]) :=
  ⟨spoilt_twice h hy, fun x hx => by
    rcases List.mem_append.1 hx with hx | hx
    · exact h.evOk x hx
    · have : x = y := by simpa using hx
      subst this; exact h.evOk x (List.mem_of_getElem? hy), by rw [List.length_append]; simp; omega⟩
end
/-- Is it below one of them? -/
def needB (y : Ev) (l : List Ev) : Bool := l.any fun x => hasB x.c y.r y.n
theorem needB_take {l : List Ev} {i : Nat} {x : Ev} (y : Ev) (hx : l[i]? = some x) : needB y (l.take (i + 1)) = (needB y (l.take i) || hasB x.c y.r y.n) := by
  unfold needB
  rw [List.take_add_one, hx, List.any_append]
  simp
theorem without_right {l : List Ev} (h : Past l) {k : Nat} {y : Ev} (hy : l[k]? = some y) : pB (rightP (l.take k ++ l.drop (k + 1))) = !needB y l := by
  cases hn : needB y l with
  | true =>
    unfold needB at hn
    rw [List.any_eq_true] at hn
    obtain ⟨x, hx, hb⟩ := hn
    exact pB_false (without_not h hy hx hb)
  | false =>
    unfold needB at hn
    rw [List.any_eq_false] at hn
    exact pB_true (without_past h hy fun x hx => by have := hn x hx; simpa using this).right
theorem without_ok {l : List Ev} (h : Past l) (k : Nat) : ∀ x ∈ l.take k ++ l.drop (k + 1), evOk x := fun x hx => by
  rcases List.mem_append.1 hx with hx | hx
  · exact h.evOk x ((List.take_sublist _ _).subset hx)
  · exact h.evOk x ((List.drop_sublist _ _).subset hx)
end Go.Proofs.Ytlfhjlkhhaoicaa
