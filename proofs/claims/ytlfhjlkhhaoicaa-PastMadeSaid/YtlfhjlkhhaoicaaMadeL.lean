/- Words for the walk of the reference's Make: choices, five clocks in a block, a store that changes nothing. -/
import Derived.Test.YtlfhjlkhhaoicaaMake
import Derived.Deep.MidRow
namespace Go.Proofs.Ytlfhjlkhhaoicaa
set_option linter.unusedVariables false
set_option linter.unusedSimpArgs false
open Go.RowKit
attribute [local go_sem] ck_get ck_get? q_le0 q_le1 q_le2 q_le3 q_le4 q_le5 q_lt1 q_lt2 q_lt3 q_lt4 q_lt5

/-- A choice. -/
structure Ch where
  (r f : Int) (sync : Bool) (k : Int) (key : ByteArray) (lab : Int) (val : ByteArray)
instance : Inhabited Ch := ⟨⟨0, 0, false, 0, ByteArray.empty, 0, ByteArray.empty⟩⟩
def chK : Kn Ch := ⟨fun c => [.int .u8 c.r, .int .u8 c.f, .bool c.sync, .int .i64 c.k, .string c.key, .int .i64 c.lab, .string c.val], 7, fun _ => rfl, by decide, fun x u hu => by simp at hu; rcases hu with rfl | rfl | rfl | rfl | rfl | rfl | rfl <;> rfl⟩
structure Ch.wf (c : Ch) : Prop where
  r : 0 ≤ c.r ∧ c.r ≤ 255
  f : 0 ≤ c.f ∧ c.f ≤ 255
  k : -9223372036854775808 ≤ c.k ∧ c.k ≤ 9223372036854775807
  key : c.key.size ≤ 1000000000000000
  val : c.val.size ≤ 1000000000000000
theorem chAt_get {w : World} {b off : Nat} {l : List Ch} (h : chK.at w b off l) {k : Nat} {e : Ch} (he : l[k]? = some e) :
    w.cell? ⟨b, off + k * 7, none⟩ = some (.int .u8 e.r) ∧ w.cell? ⟨b, off + k * 7 + 1, none⟩ = some (.int .u8 e.f) ∧ w.cell? ⟨b, off + k * 7 + 2, none⟩ = some (.bool e.sync) ∧
    w.cell? ⟨b, off + k * 7 + 3, none⟩ = some (.int .i64 e.k) ∧ w.cell? ⟨b, off + k * 7 + 4, none⟩ = some (.string e.key) ∧ w.cell? ⟨b, off + k * 7 + 5, none⟩ = some (.int .i64 e.lab) ∧ w.cell? ⟨b, off + k * 7 + 6, none⟩ = some (.string e.val) :=
  have g := h k e he
  ⟨g 0 _ rfl, g 1 _ rfl, g 2 _ rfl, g 3 _ rfl, g 4 _ rfl, g 5 _ rfl, g 6 _ rfl⟩

/-- The five clocks, as they lie. -/
def haveL (H : Nat → Ck) : List Value := (List.range 25).map fun j => Value.int .i64 ((H (j / 5)).get (j % 5))
theorem haveL_len (H : Nat → Ck) : (haveL H).length = 25 := by simp [haveL]
theorem haveL0 : haveL (fun _ => Ck.zero) = [Value.int .i64 0, .int .i64 0, .int .i64 0, .int .i64 0, .int .i64 0, .int .i64 0, .int .i64 0, .int .i64 0, .int .i64 0, .int .i64 0, .int .i64 0, .int .i64 0, .int .i64 0, .int .i64 0, .int .i64 0, .int .i64 0, .int .i64 0, .int .i64 0, .int .i64 0, .int .i64 0, .int .i64 0, .int .i64 0, .int .i64 0, .int .i64 0, .int .i64 0] := by
  unfold haveL
  simp [List.range, List.range.loop, Ck.zero, Ck.get]
theorem haveL_at (H : Nat → Ck) {j : Nat} (h : j < 25) : (haveL H)[j]? = some (.int .i64 ((H (j / 5)).get (j % 5))) := by
  unfold haveL
  rw [List.getElem?_map, List.getElem?_range h]
  rfl
theorem haveL_get (H : Nat → Ck) {q i : Nat} (hq : q < 5) (hi : i < 5) : (haveL H)[q * 5 + i]? = some (.int .i64 ((H q).get i)) := by
  rw [haveL_at H (by omega)]
  have h1 : (q * 5 + i) / 5 = q := by omega
  have h2 : (q * 5 + i) % 5 = i := by omega
  rw [h1, h2]
theorem haveL_set (H : Nat → Ck) {q i : Nat} (hq : q < 5) (hi : i < 5) (v : Int) : (haveL H).set (q * 5 + i) (.int .i64 v) = haveL (upd H q ((H q).set i v)) := by
  refine List.ext_getElem? fun j => ?_
  rw [List.getElem?_set]
  by_cases hj : j < 25
  · rw [haveL_at _ hj, haveL_at _ hj]
    by_cases e : q * 5 + i = j
    · subst e
      have h1 : (q * 5 + i) / 5 = q := by omega
      have h2 : (q * 5 + i) % 5 = i := by omega
      rw [if_pos rfl, if_pos (by rw [haveL_len]; exact hj), h1, h2, upd_same, Ck.get_set_same _ hi]
    · rw [if_neg e]
      by_cases e2 : j / 5 = q
      · rw [e2, upd_same, Ck.get_set_ne _ (by omega)]
      · rw [upd_ne _ _ e2]
  · rw [if_neg (by omega), List.getElem?_eq_none (by rw [haveL_len]; omega), List.getElem?_eq_none (by rw [haveL_len]; omega)]
theorem upd_upd (H : Nat → Ck) (q : Nat) (a b : Ck) : upd (upd H q a) q b = upd H q b := by
  funext p
  by_cases e : p = q
  · subst e; simp [upd_same]
  · simp [upd_ne _ _ e]
theorem set5_eq (a c : Ck) : ((((a.set 0 c.x0).set 1 c.x1).set 2 c.x2).set 3 c.x3).set 4 c.x4 = c := by cases a; cases c; rfl
section
variable {w : World} {b : Nat} {t : TypeId} {H : Nat → Ck}
theorem have_cells (h : blk w b (haveL H) t) {q : Nat} (hq : q < 5) : w.cell? ⟨b, q * 5, none⟩ = some (.int .i64 (H q).x0) ∧ w.cell? ⟨b, q * 5 + 1, none⟩ = some (.int .i64 (H q).x1) ∧ w.cell? ⟨b, q * 5 + 2, none⟩ = some (.int .i64 (H q).x2) ∧ w.cell? ⟨b, q * 5 + 3, none⟩ = some (.int .i64 (H q).x3) ∧ w.cell? ⟨b, q * 5 + 4, none⟩ = some (.int .i64 (H q).x4) := by
  refine ⟨?_, ?_, ?_, ?_, ?_⟩
  · have := h.cell (q * 5 + 0); rw [haveL_get H hq (by omega)] at this; exact this
  · have := h.cell (q * 5 + 1); rw [haveL_get H hq (by omega)] at this; exact this
  · have := h.cell (q * 5 + 2); rw [haveL_get H hq (by omega)] at this; exact this
  · have := h.cell (q * 5 + 3); rw [haveL_get H hq (by omega)] at this; exact this
  · have := h.cell (q * 5 + 4); rw [haveL_get H hq (by omega)] at this; exact this
theorem have_set (h : blk w b (haveL H) t) {q i : Nat} (hq : q < 5) (hi : i < 5) (v : Int) : blk (w.setCell ⟨b, q * 5 + i, none⟩ (.int .i64 v)) b (haveL (upd H q ((H q).set i v))) t := by
  have := h.set (q * 5 + i) (.int .i64 v)
  rw [haveL_set H hq hi] at this
  exact this
theorem have_row (h : blk w b (haveL H) t) {q : Nat} (hq : q < 5) (c : Ck) : blk (((((w.setCell ⟨b, q * 5, none⟩ (.int .i64 c.x0)).setCell ⟨b, q * 5 + 1, none⟩ (.int .i64 c.x1)).setCell ⟨b, q * 5 + 2, none⟩ (.int .i64 c.x2)).setCell ⟨b, q * 5 + 3, none⟩ (.int .i64 c.x3)).setCell ⟨b, q * 5 + 4, none⟩ (.int .i64 c.x4)) b (haveL (upd H q c)) t := by
  have h1 := have_set (have_set (have_set (have_set (have_set h hq (i := 0) (by omega) c.x0) hq (i := 1) (by omega) c.x1) hq (i := 2) (by omega) c.x2) hq (i := 3) (by omega) c.x3) hq (i := 4) (by omega) c.x4
  simp only [upd_upd, upd_same, set5_eq] at h1
  exact h1
end
theorem Kn.own.ne_blk {α : Type} {K : Kn α} {w : World} {base b : Nat} {e t : TypeId} {v : Value} {l : List α} {cs : List Value} (h : K.own e w base v l) (hb : blk w b cs t) (ht : t ≠ e) : some b ≠ v.ownBlock := by
  intro hc
  rcases h.2 with ⟨rfl, _⟩ | ⟨g, cap, cur, rfl, hg, hh, _⟩
  · simp [Value.ownBlock] at hc
  · simp [Value.ownBlock] at hc
    subst hc
    unfold blk at hb
    rw [hb] at hh
    simp at hh
    exact ht hh.2

theorem setCell_same {w : World} {b : Nat} {l : List Value} {t : TypeId} (h : blk w b l t) {o : Nat} {v : Value} (hv : l[o]? = some v) : w.setCell ⟨b, o, none⟩ v = w := by
  have hlt := h.lt
  unfold blk at h
  have h' : w.heap[b] = .cells l.toArray t (0, 0) := by simpa [Array.getElem?_eq_getElem hlt] using h
  obtain ⟨ho, hov⟩ := List.getElem?_eq_some_iff.1 hv
  have e : w.heap.modify b (fun x => match x with
      | .cells cs t fr => .cells (cs.setIfInBounds o v) t fr
      | x => x) = w.heap := by
    refine Array.ext (by simp) fun i hi hi' => ?_
    rw [Array.getElem_modify]
    split
    · rename_i hib
      subst hib
      rw [h']
      simp only [Obj.cells.injEq, and_true]
      refine Array.ext (by simp) fun j hj hj' => ?_
      rw [Array.getElem_setIfInBounds]
      split
      · rename_i hjo; subst hjo; simpa using hov.symm
      · rfl
    · rfl
  unfold World.setCell
  cases w
  simp only at e ⊢
  congr 1
theorem setCells_same {w : World} {b : Nat} {l : List Value} {t : TypeId} (h : blk w b l t) : ∀ (vs : List Value) (o : Nat), (∀ j v, vs[j]? = some v → l[o + j]? = some v) → w.setCells b o vs = w
  | [], _, _ => rfl
  | v :: r, o, hv => by
    have h0 := hv 0 v rfl
    rw [Nat.add_zero] at h0
    rw [World.setCells, setCell_same h h0]
    exact setCells_same h r (o + 1) fun j u hu => by have := hv (j + 1) u hu; rwa [show o + 1 + j = o + (j + 1) from by omega]
theorem there_of {w : World} {b : Nat} {l : List Value} {t : TypeId} (h : blk w b l t) : w.there b 0 l.length := fun j hj => ⟨by rw [h.cell]; simp; omega, h.free _⟩
abbrev Z25 : List Value := [.int .i64 0, .int .i64 0, .int .i64 0, .int .i64 0, .int .i64 0, .int .i64 0, .int .i64 0, .int .i64 0, .int .i64 0, .int .i64 0, .int .i64 0, .int .i64 0, .int .i64 0, .int .i64 0, .int .i64 0, .int .i64 0, .int .i64 0, .int .i64 0, .int .i64 0, .int .i64 0, .int .i64 0, .int .i64 0, .int .i64 0, .int .i64 0, .int .i64 0]
def MkSt (w wr : World) (v3 : Value) (k : Nat) (l : List Ev) (H : Nat → Ck) : Prop :=
  PInv l H ∧ l.length ≤ k ∧ evK.own 31 wr w.heap.size v3 l ∧ blk wr (w.heap.size + 1) (haveL H) 72 ∧ Below w.heap.size w wr

set_option maxRecDepth 100000 in
theorem built25 : Try.prog.built 72 [] = some Z25.toArray := by kernel_rfl
section
variable {ops : Array Oper} {rest : List Oper} {a : Act} {w : World} {Q : Exit → Act → World → Prop} {d : Option Tmp} {ty : TypeId} {pos : String} {aft : Array Edge}
set_option maxRecDepth 100000 in
theorem wpL_build25 (h : wpList Try.prog ops Q rest (a.put d (.agg Z25.toArray)) w) : wpList Try.prog ops Q (⟨d, .build 72 #[], ty, pos, aft, none⟩ :: rest) a w :=
  wpList_plain rfl fun K hK => by
    have e : Try.prog.built 72 ((#[] : Array (Nat × Operand)).map (fun (i, x) => (i, a.eval x))).toList = some Z25.toArray := by rw [Array.toList_map]; exact built25
    refine wp_build 72 #[] rfl (by rw [e]; rfl) ?_
    rw [e]
    exact hK _ _ h
theorem one25 : Z25.toArray.all (·.oneCell') = true := all_oneCell_toArray (by simp [Z25, Value.oneCell'])
theorem size25 : (Try.prog.info? 72).map (·.size) = some Z25.toArray.size := by kernel_rfl
theorem wpL_store25 (b : Nat) (hx : a.eval (.tmp 4) = .pointer (some ⟨b, 0, none⟩)) (hy : a.eval (.tmp 9) = .agg Z25.toArray) (hb : blk w b Z25 72) (h : wpList Try.prog ops Q rest (a.put d undef) w) : wpList Try.prog ops Q (⟨d, .store 72 (.tmp 4) (.tmp 9), ty, pos, aft, none⟩ :: rest) a w := by
  refine wpList_store_mid rfl 72 (.tmp 4) (.tmp 9) rfl b 0 Z25.toArray hx hy (there_of hb) size25 one25 ?_
  have e : w.setCells b 0 Z25.toArray.toList = w := setCells_same hb Z25 0 (fun j v hv => by rwa [Nat.zero_add])
  rw [e]
  exact h
end
theorem mk_keep {w : World} {B x q n : Nat} {H : Nat → Ck} {k lab : Int} {key val : ByteArray} {t te : TypeId} (hh : blk w B (haveL H) t) (hx : blk w x [.int .i64 k, .string key, .int .i64 lab, .string val] te) (hq : q < 5) (hn : n ≤ w.heap.size) :
    (w.cell? ⟨B, q * 5, none⟩ = some (.int .i64 (H q).x0) ∧ w.cell? ⟨B, q * 5 + 1, none⟩ = some (.int .i64 (H q).x1) ∧ w.cell? ⟨B, q * 5 + 2, none⟩ = some (.int .i64 (H q).x2) ∧ w.cell? ⟨B, q * 5 + 3, none⟩ = some (.int .i64 (H q).x3) ∧ w.cell? ⟨B, q * 5 + 4, none⟩ = some (.int .i64 (H q).x4)) ∧ w.cell? ⟨B, q * 5 + q, none⟩ = some (.int .i64 ((H q).get q)) ∧ (w.cell? ⟨x, 0, none⟩ = some (.int .i64 k) ∧ w.cell? ⟨x, 1, none⟩ = some (.string key) ∧ w.cell? ⟨x, 2, none⟩ = some (.int .i64 lab) ∧ w.cell? ⟨x, 3, none⟩ = some (.string val)) ∧ n ≤ w.heap.size :=
  ⟨have_cells hh hq, (hh.cell (q * 5 + q)).trans (haveL_get H hq hq), ⟨hx.cell 0, hx.cell 1, hx.cell 2, hx.cell 3⟩, hn⟩
end Go.Proofs.Ytlfhjlkhhaoicaa
