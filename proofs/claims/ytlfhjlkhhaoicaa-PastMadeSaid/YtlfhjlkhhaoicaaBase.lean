/- Words on memory: blocks known whole, rows of elements of one kind, append to a slice of the call's own. -/
import Derived.Test.YtlfhjlkhhaoicaaProg
import Derived.WalkKit
import Derived.WalkSpells
import Derived.WalkLawsBesides
import Derived.Deep.QuietTactic
import Derived.BigQuiet
import Derived.StillTailTactics
import Derived.RegionTactic
import Derived.Lib.Hide
import Derived.Deep.LoopGhost
import Derived.OneCell
import Derived.Laws.AppendOwn
import Derived.OwnWalk
import Derived.KernelRfl
import Derived.Deep.RegionHeld3
import Derived.Deep.RegionLaw
namespace Go.Proofs.Ytlfhjlkhhaoicaa
set_option linter.unusedVariables false
set_option linter.unusedSimpArgs false
open Go.RowKit

theorem ret_bool {a b : Bool} (h : a = b) : Ending.returned (.bool a) = .returned (.bool b) := by rw [h]
theorem ret_int {k : IntKind} {a b : Int} (h : a = b) : Ending.returned (.int k a) = .returned (.int k b) := by rw [h]
theorem ret_slice {A : Option Addr} {n m c : Nat} (h : n = m) : Ending.returned (.slice A n c) = .returned (.slice A m c) := by rw [h]
theorem bcell {W w1 : World} (hb : Below W.heap.size W w1) : (∀ b o, b < W.heap.size → w1.cell? ⟨b, o, none⟩ = W.cell? ⟨b, o, none⟩) ∧ (∀ b o, b < W.heap.size → w1.frozen? ⟨b, o, none⟩ = W.frozen? ⟨b, o, none⟩) :=
  ⟨fun b o h => hb.cell (p := ⟨b, o, none⟩) h, fun b o h => hb.frozen (p := ⟨b, o, none⟩) h⟩
theorem bdN {B : Nat} {a w : World} (h : Below B a w) (n : Nat) : Below B a (w.drewN n) := by
  induction n with
  | zero => exact h
  | succ n ih => exact ih.drew

/-! A block that was there lies below the ones that come. -/
theorem q_le0 {a b : Nat} (h : a < b) : (a ≤ b) = True := by simp; omega
theorem q_le1 {a b : Nat} (h : a < b) : (a ≤ b + 1) = True := by simp; omega
theorem q_le2 {a b : Nat} (h : a < b) : (a ≤ b + 1 + 1) = True := by simp; omega
theorem q_le3 {a b : Nat} (h : a < b) : (a ≤ b + 1 + 1 + 1) = True := by simp; omega
theorem q_le4 {a b : Nat} (h : a < b) : (a ≤ b + 1 + 1 + 1 + 1) = True := by simp; omega
theorem q_le5 {a b : Nat} (h : a < b) : (a ≤ b + 1 + 1 + 1 + 1 + 1) = True := by simp; omega

theorem q_lt1 {a b : Nat} (h : a < b) : (a < b + 1) = True := by simp; omega
theorem q_lt2 {a b : Nat} (h : a < b) : (a < b + 1 + 1) = True := by simp; omega
theorem q_lt3 {a b : Nat} (h : a < b) : (a < b + 1 + 1 + 1) = True := by simp; omega
theorem q_lt4 {a b : Nat} (h : a < b) : (a < b + 1 + 1 + 1 + 1) = True := by simp; omega
theorem q_lt5 {a b : Nat} (h : a < b) : (a < b + 1 + 1 + 1 + 1 + 1) = True := by simp; omega

/-! A block of cells, known whole. -/
def blk (w : World) (b : Nat) (l : List Value) (t : TypeId) : Prop := w.heap[b]? = some (.cells l.toArray t (0, 0))
section
variable {w w' : World} {b : Nat} {l : List Value} {t : TypeId}
theorem blk.lt (h : blk w b l t) : b < w.heap.size := by
  rcases Nat.lt_or_ge b w.heap.size with h' | h'
  · exact h'
  · simp [blk, Array.getElem?_eq_none h'] at h
theorem blk.cell (h : blk w b l t) : ∀ o, w.cell? ⟨b, o, none⟩ = l[o]? := fun o => by
  unfold blk at h
  simp [World.cell?, h]
theorem blk.free (h : blk w b l t) : ∀ o, w.frozen? ⟨b, o, none⟩ = false := fun o => by
  unfold blk at h
  simp [World.frozen?, h]
theorem blk.set (h : blk w b l t) (o : Nat) (v : Value) : blk (w.setCell ⟨b, o, none⟩ v) b (l.set o v) t := by
  have hlt := h.lt
  unfold blk at h ⊢
  have h' : w.heap[b] = .cells l.toArray t (0, 0) := by simpa [Array.getElem?_eq_getElem hlt] using h
  show (w.heap.modify b _)[b]? = _
  rw [Array.getElem?_eq_getElem (by simpa using hlt), Array.getElem_modify_self, h']
  simp
theorem blk.set_ne (h : blk w b l t) {a : Addr} (hne : b ≠ a.block) (v : Value) : blk (w.setCell a v) b l t := by
  unfold blk at h ⊢
  rw [Below.heap_setCell _ _ _ _ hne]
  exact h
theorem blk.alloc (h : blk w b l t) (o : Obj) : blk (w.alloc o) b l t := by
  have hlt := h.lt
  unfold blk at h ⊢
  rw [Below.heap_alloc _ _ _ hlt]
  exact h
theorem blk_new (w : World) (l : List Value) (t : TypeId) : blk (w.alloc (.cells l.toArray t)) w.heap.size l t := by
  unfold blk World.alloc
  simp
theorem blk_at {w : World} {b : Nat} (hb : b = w.heap.size) (l : List Value) (t : TypeId) : blk (w.alloc (.cells l.toArray t)) b l t := by
  subst hb
  exact blk_new w l t
theorem blk.below {B : Nat} (h : blk w b l t) (hb : Below B w w') (hlt : b < B) : blk w' b l t := by
  unfold blk at h ⊢
  rw [hb.block b hlt]
  exact h
theorem blk.grown {row : Option Nat} (h : blk w b l t) (hg : w.grownBy w' row) (hne : some b ≠ row) : blk w' b l t := by
  have hlt := h.lt
  unfold blk at h ⊢
  rw [hg.block b hlt hne]
  exact h
theorem blk.drewN (h : blk w b l t) (n : Nat) : blk (w.drewN n) b l t := h
theorem blk.drew (h : blk w b l t) : blk w.drew b l t := h
end

/-! Rows: elements of one kind, each of the same number of cells. -/
structure Kn (α : Type) where
  enc : α → List Value
  sz : Nat
  len : ∀ x, (enc x).length = sz
  pos : 0 < sz
  one : ∀ x, ∀ u ∈ enc x, u.oneCell' = true
def Kn.at {α : Type} (K : Kn α) (w : World) (b off : Nat) (l : List α) : Prop := ∀ (k : Nat) (x : α), l[k]? = some x → ∀ (j : Nat) (u : Value), (K.enc x)[j]? = some u → w.cell? ⟨b, off + k * K.sz + j, none⟩ = some u
/-- What a slice's elements read as. -/
def Kn.row {α : Type} (K : Kn α) (w : World) (A : Option Addr) (l : List α) : Prop := l = [] ∨ ∃ b off, A = some ⟨b, off, none⟩ ∧ b < w.heap.size ∧ K.at w b off l
/-- A slice of the call's own, its block from base on. -/
def Kn.own {α : Type} (K : Kn α) (e : TypeId) (w : World) (base : Nat) (v : Value) (l : List α) : Prop := w.ownsRow base e K.sz v l.length (l.flatMap K.enc)
theorem cell_lt {w : World} {b o : Nat} {u : Value} (h : w.cell? ⟨b, o, none⟩ = some u) : b < w.heap.size := World.block_lt_of_cell? w ⟨b, o, none⟩ h
section
variable {α : Type} {K : Kn α} {w w' : World} {A : Option Addr} {l m : List α} {b off base : Nat} {e : TypeId} {v : Value}
theorem Kn.at.below {B : Nat} (h : K.at w b off l) (hb : Below B w w') (hlt : b < B) : K.at w' b off l := fun k x hx j u hu => by
  rw [hb.cell (p := ⟨b, off + k * K.sz + j, none⟩) hlt]
  exact h k x hx j u hu
theorem Kn.row.below {B : Nat} (h : K.row w A l) (hb : Below B w w') (hB : w.heap.size ≤ B) : K.row w' A l := by
  rcases h with h | ⟨b, off, hA, hlt, h⟩
  · exact .inl h
  · exact .inr ⟨b, off, hA, Nat.lt_of_lt_of_le hlt hb.size, h.below hb (by omega)⟩
/-- Whose block lies below B. -/
theorem Kn.row.below_at {B : Nat} (h : K.row w A l) (hb : Below B w w') (hB : ∀ a, A = some a → a.block < B) : K.row w' A l := by
  rcases h with h | ⟨b, off, hA, hlt, h⟩
  · exact .inl h
  · have := hB _ hA
    exact .inr ⟨b, off, hA, Nat.lt_of_lt_of_le hlt hb.size, h.below hb this⟩
theorem Kn.row.get (h : K.row w A l) {k : Nat} {x : α} (hx : l[k]? = some x) : ∃ b off, A = some ⟨b, off, none⟩ ∧ b < w.heap.size ∧ K.at w b off l := by
  rcases h with h | h
  · subst h; simp at hx
  · exact h
theorem Kn.row_blk {t : TypeId} {l : List α} (h : blk w b (l.flatMap K.enc) t) (hf : ∀ {k : Nat} {x : α}, l[k]? = some x → ∀ {j : Nat} {u : Value}, (K.enc x)[j]? = some u → (l.flatMap K.enc)[k * K.sz + j]? = some u) : K.row w (some ⟨b, 0, none⟩) l :=
  .inr ⟨b, 0, rfl, h.lt, fun k x hx j u hu => by rw [Nat.zero_add, h.cell, hf hx hu]⟩
theorem Kn.row.take (h : K.row w A l) (n : Nat) : K.row w A (l.take n) := by
  rcases h with h | ⟨b, off, hA, hlt, h⟩
  · subst h; exact .inl (by simp)
  · refine .inr ⟨b, off, hA, hlt, fun k x hx j u hu => h k x ?_ j u hu⟩
    rw [List.getElem?_take] at hx
    split at hx
    · exact hx
    · simp at hx
theorem Kn.row_nil : K.row w A [] := .inl rfl
theorem Kn.flat_get (K : Kn α) : ∀ (l : List α) {k : Nat} {x : α}, l[k]? = some x → ∀ {j : Nat} {u : Value}, (K.enc x)[j]? = some u → (l.flatMap K.enc)[k * K.sz + j]? = some u
  | [], k, x, h, _, _, _ => by simp at h
  | y :: r, 0, x, h, j, u, hu => by
    simp only [List.getElem?_cons_zero, Option.some.injEq] at h
    subst h
    have hj : j < (K.enc y).length := (List.getElem?_eq_some_iff.1 hu).1
    rw [List.flatMap_cons, List.getElem?_append_left (by omega)]
    simpa using hu
  | y :: r, k + 1, x, h, j, u, hu => by
    simp only [List.getElem?_cons_succ] at h
    have := K.flat_get r h hu
    rw [List.flatMap_cons, List.getElem?_append_right (by rw [K.len, Nat.succ_mul]; omega), K.len]
    rw [show (k + 1) * K.sz + j - K.sz = k * K.sz + j from by rw [Nat.succ_mul]; omega]
    exact this
theorem Kn.row_of {t : TypeId} (h : blk w b (l.flatMap K.enc) t) : K.row w (some ⟨b, 0, none⟩) l := Kn.row_blk h (K.flat_get l)
theorem Kn.flat_len (K : Kn α) : ∀ (l : List α), (l.flatMap K.enc).length = l.length * K.sz
  | [] => by simp
  | y :: r => by rw [List.flatMap_cons, List.length_append, K.len, K.flat_len r, List.length_cons, Nat.succ_mul]; omega
theorem Kn.flat_lt (K : Kn α) : ∀ (l : List α) {i : Nat} {u : Value}, (l.flatMap K.enc)[i]? = some u → ∃ k x j, l[k]? = some x ∧ (K.enc x)[j]? = some u ∧ i = k * K.sz + j
  | [], i, u, h => by simp at h
  | y :: r, i, u, h => by
    rw [List.flatMap_cons] at h
    by_cases hi : i < K.sz
    · rw [List.getElem?_append_left (by rw [K.len]; exact hi)] at h
      exact ⟨0, y, i, rfl, h, by omega⟩
    · rw [List.getElem?_append_right (by rw [K.len]; omega), K.len] at h
      obtain ⟨k, x, j, h1, h2, h3⟩ := K.flat_lt r h
      exact ⟨k + 1, x, j, h1, h2, by rw [Nat.succ_mul]; omega⟩
theorem Kn.own.form (h : K.own e w base v l) : ∃ A cap, v = .slice A l.length cap ∧ K.row w A l ∧ l.length ≤ cap ∧ (∀ a, A = some a → base ≤ a.block ∧ v.ownBlock = some a.block ∧ a.block < w.heap.size) := by
  obtain ⟨h1, h2⟩ := h
  rcases h2 with ⟨rfl, hn⟩ | ⟨g, cap, cur, rfl, hg, hh, hc, hm, hs, ht⟩
  · refine ⟨none, 0, by rw [hn], .inl (List.eq_nil_of_length_eq_zero hn), by omega, fun a ha => by cases ha⟩
  · have hlt : g < w.heap.size := by
      rcases Nat.lt_or_ge g w.heap.size with h' | h'
      · exact h'
      · simp [Array.getElem?_eq_none h'] at hh
    refine ⟨_, cap, rfl, .inr ⟨g, 0, rfl, hlt, fun k x hx j u hu => ?_⟩, hc, fun a ha => by cases ha; exact ⟨hg, rfl, hlt⟩⟩
    have hk : k < l.length := (List.getElem?_eq_some_iff.1 hx).1
    have hj : j < K.sz := by have := (List.getElem?_eq_some_iff.1 hu).1; rwa [K.len] at this
    have h3 := K.flat_get l hx hu
    rw [← ht, List.getElem?_take_of_lt (by have : (k + 1) * K.sz ≤ l.length * K.sz := Nat.mul_le_mul_right _ hk
                                           rw [Nat.succ_mul] at this; omega)] at h3
    rw [Array.getElem?_toList] at h3
    simp [World.cell?, hh, h3]
theorem Kn.own.row {A : Option Addr} {n cap : Nat} (h : K.own e w base (.slice A n cap) l) : K.row w A l := by
  obtain ⟨A', cap', hv, hr, _⟩ := h.form
  cases hv
  exact hr
theorem Kn.own_nil : K.own e w base (.slice none 0 0) [] := ⟨by simp, .inl ⟨rfl, rfl⟩⟩
theorem Kn.own.kept {row : Option Nat} (h : K.own e w base v l) (hg : w.grownBy w' row) (hne : v.ownBlock ≠ row ∨ v.ownBlock = none) : K.own e w' base v l := by
  obtain ⟨h1, h2⟩ := h
  refine ⟨h1, ?_⟩
  rcases h2 with h2 | ⟨g, cap, cur, rfl, hgb, hh, r⟩
  · exact .inl h2
  · have hlt : g < w.heap.size := by
      rcases Nat.lt_or_ge g w.heap.size with h' | h'
      · exact h'
      · simp [Array.getElem?_eq_none h'] at hh
    refine .inr ⟨g, cap, cur, rfl, hgb, ?_, r⟩
    rw [hg.block g hlt]
    · exact hh
    · rcases hne with hne | hne
      · exact hne
      · simp [Value.ownBlock] at hne
theorem Kn.own.base_le (h : K.own e w base v l) : ∀ k, v.ownBlock = some k → base ≤ k := fun k hk => by
  obtain ⟨A, cap, rfl, _, _, hb⟩ := h.form
  cases A with
  | none => simp [Value.ownBlock] at hk
  | some a =>
    have := (hb a rfl).1
    simp [Value.ownBlock] at hk
    omega
theorem Kn.own.ne (h : K.own e w base v l) {b : Nat} (hb : b < base) : some b ≠ v.ownBlock := fun hc => by
  have := h.base_le b hc.symm
  omega
theorem Kn.own.lt_size (h : K.own e w base v l) : ∀ k, v.ownBlock = some k → k < w.heap.size := fun k hk => by
  obtain ⟨A, cap, rfl, _, _, hb⟩ := h.form
  cases A with
  | none => simp [Value.ownBlock] at hk
  | some a =>
    have := (hb a rfl).2.2
    simp [Value.ownBlock] at hk
    omega
theorem Kn.own.ne_ge (h : K.own e w base v l) {b : Nat} (hb : w.heap.size ≤ b) : some b ≠ v.ownBlock := fun hc => by
  have := h.lt_size b hc.symm
  omega
theorem Kn.own.kept_apart {row : Option Nat} {B : Nat} (h : K.own e w base v l) (hg : w.grownBy w' row) (hlt : ∀ k, v.ownBlock = some k → k < B) (hge : ∀ k, row = some k → B ≤ k) : K.own e w' base v l := by
  refine h.kept hg ?_
  cases hv : v.ownBlock with
  | none => exact .inr rfl
  | some k =>
    left
    intro hc
    have h1 := hlt k hv
    have h2 := hge k hc.symm
    omega
theorem Kn.own.kept_lt {r : Nat} (h : K.own e w base v l) (hg : w.grownBy w' (some r)) (hr : r < base) : K.own e w' base v l := by
  refine h.kept hg ?_
  obtain ⟨A, cap, rfl, _, _, hb⟩ := h.form
  cases A with
  | none => exact .inr rfl
  | some a =>
    left
    intro hc
    have := (hb a rfl).1
    simp [Value.ownBlock] at hc
    omega
theorem Kn.own.alloc (h : K.own e w base v l) (o : Obj) : K.own e (w.alloc o) base v l := by
  by_cases hn : v.ownBlock = none
  · exact h.kept (World.grownBy_alloc w o none) (.inr hn)
  · exact h.kept (World.grownBy_alloc w o none) (.inl hn)
theorem Kn.own.set_ne (h : K.own e w base v l) {a : Addr} (ha : v.ownBlock ≠ some a.block) (u : Value) : K.own e (w.setCell a u) base v l := ownsRow_setCell_other h ha u
theorem Kn.own.set_lt (h : K.own e w base v l) {a : Addr} (ha : a.block < base) (u : Value) : K.own e (w.setCell a u) base v l := by
  obtain ⟨A, cap, rfl, _, _, hb⟩ := h.form
  refine h.set_ne (fun hc => ?_) u
  cases A with
  | none => simp [Value.ownBlock] at hc
  | some x =>
    have := (hb x rfl).1
    simp [Value.ownBlock] at hc
    omega
theorem Kn.own.drewN (h : K.own e w base v l) (n : Nat) : K.own e (w.drewN n) base v l := h
theorem Kn.own.drew (h : K.own e w base v l) : K.own e w.drew base v l := h
theorem Kn.own.below {B : Nat} (h : K.own e w base v l) (hb : Below B w w') (hlt : w.heap.size ≤ B) : K.own e w' base v l := by
  obtain ⟨h1, h2⟩ := h
  refine ⟨h1, ?_⟩
  rcases h2 with h2 | ⟨g, cap, cur, rfl, hgb, hh, r⟩
  · exact .inl h2
  · have hlt' : g < w.heap.size := by
      rcases Nat.lt_or_ge g w.heap.size with h' | h'
      · exact h'
      · simp [Array.getElem?_eq_none h'] at hh
    exact .inr ⟨g, cap, cur, rfl, hgb, by rw [hb.block g (by omega)]; exact hh, r⟩
theorem Kn.own.mono {base' : Nat} (h : K.own e w base v l) (hb : base' ≤ base) : K.own e w base' v l := by
  obtain ⟨h1, h2⟩ := h
  refine ⟨h1, ?_⟩
  rcases h2 with h2 | ⟨g, cap, cur, rfl, hgb, r⟩
  · exact .inl h2
  · exact .inr ⟨g, cap, cur, rfl, by omega, r⟩
/-- The block of an element, laid by the call. -/
theorem Kn.news (x : α) {g : Nat} {t : TypeId} (h : blk w g (K.enc x) t) : ∀ (j : Nat) (u : Value), (K.enc x)[j]? = some u → w.cell? (Addr.add ⟨g, 0, none⟩ j) = some u := fun j u hu => by
  have := h.cell j
  rw [hu] at this
  unfold Addr.add
  split
  · rename_i h0; subst h0; exact this
  · simpa using this
theorem Kn.news_row {g off : Nat} (h : K.at w g off l) : ∀ (j : Nat) (u : Value), (l.flatMap K.enc)[j]? = some u → w.cell? (Addr.add ⟨g, off, none⟩ j) = some u := fun i u hu => by
  obtain ⟨k, x, j, h1, h2, rfl⟩ := K.flat_lt l hu
  have := h k x h1 j u h2
  unfold Addr.add
  split
  · rename_i h0
    rw [show off + k * K.sz + j = off from by omega] at this
    exact this
  · rw [Nat.add_assoc] at this
    exact this
theorem Kn.one_flat (K : Kn α) (l : List α) : ∀ u ∈ l.flatMap K.enc, u.oneCell' = true := fun u hu => by
  obtain ⟨x, _, h⟩ := List.mem_flatMap.1 hu
  exact K.one x u h
end

/-! append to a slice of the call's own. -/
section
variable {α : Type} (K : Kn α) (w : World) {ops : Array Oper} {rest : List Oper} {o : Oper} {a : Act} {Q : Exit → Act → World → Prop}
theorem wpL_app1 (hgd : o.guard = none) (s x : Operand) (t : TypeId) (ho : o.op = .call { callee := .builtin .append, args := #[s, x], argTypes := #[t, t] })
    (base : Nat) (e : TypeId) (bytes : Nat) (z : Value) (ht : Try.prog.underlying t = some (.slice e)) (hi : (Try.prog.info? e).map (fun i => (i.zero, i.size, i.bytes)) = some (some z, K.sz, bytes)) (hzs : z.cells.size = K.sz)
    (v : Value) (l : List α) (hs : a.eval s = v) (hown : K.own e w base v l) (g : Nat) (y : α) (hx : a.eval x = .slice (some ⟨g, 0, none⟩) 1 1) (hblk : blk w g (K.enc y) e)
    (hlen : l.length + 1 ≤ 1000000) (hby : bytes ≤ 1000) (hbase : base ≤ w.heap.size)
    (h : ∀ v' w', K.own e w' base v' (l ++ [y]) → w.grownBy w' v.ownBlock → wpList Try.prog ops Q rest (a.put o.dst v') w') : wpList Try.prog ops Q (o :: rest) a w := by
  obtain ⟨i, hi1, hi2, hi3, hi4⟩ := info_parts hi
  refine wpList_append_own w hgd s x t ho base e i z K.sz bytes ht hi1 hi2 hi3 hi4 hzs K.pos v l.length _ hs hown ⟨g, 0, none⟩ 1 1 (K.enc y) hx (by rw [K.len, Nat.one_mul]) (Kn.news y hblk) (K.one y) (by unfold maxLen; omega)
    (Nat.le_trans (Nat.mul_le_mul hlen hby) (by decide)) hbase fun v' w' h1 h2 _ => h v' w' ?_ h2
  have : (l ++ [y]).flatMap K.enc = l.flatMap K.enc ++ K.enc y := by simp
  unfold Kn.own
  rw [this, List.length_append]
  exact h1
/-- append(s, xs...): the second slice reads as m. -/
theorem wpL_apps (hgd : o.guard = none) (s x : Operand) (t : TypeId) (ho : o.op = .call { callee := .builtin .append, args := #[s, x], argTypes := #[t, t] })
    (base : Nat) (e : TypeId) (bytes : Nat) (z : Value) (ht : Try.prog.underlying t = some (.slice e)) (hi : (Try.prog.info? e).map (fun i => (i.zero, i.size, i.bytes)) = some (some z, K.sz, bytes)) (hzs : z.cells.size = K.sz)
    (v : Value) (l : List α) (hs : a.eval s = v) (hown : K.own e w base v l) (b off c : Nat) (m : List α) (hx : a.eval x = .slice (some ⟨b, off, none⟩) m.length c) (hrow : K.at w b off m)
    (hlen : l.length + m.length ≤ 1000000) (hby : bytes ≤ 1000) (hbase : base ≤ w.heap.size)
    (h : ∀ v' w', K.own e w' base v' (l ++ m) → w.grownBy w' v.ownBlock → wpList Try.prog ops Q rest (a.put o.dst v') w') : wpList Try.prog ops Q (o :: rest) a w := by
  obtain ⟨i, hi1, hi2, hi3, hi4⟩ := info_parts hi
  refine wpList_append_own w hgd s x t ho base e i z K.sz bytes ht hi1 hi2 hi3 hi4 hzs K.pos v l.length _ hs hown ⟨b, off, none⟩ m.length c (m.flatMap K.enc) hx (K.flat_len m) (Kn.news_row hrow) (K.one_flat m) (by unfold maxLen; omega)
    (Nat.le_trans (Nat.mul_le_mul hlen hby) (by decide)) hbase fun v' w' h1 h2 _ => h v' w' ?_ h2
  unfold Kn.own
  rw [List.flatMap_append, List.length_append]
  exact h1
theorem run_app_none (base : Nat) (t ty e : TypeId) (i : TypeInfo) (size c : Nat) (ht : Try.prog.underlying t = some (.slice e)) (hi : Try.prog.info? e = some i)
    (v : Value) (n : Nat) (xs : List Value) (hown : w.ownsRow base e size v n xs) :
    (Builtin.append_ #[t, t] ty #[v, .slice none 0 c]).run Try.prog w = .ok v w := by
  rcases hown.2 with ⟨rfl, rfl⟩ | ⟨g, cap, cur, rfl, _, _, hnc, _⟩
  · simp [Builtin.append_, run_underlying ht, sizeOf, typeInfo, hi, Builtin.lenOf, Builtin.firstCells]
  · simp [Builtin.append_, run_underlying ht, sizeOf, typeInfo, hi, Builtin.lenOf, Builtin.firstCells, hnc, storeCells]
/-- append(s, xs...): the second slice came in, nil or not: the operation by itself. -/
theorem wp_appr {K' : Act → World → Prop} (s x : Operand) (t : TypeId) (ho : o.op = .call { callee := .builtin .append, args := #[s, x], argTypes := #[t, t] })
    (base : Nat) (e : TypeId) (bytes : Nat) (z : Value) (ht : Try.prog.underlying t = some (.slice e)) (hi : (Try.prog.info? e).map (fun i => (i.zero, i.size, i.bytes)) = some (some z, K.sz, bytes)) (hzs : z.cells.size = K.sz)
    (v : Value) (l : List α) (hs : a.eval s = v) (hown : K.own e w base v l) (A : Option Addr) (c : Nat) (m : List α) (hx : a.eval x = .slice A m.length c) (hrow : K.row w A m)
    (hlen : l.length + m.length ≤ 1000000) (hby : bytes ≤ 1000) (hbase : base ≤ w.heap.size)
    (h : ∀ v' w', K.own e w' base v' (l ++ m) → w.grownBy w' v.ownBlock → K' (a.put o.dst v') w') : Oper.wp Try.prog o a w K' Q := by
  cases A with
  | none =>
    obtain rfl : m = [] := by
      rcases hrow with h0 | ⟨_, _, hA, _⟩
      · exact h0
      · cases hA
    obtain ⟨i, hi1, hi2, hi3, hi4⟩ := info_parts hi
    have hrun := run_app_none w base t o.type e i K.sz c ht hi1 v l.length _ hown
    unfold Oper.wp
    simp [execOp, ho, resolve, invoke, builtin, hs, hx, hrun, Result.andThen]
    exact h v w (by simpa using hown) (World.grownBy.refl w _)
  | some ad =>
    obtain ⟨i, hi1, hi2, hi3, hi4⟩ := info_parts hi
    rcases hrow with rfl | ⟨b, off, hA, hb, hat⟩
    · refine wp_append_own w s x t ho base e i z K.sz bytes ht hi1 hi2 hi3 hi4 hzs K.pos v l.length _ hs hown ad 0 c [] hx (by simp) (fun j u hu => by simp at hu) (fun u hu => by simp at hu) (by unfold maxLen; simp at hlen; omega)
        (Nat.le_trans (Nat.mul_le_mul hlen hby) (by decide)) hbase fun v' w' h1 h2 _ => h v' w' ?_ h2
      unfold Kn.own
      simpa using h1
    · cases hA
      refine wp_append_own w s x t ho base e i z K.sz bytes ht hi1 hi2 hi3 hi4 hzs K.pos v l.length _ hs hown ⟨b, off, none⟩ m.length c (m.flatMap K.enc) hx (K.flat_len m) (Kn.news_row hat) (K.one_flat m) (by unfold maxLen; omega)
        (Nat.le_trans (Nat.mul_le_mul hlen hby) (by decide)) hbase fun v' w' h1 h2 _ => h v' w' ?_ h2
      unfold Kn.own
      rw [List.flatMap_append, List.length_append]
      exact h1
/-- append(s, xs...): the second slice came in, nil or not. -/
theorem wpL_appr (hgd : o.guard = none) (s x : Operand) (t : TypeId) (ho : o.op = .call { callee := .builtin .append, args := #[s, x], argTypes := #[t, t] })
    (base : Nat) (e : TypeId) (bytes : Nat) (z : Value) (ht : Try.prog.underlying t = some (.slice e)) (hi : (Try.prog.info? e).map (fun i => (i.zero, i.size, i.bytes)) = some (some z, K.sz, bytes)) (hzs : z.cells.size = K.sz)
    (v : Value) (l : List α) (hs : a.eval s = v) (hown : K.own e w base v l) (A : Option Addr) (c : Nat) (m : List α) (hx : a.eval x = .slice A m.length c) (hrow : K.row w A m)
    (hlen : l.length + m.length ≤ 1000000) (hby : bytes ≤ 1000) (hbase : base ≤ w.heap.size)
    (h : ∀ v' w', K.own e w' base v' (l ++ m) → w.grownBy w' v.ownBlock → wpList Try.prog ops Q rest (a.put o.dst v') w') : wpList Try.prog ops Q (o :: rest) a w :=
  wpList_plain hgd fun _ hK => wp_appr K w s x t ho base e bytes z ht hi hzs v l hs hown A c m hx hrow hlen hby hbase fun v' w' h1 h2 => hK _ _ (h v' w' h1 h2)
/-- The same, as a step of a region that draws. -/
theorem step_appr {K' : Act → World → Prop} {E : Prop} {dops : Array Oper} (hgd : o.guard = none) (s x : Operand) (t : TypeId) (ho : o.op = .call { callee := .builtin .append, args := #[s, x], argTypes := #[t, t] })
    (base : Nat) (e : TypeId) (bytes : Nat) (z : Value) (ht : Try.prog.underlying t = some (.slice e)) (hi : (Try.prog.info? e).map (fun i => (i.zero, i.size, i.bytes)) = some (some z, K.sz, bytes)) (hzs : z.cells.size = K.sz)
    (v : Value) (l : List α) (hs : a.eval s = v) (hown : K.own e w base v l) (A : Option Addr) (c : Nat) (m : List α) (hx : a.eval x = .slice A m.length c) (hrow : K.row w A m)
    (hlen : l.length + m.length ≤ 1000000) (hby : bytes ≤ 1000) (hbase : base ≤ w.heap.size)
    (h : ∀ v' w', K.own e w' base v' (l ++ m) → w.grownBy w' v.ownBlock → K' (a.put o.dst v') w') : if Region.wanted o (yielded dops a.tmps) = true then Oper.wp Try.prog o a w K' Q else E := by
  have hw : Region.wanted o (yielded dops a.tmps) = true := by simp [Region.wanted, hgd]
  rw [if_pos hw]
  exact wp_appr K w s x t ho base e bytes z ht hi hzs v l hs hown A c m hx hrow hlen hby hbase h
end

end Go.Proofs.Ytlfhjlkhhaoicaa
