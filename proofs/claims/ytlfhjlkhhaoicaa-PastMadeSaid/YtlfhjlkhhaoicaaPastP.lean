/- Pasts, in plain Lean: what is right, ordered, how high one more is, and what replicas make. -/
import Derived.Test.YtlfhjlkhhaoicaaDrainL
namespace Go.Proofs.Ytlfhjlkhhaoicaa
set_option linter.unusedVariables false
set_option linter.unusedSimpArgs false

def keyAnn : ByteArray := ⟨#[97, 110, 110]⟩
def keyBob : ByteArray := ⟨#[98, 111, 98]⟩
def keyCy : ByteArray := ⟨#[99, 121]⟩
/-- An event's edit is one that may be, of one of three keys. -/
structure edOk (k : Int) (key : ByteArray) (lab : Int) (val : ByteArray) : Prop where
  k1 : 1 ≤ k
  k5 : k ≤ 5
  key : key = keyAnn ∨ key = keyBob ∨ key = keyCy
  low : k ≤ 2 → lab = 0 ∧ val = ByteArray.empty
  high : 2 < k → (0 ≤ lab ∧ lab ≤ 1) ∧ 1 ≤ val.size ∧ val.size ≤ 12
def Ev.ed (e : Ev) : Prop := edOk e.k e.key e.lab e.val
/-- An event whose numbers may be. -/
structure May (e : Ev) : Prop where
  r0 : 0 ≤ e.r
  r5 : e.r < 5
  n1 : 1 ≤ e.n
  nm : e.n ≤ 1048576
  own : e.c.get e.r.toNat = e.n - 1
  h1 : 1 ≤ e.h
  hm : e.h ≤ 16777216
  c0 : ∀ i, i < 5 → 0 ≤ e.c.get i
  cm : ∀ i, i < 5 → e.c.get i ≤ 1048576
noncomputable def pB (p : Prop) : Bool := @decide p (Classical.propDecidable p)
theorem pB_true {p : Prop} (h : p) : pB p = true := by unfold pB; exact @decide_eq_true p (Classical.propDecidable p) h
theorem pB_false {p : Prop} (h : ¬ p) : pB p = false := by unfold pB; exact @decide_eq_false p (Classical.propDecidable p) h
theorem pB_iff {p : Prop} : pB p = true ↔ p := by unfold pB; exact @decide_eq_true_iff p (Classical.propDecidable p)

/-- How high one more is. -/
structure isHeight (l : List Ev) (c : Ck) (h : Int) : Prop where
  up : ∀ e ∈ l, hasB c e.r e.n = true → e.h + 1 ≤ h
  eq : (h = 1 ∧ ∀ e ∈ l, hasB c e.r e.n = false) ∨ ∃ e ∈ l, hasB c e.r e.n = true ∧ h = e.h + 1
theorem isHeight.uniq {l : List Ev} {c : Ck} {h h' : Int} (a : isHeight l c h) (b : isHeight l c h') : h = h' := by
  rcases a.eq with ⟨rfl, ha⟩ | ⟨e, he, hb, rfl⟩
  · rcases b.eq with ⟨rfl, _⟩ | ⟨e, he, hb, rfl⟩
    · rfl
    · rw [ha e he] at hb; simp at hb
  · rcases b.eq with ⟨rfl, hb'⟩ | ⟨e', he', hb', rfl⟩
    · rw [hb' e he] at hb; simp at hb
    · have h1 := a.up e' he' hb'
      have h2 := b.up e he hb
      omega
theorem isHeight.of_mem {l l' : List Ev} {c : Ck} {h : Int} (a : isHeight l c h) (hm : ∀ e, hasB c e.r e.n = true → (e ∈ l ↔ e ∈ l')) : isHeight l' c h := by
  refine ⟨fun e he hb => a.up e ((hm e hb).2 he) hb, ?_⟩
  rcases a.eq with ⟨rfl, ha⟩ | ⟨e, he, hb, rfl⟩
  · refine .inl ⟨rfl, fun e he => ?_⟩
    cases hx : hasB c e.r e.n with
    | false => rfl
    | true => have := ha e ((hm e hx).2 he); rw [hx] at this; simp at this
  · exact .inr ⟨e, (hm e hb).1 he, hb, rfl⟩
def marked (l : List Ev) (r n : Int) : Prop := ∃ x ∈ l, x.r = r ∧ x.n = n
theorem few_of {l : List Ev} {i : Int} {n : Nat} (h : ∀ k : Int, 1 ≤ k → k ≤ n → marked l i k) : n ≤ l.length := by
  have hn : ((List.range n).map fun k : Nat => (⟨i, (k : Int) + 1⟩ : Mk)).Nodup := by
    rw [List.nodup_iff_pairwise_ne, List.pairwise_map]
    refine (List.nodup_iff_pairwise_ne.1 List.nodup_range).imp fun {a b} hab hc => ?_
    simp only [Mk.mk.injEq, true_and] at hc
    omega
  have hs : ((List.range n).map fun k : Nat => (⟨i, (k : Int) + 1⟩ : Mk)) ⊆ l.map Ev.mk' := fun m hm => by
    obtain ⟨k, hk, rfl⟩ := List.mem_map.1 hm
    have hk' := List.mem_range.1 hk
    obtain ⟨x, hx, h1, h2⟩ := h ((k : Int) + 1) (by omega) (by omega)
    exact List.mem_map.2 ⟨x, hx, by unfold Ev.mk'; rw [h1, h2]⟩
  simpa using hn.length_le_of_subset hs
theorem mk_uniq {l : List Ev} (hn : (l.map Ev.mk').Nodup) {x y : Ev} (hx : x ∈ l) (hy : y ∈ l) (hr : x.r = y.r) (hk : x.n = y.n) : x = y := by
  induction l with
  | nil => simp at hx
  | cons a l ih =>
    simp only [List.map_cons, List.nodup_cons] at hn
    have key : ∀ z ∈ l, z.r = a.r → z.n = a.n → False := fun z hz h1 h2 => hn.1 (List.mem_map.2 ⟨z, hz, by unfold Ev.mk'; rw [h1, h2]⟩)
    rcases List.mem_cons.1 hx with hxa | hx'
    · rcases List.mem_cons.1 hy with hya | hy'
      · rw [hxa, hya]
      · exact (key y hy' (by rw [← hr, hxa]) (by rw [← hk, hxa])).elim
    · rcases List.mem_cons.1 hy with hya | hy'
      · exact (key x hx' (by rw [hr, hya]) (by rw [hk, hya])).elim
      · exact ih hn.2 hx' hy'
/-- A right past. -/
structure rightP (l : List Ev) : Prop where
  nodup : (l.map Ev.mk').Nodup
  may : ∀ e ∈ l, May e
  height : ∀ e ∈ l, isHeight l e.c e.h
  few : ∀ e ∈ l, ∀ i : Nat, i < 5 → e.c.get i ≤ (l.length : Int)
  down : ∀ e ∈ l, ∀ r n, hasB e.c r n = true → ∃ x ∈ l, x.r = r ∧ x.n = n ∧ leB x.c e.c = true
/-- A past in order. -/
def orderedP (l : List Ev) : Prop := ∀ l1 e l2, l = l1 ++ e :: l2 → (∀ i : Nat, i < 5 → e.c.get i ≤ (l.length : Int)) ∧ ∀ r n, hasB e.c r n = true → marked l1 r n
/-- What is there of each replica. -/
def isClock (l : List Ev) (c : Ck) : Prop := ∀ i : Nat, i < 5 → 0 ≤ c.get i ∧ (∀ k : Int, 1 ≤ k → k ≤ c.get i → marked l i k) ∧ ¬ marked l i (c.get i + 1)
theorem isClock.le {l l' : List Ev} {c c' : Ck} (h : isClock l c) (h' : isClock l' c') (hm : ∀ r n, marked l r n → marked l' r n) : leB c c' = true := leB_iff.2 fun i hi => by
  obtain ⟨h0, h1, h2⟩ := h i hi
  obtain ⟨g0, g1, g2⟩ := h' i hi
  by_cases hc : c.get i ≤ c'.get i
  · exact hc
  · exact absurd (hm _ _ (h1 (c'.get i + 1) (by omega) (by omega))) g2
theorem leB_antisymm {a b : Ck} (h : leB a b = true) (h' : leB b a = true) : a = b := Ck.ext' fun i hi => by
  have := leB_iff.1 h i hi
  have := leB_iff.1 h' i hi
  omega
theorem isClock.uniq {l : List Ev} {c c' : Ck} (h : isClock l c) (h' : isClock l c') : c = c' := leB_antisymm (h.le h' fun _ _ x => x) (h'.le h fun _ _ x => x)
theorem isClock.mem {l l' : List Ev} {c : Ck} (h : isClock l c) (hm : ∀ e, e ∈ l ↔ e ∈ l') : isClock l' c := fun i hi => by
  obtain ⟨h0, h1, h2⟩ := h i hi
  exact ⟨h0, fun k a b => by obtain ⟨x, hx, y⟩ := h1 k a b; exact ⟨x, (hm x).1 hx, y⟩, fun ⟨x, hx, y⟩ => h2 ⟨x, (hm x).2 hx, y⟩⟩
theorem rightP.perm {l l' : List Ev} (h : rightP l) (hp : l.Perm l') : rightP l' := by
  refine ⟨(hp.map _).nodup_iff.1 h.nodup, fun e he => h.may e (hp.mem_iff.2 he), fun e he => (h.height e (hp.mem_iff.2 he)).of_mem fun _ _ => hp.mem_iff, fun e he i hi => ?_, fun e he r n hb => ?_⟩
  · rw [← hp.length_eq]; exact h.few e (hp.mem_iff.2 he) i hi
  · obtain ⟨x, hx, y⟩ := h.down e (hp.mem_iff.2 he) r n hb
    exact ⟨x, hp.mem_iff.1 hx, y⟩

/-- A past as replicas make it: right, and in order. -/
structure Past (l : List Ev) : Prop where
  nodup : (l.map Ev.mk').Nodup
  may : ∀ e ∈ l, May e
  ed : ∀ e ∈ l, e.ed
  height : ∀ e ∈ l, isHeight l e.c e.h
  pre : ∀ l1 e l2, l = l1 ++ e :: l2 → ∀ r n, hasB e.c r n = true → ∃ x ∈ l1, x.r = r ∧ x.n = n ∧ leB x.c e.c = true
section
variable {l : List Ev}
theorem Past.nil : Past [] := ⟨by simp, by simp, by simp, by simp, fun l1 e l2 h => by simp at h⟩
theorem Past.down (h : Past l) {e : Ev} (he : e ∈ l) {r n : Int} (hb : hasB e.c r n = true) : ∃ x ∈ l, x.r = r ∧ x.n = n ∧ leB x.c e.c = true := by
  obtain ⟨l1, l2, rfl⟩ := List.append_of_mem he
  obtain ⟨x, hx, y⟩ := h.pre l1 e l2 rfl r n hb
  exact ⟨x, List.mem_append_left _ hx, y⟩
theorem has_mk {c : Ck} {i : Nat} (hi : i < 5) {k : Int} (h1 : 1 ≤ k) (h2 : k ≤ c.get i) : hasB c i k = true := hasB_iff.2 ⟨by omega, by omega, h1, by simpa using h2⟩
theorem Past.few (h : Past l) {e : Ev} (he : e ∈ l) {i : Nat} (hi : i < 5) : e.c.get i ≤ l.length := by
  have h0 := (h.may e he).c0 i hi
  have := few_of (l := l) (i := i) (n := (e.c.get i).toNat) fun k h1 h2 => by
    obtain ⟨x, hx, a, b, _⟩ := h.down he (has_mk (c := e.c) hi h1 (by omega))
    exact ⟨x, hx, a, b⟩
  omega
theorem Past.right (h : Past l) : rightP l := ⟨h.nodup, h.may, h.height, fun e he i hi => h.few he hi, fun e he r n hb => h.down he hb⟩
theorem Past.ordered (h : Past l) : orderedP l := fun l1 e l2 hl => by
  refine ⟨fun i hi => h.few (by rw [hl]; simp) hi, fun r n hb => ?_⟩
  obtain ⟨x, hx, a, b, _⟩ := h.pre l1 e l2 hl r n hb
  exact ⟨x, hx, a, b⟩
theorem Past.mk_all (h : Past l) {e : Ev} (he : e ∈ l) {k : Int} (h1 : 1 ≤ k) (h2 : k ≤ e.n) : marked l e.r k := by
  by_cases hk : k = e.n
  · subst hk; exact ⟨e, he, rfl, rfl⟩
  · have hm := h.may e he
    obtain ⟨x, hx, a, b, _⟩ := h.down he (r := e.r) (n := k) (hasB_iff.2 ⟨hm.r0, hm.r5, h1, by rw [hm.own]; omega⟩)
    exact ⟨x, hx, a, b⟩
/-- Whoever is in a past was seen by its clock. -/
theorem Past.clock_has (h : Past l) {c : Ck} (hc : isClock l c) {e : Ev} (he : e ∈ l) : hasB c e.r e.n = true := by
  have hm := h.may e he
  have hi : e.r.toNat < 5 := by have := hm.r0; have := hm.r5; omega
  obtain ⟨h0, h1, h2⟩ := hc e.r.toNat hi
  have hr : ((e.r.toNat : Nat) : Int) = e.r := by have := hm.r0; omega
  rw [hr] at h2
  rw [hasB_iff]
  refine ⟨hm.r0, hm.r5, hm.n1, ?_⟩
  by_cases hx : e.n ≤ c.get e.r.toNat
  · exact hx
  · exact absurd (h.mk_all he (k := c.get e.r.toNat + 1) (by omega) (by omega)) h2
theorem clock_of {c : Ck} (hc : isClock l c) {r n : Int} (hb : hasB c r n = true) : marked l r n := by
  obtain ⟨h0, h1, h2, h3⟩ := hasB_iff.1 hb
  obtain ⟨_, g, _⟩ := hc r.toNat (by omega)
  have hr : ((r.toNat : Nat) : Int) = r := by omega
  rw [hr] at g
  exact g n h2 h3
theorem Past.clock_le (h : Past l) {c : Ck} (hc : isClock l c) {e : Ev} (he : e ∈ l) : leB e.c c = true := leB_iff.2 fun i hi => by
  by_cases hp : 1 ≤ e.c.get i
  · obtain ⟨x, hx, a, b, _⟩ := h.down he (has_mk (c := e.c) hi hp (Int.le_refl _))
    have := hasB_iff.1 (h.clock_has hc hx)
    rw [a, b] at this
    simpa using this.2.2.2
  · have := (hc i hi).1
    omega
/-- What is closed downward of a past is one. -/
theorem Past.sub (h : Past l) {l' : List Ev} (hs : l'.Sublist l) (hd : ∀ e ∈ l', ∀ x ∈ l, hasB e.c x.r x.n = true → x ∈ l') : Past l' := by
  refine ⟨(hs.map _).nodup h.nodup, fun e he => h.may e (hs.subset he), fun e he => h.ed e (hs.subset he), fun e he => ?_, fun l1 e l2 hl r n hb => ?_⟩
  · exact (h.height e (hs.subset he)).of_mem fun x hx => ⟨fun hm => hd e he x hm hx, fun hm => hs.subset hm⟩
  · subst hl
    obtain ⟨r1, r2, hr, hs1, hs2⟩ := List.append_sublist_iff.1 hs
    obtain ⟨s1, s2, hs', he1, hs3⟩ : ∃ s1 s2, r2 = s1 ++ e :: s2 ∧ True ∧ l2.Sublist s2 := by
      clear hr hd hs h
      induction r2 with
      | nil => simp at hs2
      | cons a t ih =>
        rcases List.sublist_cons_iff.1 hs2 with h1 | ⟨u, h1, h2⟩
        · obtain ⟨s1, s2, e1, _, e2⟩ := ih h1
          exact ⟨a :: s1, s2, by rw [e1]; rfl, trivial, e2⟩
        · simp only [List.cons.injEq] at h1
          obtain ⟨rfl, rfl⟩ := h1
          exact ⟨[], t, rfl, trivial, h2⟩
    subst hs'
    have hl : l = (r1 ++ s1) ++ e :: s2 := by rw [hr]; simp
    obtain ⟨x, hx, a, b, c⟩ := h.pre _ e s2 hl r n hb
    have hxl : x ∈ l := by rw [hl]; exact List.mem_append_left _ hx
    have hx' := hd e (by simp) x hxl (by rw [a, b]; exact hb)
    refine ⟨x, ?_, a, b, c⟩
    have hn := h.nodup
    rw [hl, List.map_append, List.nodup_append] at hn
    rcases List.mem_append.1 hx' with hx' | hx'
    · exact hx'
    · exfalso
      refine hn.2.2 x.mk' (List.mem_map.2 ⟨x, hx, rfl⟩) x.mk' (List.mem_map.2 ⟨x, ?_, rfl⟩) rfl
      rcases List.mem_cons.1 hx' with rfl | hx'
      · simp
      · exact List.mem_cons_of_mem _ (hs3.subset hx')
theorem Past.take (h : Past l) (k : Nat) : Past (l.take k) := by
  refine h.sub (List.take_sublist _ _) fun e he x hx hb => ?_
  obtain ⟨l1, l2, hl⟩ := List.append_of_mem he
  have hl' : l = l1 ++ e :: (l2 ++ l.drop k) := by
    conv => lhs; rw [← List.take_append_drop k l, hl]
    simp
  obtain ⟨y, hy, a, b, _⟩ := h.pre _ _ _ hl' x.r x.n hb
  have : y = x := mk_uniq h.nodup (by rw [hl']; exact List.mem_append_left _ hy) hx a b
  subst this
  rw [hl]
  exact List.mem_append_left _ hy
end

/-! What replicas do. -/
def upd (H : Nat → Ck) (r : Nat) (c : Ck) : Nat → Ck := fun q => if q = r then c else H q
theorem upd_same (H : Nat → Ck) (r : Nat) (c : Ck) : upd H r c r = c := if_pos rfl
theorem upd_ne (H : Nat → Ck) {r q : Nat} (c : Ck) (h : q ≠ r) : upd H r c q = H q := if_neg h
structure PInv (l : List Ev) (H : Nat → Ck) : Prop where
  past : Past l
  nn : ∀ q, q < 5 → ∀ i, i < 5 → 0 ≤ (H q).get i
  kn : ∀ q, q < 5 → ∀ r n, hasB (H q) r n = true → ∃ x ∈ l, x.r = r ∧ x.n = n ∧ leB x.c (H q) = true
  top : ∀ e ∈ l, e.n ≤ (H e.r.toNat).get e.r.toNat
  hl : ∀ e ∈ l, e.h ≤ l.length
theorem PInv.start : PInv [] (fun _ => Ck.zero) := by
  refine ⟨Past.nil, fun q _ i hi => ?_, fun q _ r n hb => ?_, by simp, by simp⟩
  · rcases lt5 hi with rfl | rfl | rfl | rfl | rfl <;> decide
  · obtain ⟨h0, h1, h2, h3⟩ := hasB_iff.1 hb
    have : Ck.zero.get r.toNat = 0 := by rcases lt5 (show r.toNat < 5 by omega) with h | h | h | h | h <;> rw [h] <;> rfl
    omega
theorem joinC_has {a b : Ck} {r n : Int} (h : hasB (joinC a b) r n = true) : hasB a r n = true ∨ hasB b r n = true := by
  obtain ⟨h0, h1, h2, h3⟩ := hasB_iff.1 h
  rw [joinC_get (by omega)] at h3
  rcases Int.le_total (a.get r.toNat) (b.get r.toNat) with hx | hx
  · exact .inr (hasB_iff.2 ⟨h0, h1, h2, by omega⟩)
  · exact .inl (hasB_iff.2 ⟨h0, h1, h2, by omega⟩)
theorem joinC_l {a b : Ck} : leB a (joinC a b) = true := leB_iff.2 fun i hi => by rw [joinC_get hi]; omega
theorem joinC_r {a b : Ck} : leB b (joinC a b) = true := leB_iff.2 fun i hi => by rw [joinC_get hi]; omega
theorem PInv.sync {l : List Ev} {H : Nat → Ck} (h : PInv l H) {r f : Nat} (hr : r < 5) (hf : f < 5) : PInv l (upd H r (joinC (H r) (H f))) := by
  refine ⟨h.past, fun q hq i hi => ?_, fun q hq r' n hb => ?_, fun e he => ?_, h.hl⟩
  · by_cases e : q = r
    · subst e; rw [upd_same, joinC_get hi]; have := h.nn q hq i hi; omega
    · rw [upd_ne _ _ e]; exact h.nn q hq i hi
  · by_cases e : q = r
    · subst e
      rw [upd_same] at hb ⊢
      rcases joinC_has hb with hb | hb
      · obtain ⟨x, hx, a, b, c⟩ := h.kn q hq r' n hb
        exact ⟨x, hx, a, b, leB_trans c joinC_l⟩
      · obtain ⟨x, hx, a, b, c⟩ := h.kn f hf r' n hb
        exact ⟨x, hx, a, b, leB_trans c joinC_r⟩
    · rw [upd_ne _ _ e] at hb ⊢; exact h.kn q hq r' n hb
  · have ht := h.top e he
    by_cases e1 : e.r.toNat = r
    · rw [e1] at ht ⊢
      rw [upd_same, joinC_get hr]
      omega
    · rw [upd_ne _ _ e1]; exact ht
theorem PInv.few {l : List Ev} {H : Nat → Ck} (h : PInv l H) {q i : Nat} (hq : q < 5) (hi : i < 5) : (H q).get i ≤ l.length := by
  have h0 := h.nn q hq i hi
  have := few_of (l := l) (i := i) (n := ((H q).get i).toNat) fun k h1 h2 => by
    obtain ⟨x, hx, a, b, _⟩ := h.kn q hq i k (has_mk hi h1 (by omega))
    exact ⟨x, hx, a, b⟩
  omega
theorem isHeight.le_len {l : List Ev} {c : Ck} {hh : Int} (h : isHeight l c hh) (hl : ∀ e ∈ l, e.h ≤ l.length) (h1 : ∀ e ∈ l, 1 ≤ e.h) : 1 ≤ hh ∧ hh ≤ l.length + 1 := by
  rcases h.eq with ⟨rfl, _⟩ | ⟨e, he, _, rfl⟩
  · omega
  · have := hl e he; have := h1 e he; omega
theorem PInv.edit {l : List Ev} {H : Nat → Ck} (h : PInv l H) {r : Nat} (hr : r < 5) {e : Ev} (er : e.r = r) (en : e.n = (H r).get r + 1) (ec : e.c = H r) (eh : isHeight l (H r) e.h) (ed : e.ed) (hlen : l.length ≤ 1000) :
    PInv (l ++ [e]) (upd H r ((H r).set r e.n)) := by
  have hfew := fun {q i : Nat} (hq : q < 5) (hi : i < 5) => h.few hq hi
  have h0 := h.nn r hr r hr
  have hnew : ∀ x ∈ l, x.r = e.r → x.n = e.n → False := fun x hx a b => by
    have ht := h.top x hx
    have : x.r.toNat = r := by omega
    rw [this] at ht
    omega
  have hnb : hasB e.c e.r e.n = false := by
    rw [Bool.eq_false_iff, ne_eq, hasB_iff, ec, en]
    rintro ⟨_, _, _, h3⟩
    have : e.r.toNat = r := by omega
    rw [this] at h3
    omega
  have hhl := eh.le_len h.hl fun x hx => (h.past.may x hx).h1
  have hle : leB (H r) ((H r).set r e.n) = true := leB_iff.2 fun i hi => by
    by_cases e1 : i = r
    · subst e1; rw [Ck.get_set_same _ hi]; omega
    · rw [Ck.get_set_ne _ (Ne.symm e1)]; exact Int.le_refl _
  refine ⟨⟨?_, ?_, ?_, ?_, ?_⟩, ?_, ?_, ?_, ?_⟩
  · rw [List.map_append, List.nodup_append]
    refine ⟨h.past.nodup, by simp, fun m hm m' hm' hc => ?_⟩
    obtain ⟨x, hx, rfl⟩ := List.mem_map.1 hm
    simp at hm'
    subst hm'
    simp only [Ev.mk', Mk.mk.injEq] at hc
    exact hnew x hx hc.1 hc.2
  · intro x hx
    rcases List.mem_append.1 hx with hx | hx
    · exact h.past.may x hx
    · simp at hx; subst hx
      have h5 := hfew hr hr
      refine ⟨by omega, by omega, by omega, by omega, ?_, hhl.1, by omega, fun i hi => by rw [ec]; exact h.nn r hr i hi, fun i hi => by rw [ec]; have := hfew hr hi; omega⟩
      have : x.r.toNat = r := by omega
      rw [this, ec]
      omega
  · intro x hx
    rcases List.mem_append.1 hx with hx | hx
    · exact h.past.ed x hx
    · simp at hx; subst hx; exact ed
  · intro x hx
    rcases List.mem_append.1 hx with hx1 | hx1
    · refine (h.past.height x hx1).of_mem fun y hy => ?_
      rw [List.mem_append]
      refine ⟨fun a => .inl a, fun a => a.resolve_right fun a => ?_⟩
      have ye : y = e := by simpa using a
      rw [ye] at hy
      obtain ⟨z, hz, a, b, _⟩ := h.past.down hx1 hy
      exact hnew z hz a b
    · have xe : x = e := by simpa using hx1
      rw [xe, ec]
      refine eh.of_mem fun y hy => ?_
      rw [List.mem_append]
      refine ⟨fun a => .inl a, fun a => a.resolve_right fun a => ?_⟩
      have ye : y = e := by simpa using a
      rw [ye, ← ec, hnb] at hy
      simp at hy
  · intro l1 x l2 hl r' n hb
    rcases List.eq_nil_or_concat l2 with rfl | ⟨l3, z, rfl⟩
    · obtain ⟨rfl, hx⟩ := List.append_inj' hl rfl
      simp at hx; subst hx
      rw [ec] at hb ⊢
      exact h.kn r hr r' n hb
    · have : l ++ [e] = (l1 ++ x :: l3) ++ [z] := by rw [hl]; simp
      obtain ⟨rfl, _⟩ := List.append_inj' this rfl
      exact h.past.pre l1 x l3 rfl r' n hb
  · intro q hq i hi
    by_cases e1 : q = r
    · subst e1; rw [upd_same]
      have := leB_iff.1 hle i hi
      have := h.nn q hq i hi
      omega
    · rw [upd_ne _ _ e1]; exact h.nn q hq i hi
  · intro q hq r' n hb
    by_cases e1 : q = r
    · subst e1
      rw [upd_same] at hb ⊢
      by_cases e2 : r' = e.r ∧ n = e.n
      · exact ⟨e, by simp, e2.1.symm, e2.2.symm, by rw [ec]; exact hle⟩
      · have hb' : hasB (H q) r' n = true := by
          obtain ⟨g0, g1, g2, g3⟩ := hasB_iff.1 hb
          rw [hasB_iff]
          refine ⟨g0, g1, g2, ?_⟩
          by_cases e3 : r'.toNat = q
          · rw [e3, Ck.get_set_same _ hq] at g3
            rw [e3]
            have : r' = e.r := by omega
            have : n ≠ e.n := fun hc => e2 ⟨this, hc⟩
            omega
          · rw [Ck.get_set_ne _ (fun x => e3 x.symm)] at g3
            exact g3
        obtain ⟨x, hx, a, b, c⟩ := h.kn q hq r' n hb'
        exact ⟨x, List.mem_append_left _ hx, a, b, leB_trans c hle⟩
    · rw [upd_ne _ _ e1] at hb ⊢
      obtain ⟨x, hx, a, b, c⟩ := h.kn q hq r' n hb
      exact ⟨x, List.mem_append_left _ hx, a, b, c⟩
  · intro x hx
    rcases List.mem_append.1 hx with hx | hx
    · have ht := h.top x hx
      by_cases e1 : x.r.toNat = r
      · rw [e1] at ht ⊢
        rw [upd_same, Ck.get_set_same _ hr]
        omega
      · rw [upd_ne _ _ e1]; exact ht
    · simp at hx; subst hx
      have : x.r.toNat = r := by omega
      rw [this, upd_same, Ck.get_set_same _ hr]
      exact Int.le_refl _
  · intro x hx
    rw [List.length_append]
    rcases List.mem_append.1 hx with hx | hx
    · have := h.hl x hx; simp; omega
    · simp at hx; subst hx; simp; omega
end Go.Proofs.Ytlfhjlkhhaoicaa
