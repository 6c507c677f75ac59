/- The stable sort by stamps, in plain Lean. -/
import Derived.Test.YtlfhjlkhhaoicaaPastR
namespace Go.Proofs.Ytlfhjlkhhaoicaa
set_option linter.unusedVariables false
set_option linter.unusedSimpArgs false
/-- Is it earlier? -/
def ltE (a b : Ev) : Prop := a.h < b.h ∨ (a.h = b.h ∧ a.r < b.r)
instance : DecidableRel ltE := fun a b => by unfold ltE; exact inferInstance
def leE (a b : Ev) : Prop := ¬ ltE b a
def keyE (a b : Ev) : Bool := decide (a.h = b.h ∧ a.r = b.r)
theorem leE_trans {a b c : Ev} (h : leE a b) (h' : leE b c) : leE a c := by unfold leE ltE at *; omega
theorem leE_refl (a : Ev) : leE a a := by unfold leE ltE; omega
theorem ltE_le {a b : Ev} (h : ltE a b) : leE a b := by unfold leE ltE at *; omega
theorem ltE_trans_le {a b c : Ev} (h : ltE a b) (h' : leE b c) : ltE a c := by unfold leE ltE at *; omega
theorem leE_trans_lt {a b c : Ev} (h : leE a b) (h' : ltE b c) : ltE a c := by unfold leE ltE at *; omega
theorem keyE_iff {a b : Ev} : keyE a b = true ↔ a.h = b.h ∧ a.r = b.r := by unfold keyE; exact decide_eq_true_iff
theorem leE_antisymm {a b : Ev} (h : leE a b) (h' : leE b a) : keyE a b = true := by rw [keyE_iff]; unfold leE ltE at *; omega
theorem leE_total (a b : Ev) : leE a b ∨ ltE b a := by unfold leE; exact (Classical.em (ltE b a)).symm
abbrev Srt (l : List Ev) : Prop := l.Pairwise leE
/-- The same events, and equals in the same order. -/
structure Stb (l m : List Ev) : Prop where
  perm : l.Perm m
  keys : ∀ x, l.filter (keyE x) = m.filter (keyE x)
theorem Stb.refl (l : List Ev) : Stb l l := ⟨List.Perm.refl l, fun _ => rfl⟩
theorem Stb.trans {l m n : List Ev} (h : Stb l m) (h' : Stb m n) : Stb l n := ⟨h.perm.trans h'.perm, fun x => (h.keys x).trans (h'.keys x)⟩
theorem Stb.append {l m l' m' : List Ev} (h : Stb l m) (h' : Stb l' m') : Stb (l ++ l') (m ++ m') := ⟨h.perm.append h'.perm, fun x => by rw [List.filter_append, List.filter_append, h.keys, h'.keys]⟩
theorem Stb.swap {X Y : List Ev} (h : ∀ x ∈ X, ∀ y ∈ Y, ltE y x) : Stb (X ++ Y) (Y ++ X) := by
  refine ⟨List.perm_append_comm, fun z => ?_⟩
  rw [List.filter_append, List.filter_append]
  have : X.filter (keyE z) = [] ∨ Y.filter (keyE z) = [] := by
    rcases Classical.em (X.filter (keyE z) = []) with hx | hx
    · exact .inl hx
    · right
      rw [List.filter_eq_nil_iff]
      intro y hy hk
      obtain ⟨x, hx'⟩ := List.exists_mem_of_ne_nil _ hx
      obtain ⟨hxm, hxk⟩ := List.mem_filter.1 hx'
      have hlt := h x hxm y hy
      rw [keyE_iff] at hk hxk
      unfold ltE at hlt
      omega
  rcases this with h | h <;> rw [h] <;> simp
theorem Stb.one {x : Ev} {Y : List Ev} (h : ∀ y ∈ Y, ltE x y) : Stb (Y ++ [x]) (x :: Y) := Stb.swap (X := Y) (Y := [x]) fun a ha b hb => by simp at hb; subst hb; exact h a ha
/-- Sorted rows of the same events, equals in the same order, are one. -/
theorem Stb.uniq : ∀ {l m : List Ev}, Stb l m → Srt l → Srt m → l = m
  | [], m, h, _, _ => (h.perm.nil_eq)
  | x :: l, [], h, _, _ => by have := h.perm.length_eq; simp at this
  | x :: l, y :: m, h, hl, hm => by
    rw [Srt, List.pairwise_cons] at hl hm
    have hxy : keyE x y = true := by
      have h1 : leE x y := by
        rcases List.mem_cons.1 (h.perm.mem_iff.2 (List.mem_cons_self (a := y) (l := m))) with e | e
        · rw [e]; exact leE_refl x
        · exact hl.1 y e
      have h2 : leE y x := by
        rcases List.mem_cons.1 (h.perm.mem_iff.1 (List.mem_cons_self (a := x) (l := l))) with e | e
        · rw [e]; exact leE_refl y
        · exact hm.1 x e
      exact leE_antisymm h1 h2
    have hk := h.keys x
    have hxx : keyE x x = true := by rw [keyE_iff]; exact ⟨rfl, rfl⟩
    rw [List.filter_cons_of_pos hxx, List.filter_cons_of_pos hxy] at hk
    obtain ⟨rfl, _⟩ := List.cons.inj hk
    have : Stb l m := ⟨h.perm.cons_inv, fun z => by
      have hz := h.keys z
      cases hb : keyE z x with
      | true => rw [List.filter_cons_of_pos hb, List.filter_cons_of_pos hb] at hz; exact (List.cons.inj hz).2
      | false => rw [List.filter_cons_of_neg (by simp [hb]), List.filter_cons_of_neg (by simp [hb])] at hz; exact hz⟩
    rw [Stb.uniq this hl.2 hm.2]
/-- No two have one key: any order of the same events keeps equals in order. -/
def Keyed (l : List Ev) : Prop := ∀ x ∈ l, ∀ y ∈ l, keyE x y = true → x = y
theorem Stb.of_perm {l m : List Ev} (h : l.Perm m) (hn : l.Nodup) (hk : Keyed l) : Stb l m := by
  refine ⟨h, fun z => ?_⟩
  have hp := h.filter (keyE z)
  have h1 : (l.filter (keyE z)).length ≤ 1 := by
    have hnd : (l.filter (keyE z)).Nodup := hn.filter _
    match hf : l.filter (keyE z) with
    | [] => simp
    | [a] => simp
    | a :: b :: r =>
      exfalso
      rw [hf] at hnd
      have ha : a ∈ l.filter (keyE z) := by rw [hf]; simp
      have hb : b ∈ l.filter (keyE z) := by rw [hf]; simp
      obtain ⟨ha1, ha2⟩ := List.mem_filter.1 ha
      obtain ⟨hb1, hb2⟩ := List.mem_filter.1 hb
      rw [keyE_iff] at ha2 hb2
      have := hk a ha1 b hb1 (keyE_iff.2 (by omega))
      subst this
      rw [List.nodup_cons] at hnd
      exact hnd.1 (by simp)
  match hf : l.filter (keyE z) with
  | [] => rw [hf] at hp; rw [hp.nil_eq]
  | [a] => rw [hf] at hp; exact List.singleton_perm.1 hp
  | a :: b :: r => rw [hf] at h1; simp at h1
theorem Srt.append {l m : List Ev} : Srt (l ++ m) ↔ Srt l ∧ Srt m ∧ ∀ x ∈ l, ∀ y ∈ m, leE x y := List.pairwise_append
end Go.Proofs.Ytlfhjlkhhaoicaa

namespace Go.Proofs.Ytlfhjlkhhaoicaa
set_option linter.unusedVariables false
set_option linter.unusedSimpArgs false
/-! Insertion: x stands between L1 and L2, all of which are later. -/
theorem ins_stop {L1 L2 : List Ev} {x : Ev} (hs : Srt (L1 ++ L2)) (hx : ∀ y ∈ L2, ltE x y) (h : ∀ y, L1.getLast? = some y → leE y x) : Srt (L1 ++ x :: L2) := by
  rw [Srt.append] at hs
  obtain ⟨h1, h2, h3⟩ := hs
  refine Srt.append.2 ⟨h1, List.pairwise_cons.2 ⟨fun y hy => ltE_le (hx y hy), h2⟩, fun y hy z hz => ?_⟩
  rcases List.mem_cons.1 hz with rfl | hz
  · rcases List.eq_nil_or_concat L1 with rfl | ⟨L, u, rfl⟩
    · simp at hy
    · rw [List.concat_eq_append] at *
      have hu := h u (by simp)
      rcases List.mem_append.1 hy with hy | hy
      · exact leE_trans ((Srt.append.1 h1).2.2 y hy u (by simp)) hu
      · have : y = u := by simpa using hy
        subst this; exact hu
  · exact h3 y hy z hz
theorem ins_stb {L1 L2 : List Ev} {x : Ev} (hx : ∀ y ∈ L2, ltE x y) : Stb (L1 ++ L2 ++ [x]) (L1 ++ x :: L2) := by
  rw [List.append_assoc]
  exact (Stb.refl L1).append (Stb.one hx)
theorem ins_step {L1 L2 : List Ev} {x y : Ev} (hs : Srt (L1 ++ [y] ++ L2)) (hx : ∀ z ∈ L2, ltE x z) (h : ltE x y) : Srt (L1 ++ y :: L2) ∧ ∀ z ∈ y :: L2, ltE x z :=
  ⟨by simpa using hs, fun z hz => by rcases List.mem_cons.1 hz with rfl | hz; exact h; exact hx z hz⟩
/-! The merge. -/
theorem srt_last {l : List Ev} {u : Ev} (h : Srt (l ++ [u])) : ∀ x ∈ l ++ [u], leE x u := fun x hx => by
  rcases List.mem_append.1 hx with hx | hx
  · exact (Srt.append.1 h).2.2 x hx u (by simp)
  · have : x = u := by simpa using hx
    subst this; exact leE_refl x
theorem srt_head {l : List Ev} {u : Ev} (h : Srt (u :: l)) : ∀ x ∈ u :: l, leE u x := fun x hx => by
  rcases List.mem_cons.1 hx with rfl | hx
  · exact leE_refl x
  · exact (List.pairwise_cons.1 h).1 x hx
/-- One ahead of a sorted row: those that are earlier come first. -/
theorem merge_one {x : Ev} {Y1 Y2 : List Ev} (hs : Srt (Y1 ++ Y2)) (h1 : ∀ y, Y1.getLast? = some y → ltE y x) (h2 : ∀ y, Y2.head? = some y → leE x y) :
    Stb (x :: (Y1 ++ Y2)) (Y1 ++ x :: Y2) ∧ Srt (Y1 ++ x :: Y2) := by
  obtain ⟨s1, s2, s3⟩ := Srt.append.1 hs
  have hlt : ∀ y ∈ Y1, ltE y x := fun y hy => by
    rcases List.eq_nil_or_concat Y1 with rfl | ⟨L, u, rfl⟩
    · simp at hy
    · rw [List.concat_eq_append] at *
      exact leE_trans_lt (srt_last s1 y hy) (h1 u (by simp))
  have hge : ∀ y ∈ Y2, leE x y := fun y hy => by
    cases Y2 with
    | nil => simp at hy
    | cons u L => exact leE_trans (h2 u rfl) (srt_head s2 y hy)
  constructor
  · have : Stb ([x] ++ Y1) (Y1 ++ [x]) := Stb.swap fun a ha b hb => by
      have : a = x := by simpa using ha
      subst this; exact hlt b hb
    have := this.append (Stb.refl Y2)
    simpa using this
  · refine Srt.append.2 ⟨s1, List.pairwise_cons.2 ⟨hge, s2⟩, fun y hy z hz => ?_⟩
    rcases List.mem_cons.1 hz with rfl | hz
    · exact ltE_le (hlt y hy)
    · exact s3 y hy z hz
/-- One behind a sorted row: those that are later come behind it. -/
theorem merge_last {y : Ev} {X1 X2 : List Ev} (hs : Srt (X1 ++ X2)) (h1 : ∀ x, X1.getLast? = some x → leE x y) (h2 : ∀ x, X2.head? = some x → ltE y x) :
    Stb (X1 ++ X2 ++ [y]) (X1 ++ y :: X2) ∧ Srt (X1 ++ y :: X2) := by
  have hlt : ∀ x ∈ X2, ltE y x := fun x hx => by
    cases X2 with
    | nil => simp at hx
    | cons u L => exact ltE_trans_le (h2 u rfl) (srt_head (Srt.append.1 hs).2.1 x hx)
  exact ⟨ins_stb hlt, ins_stop hs hlt h1⟩
/-- The symmetric merge, once its cut is found. -/
structure Cut4 (A1 L R A2 : List Ev) : Prop where
  x : Srt (A1 ++ L)
  y : Srt (R ++ A2)
  rl : ∀ r ∈ R, ∀ l ∈ L, ltE r l
  aa : ∀ a ∈ A1, ∀ b ∈ A2, leE a b
theorem Cut4.of {A1 L R A2 : List Ev} (hx : Srt (A1 ++ L)) (hy : Srt (R ++ A2)) (h1 : ∀ r l, R.getLast? = some r → L.head? = some l → ltE r l) (h2 : ∀ a b, A1.getLast? = some a → A2.head? = some b → leE a b) : Cut4 A1 L R A2 := by
  refine ⟨hx, hy, fun r hr l hl => ?_, fun a ha b hb => ?_⟩
  · rcases List.eq_nil_or_concat R with rfl | ⟨R', u, rfl⟩
    · simp at hr
    · rw [List.concat_eq_append] at *
      cases L with
      | nil => simp at hl
      | cons v L' => exact ltE_trans_le (leE_trans_lt (srt_last (Srt.append.1 hy).1 r hr) (h1 u v (by simp) rfl)) (srt_head (Srt.append.1 hx).2.1 l hl)
  · rcases List.eq_nil_or_concat A1 with rfl | ⟨A', u, rfl⟩
    · simp at ha
    · rw [List.concat_eq_append] at *
      cases A2 with
      | nil => simp at hb
      | cons v A2' => exact leE_trans (srt_last (Srt.append.1 hx).1 a ha) (leE_trans (h2 u v (by simp) rfl) (srt_head (Srt.append.1 hy).2.1 b hb))
theorem Cut4.left {A1 L R A2 : List Ev} (h : Cut4 A1 L R A2) : Srt A1 ∧ Srt R ∧ Srt L ∧ Srt A2 := ⟨(Srt.append.1 h.x).1, (Srt.append.1 h.y).1, (Srt.append.1 h.x).2.1, (Srt.append.1 h.y).2.1⟩
theorem Cut4.done {A1 L R A2 Z1 Z2 : List Ev} (h : Cut4 A1 L R A2) (h1 : Stb (A1 ++ R) Z1) (s1 : Srt Z1) (h2 : Stb (L ++ A2) Z2) (s2 : Srt Z2) : Stb (A1 ++ L ++ (R ++ A2)) (Z1 ++ Z2) ∧ Srt (Z1 ++ Z2) := by
  constructor
  · have hm : Stb (L ++ R) (R ++ L) := Stb.swap fun l hl r hr => h.rl r hr l hl
    have := ((Stb.refl A1).append hm).append (Stb.refl A2)
    have h3 := h1.append h2
    have h4 : Stb (A1 ++ L ++ (R ++ A2)) (A1 ++ R ++ (L ++ A2)) := by simpa using this
    exact h4.trans h3
  · refine Srt.append.2 ⟨s1, s2, fun x hx y hy => ?_⟩
    have hx' := h1.perm.mem_iff.2 hx
    have hy' := h2.perm.mem_iff.2 hy
    rcases List.mem_append.1 hx' with a | a <;> rcases List.mem_append.1 hy' with b | b
    · exact (Srt.append.1 h.x).2.2 x a y b
    · exact h.aa x a y b
    · exact ltE_le (h.rl x a y b)
    · exact (Srt.append.1 h.y).2.2 x a y b
end Go.Proofs.Ytlfhjlkhhaoicaa
