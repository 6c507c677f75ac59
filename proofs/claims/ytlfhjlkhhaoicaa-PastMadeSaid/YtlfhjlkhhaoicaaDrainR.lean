/- What is left by drain, told by marks alone; and to drain the same once more. -/
import Derived.Test.YtlfhjlkhhaoicaaDrainQ
namespace Go.Proofs.Ytlfhjlkhhaoicaa
set_option linter.unusedVariables false
set_option linter.unusedSimpArgs false

def newFor (n : Ck) (p : Mk × Ev) : Bool := !hasB n p.1.r p.1.n
theorem sub_filter {α : Type} {q : α → Bool} : ∀ {l' l : List α}, l'.Sublist l → l.Nodup → (∀ x ∈ l, x ∈ l' ↔ q x = true) → l' = l.filter q := by
  intro l' l hs
  induction hs with
  | slnil => intro _ _; rfl
  | @cons l1 l2 a hs ih =>
    intro hn hm
    rw [List.nodup_cons] at hn
    have ha : q a = false := by
      cases hq : q a with
      | false => rfl
      | true => exact absurd (hs.subset ((hm a (by simp)).2 hq)) hn.1
    rw [List.filter_cons, ha, if_neg (by simp)]
    exact ih hn.2 fun x hx => hm x (by simp [hx])
  | @cons_cons l1 l2 a hs ih =>
    intro hn hm
    rw [List.nodup_cons] at hn
    have ha : q a = true := (hm a (by simp)).1 (by simp)
    rw [List.filter_cons, ha, if_pos rfl]
    rw [← ih hn.2 fun x hx => ?_]
    have := hm x (by simp [hx])
    rw [← this, List.mem_cons]
    constructor
    · exact .inr
    · rintro (rfl | h)
      · exact absurd hx hn.1
      · exact h
theorem nodup_keys {α β : Type} {f : α → β} {l : List α} (h : (l.map f).Nodup) : l.Nodup := by
  unfold List.Nodup at h
  rw [List.pairwise_map] at h
  exact h.imp fun {a b} hab hc => hab (by rw [hc])
theorem left_filter {c : Ck} {l : List Ev} {n : Ck} {Wc : List (Mk × Ev)} {d : List Ev} (hI : DInv c (freshW c l) n Wc d) : Wc = (freshW c l).filter (newFor n) := by
  have hF := fresh_W c l
  refine sub_filter hI.sub (nodup_keys hF.nodup) fun p hp => ?_
  unfold newFor
  constructor
  · intro h
    rw [hI.new p h]; rfl
  · intro h
    have hno : hasB n p.1.r p.1.n = false := by simpa using h
    have h1 := hI.cnt p.1
    rw [cntW_le hF.nodup, if_pos ⟨p, hp, rfl⟩] at h1
    have h0 : cntD d p.1 = 0 := by
      unfold cntD
      rw [List.countP_eq_zero]
      intro x hx
      simp only [decide_eq_true_eq]
      intro hc
      have := runs_had _ hI.run x hx
      rw [← hI.clk, show x.r = x.mk'.r from rfl, show x.n = x.mk'.n from rfl, hc, hno] at this
      simp at this
    have : 0 < cntW Wc p.1 := by omega
    unfold cntW at this
    obtain ⟨q, hq, hqe⟩ := List.countP_pos_iff.1 this
    simp only [decide_eq_true_eq] at hqe
    have hqW := hI.sub.subset hq
    have e1 := lookE_of_mem hF.nodup hqW
    have e2 := lookE_of_mem hF.nodup hp
    rw [hqe, e2] at e1
    have : q = p := Prod.ext hqe (Option.some.inj e1).symm
    rw [← this]; exact hq
theorem look_filter (n : Ck) (V : List (Mk × Ev)) (m : Mk) : lookE (V.filter (newFor n)) m = if hasB n m.r m.n = true then none else lookE V m := by
  induction V with
  | nil => simp [lookE]
  | cons p V ih =>
    by_cases e : m = p.1
    · subst e
      by_cases hb : hasB n p.1.r p.1.n = true
      · rw [List.filter_cons, if_neg (by simp [newFor, hb]), ih, if_pos hb, if_pos hb]
      · have hb' : hasB n p.1.r p.1.n = false := by simpa using hb
        rw [List.filter_cons, if_pos (by simp [newFor, hb']), if_neg hb]
        simp [lookE]
    · have h1 : lookE (p :: V) m = lookE V m := by simp [lookE, List.find?_cons, e]
      rw [h1, ← ih]
      rw [List.filter_cons]
      split
      · simp [lookE, List.find?_cons, e]
      · rfl
theorem fresh_filter {c n : Ck} (hle : leB c n = true) : ∀ (l : List Ev) (V : List (Mk × Ev)), l.foldl (freshStep n) (V.filter (newFor n)) = (l.foldl (freshStep c) V).filter (newFor n)
  | [], V => rfl
  | e :: l, V => by
    rw [List.foldl_cons, List.foldl_cons, ← fresh_filter hle l]
    congr 1
    unfold freshStep
    rw [look_filter]
    have hmk : hasB n e.mk'.r e.mk'.n = hasB n e.r e.n := rfl
    rw [hmk]
    by_cases hn : hasB n e.r e.n = true
    · rw [if_pos hn, hn]
      simp only [Option.isSome_none, Bool.false_or, if_true]
      split
      · rfl
      · rw [List.filter_append]
        simp [List.filter_cons, newFor, hmk, hn]
    · have hn' : hasB n e.r e.n = false := by simpa using hn
      have hc' : hasB c e.r e.n = false := by
        cases hx : hasB c e.r e.n with
        | false => rfl
        | true => rw [hasB_mono hle hx] at hn'; simp at hn'
      rw [if_neg hn, hn', hc']
      simp only [Bool.or_false]
      split
      · rfl
      · rw [List.filter_append]
        simp [List.filter_cons, newFor, hmk, hn']
theorem drain_fix (c : Ck) (hw : ckWf c) (l : List Ev) : drain (drain c l).2.2 l = ([], (drain c l).2.1, (drain c l).2.2) := by
  obtain ⟨Wc, hd, hI, hr⟩ := drain_inv c hw l
  have hF := fresh_W c l
  generalize hdd : (drain c l).1 = d at *
  rw [hd]
  simp only
  have hle : leB c (after c d) = true := runs_le _ hI.run
  have h1 : freshW (after c d) l = Wc := by
    rw [left_filter hI]
    have := fresh_filter hle l []
    simpa [freshW] using this
  have hFc : Fresh (after c d) Wc := fresh_sub hF hI.sub hI.new
  unfold drain
  simp only
  rw [h1, drainL_stay hr _ _ (Nat.le_refl _), left_eq (List.Sublist.refl _) hFc.nodup]
end Go.Proofs.Ytlfhjlkhhaoicaa
