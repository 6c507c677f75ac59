/- A past in another order: plain facts for kithref08.Spread. -/
import Derived.Test.YtlfhjlkhhaoicaaOwnP
import Derived.Test.YtlfhjlkhhaoicaaSortP
namespace Go.Proofs.Ytlfhjlkhhaoicaa
set_option linter.unusedVariables false
set_option linter.unusedSimpArgs false
structure SpSt (p out left : List Ev) (c : Ck) : Prop where
  got : Got p out [] c
  perm : (out ++ left).Perm p
theorem SpSt.start (p : List Ev) : SpSt p [] p Ck.zero := ⟨Got.start p, List.Perm.refl p⟩
section
variable {p out left : List Ev} {c : Ck}
theorem SpSt.mem (h : SpSt p out left c) {e : Ev} (he : e ∈ left) : e ∈ p := h.perm.mem_iff.1 (List.mem_append_right _ he)
theorem SpSt.notin (h : SpSt p out left c) (hp : Past p) {e : Ev} (he : e ∈ left) : e ∉ out := fun ho => by
  have hnd := h.perm.nodup_iff.2 (nodup_of_map hp.nodup)
  exact (List.nodup_append.1 hnd).2.2 e ho e he rfl
theorem SpSt.new (h : SpSt p out left c) (hp : Past p) {e : Ev} (he : e ∈ left) : hasB c e.r e.n = false := h.got.new hp (h.mem he) (h.notin hp he)
/-- One of those that are left is ready. -/
theorem SpSt.ready (h : SpSt p out left c) (hp : Past p) (hn : left ≠ []) : ∃ e ∈ left, leB e.c c = true := by
  apply Classical.byContradiction
  intro hc
  have ha := all_had hp (fun i hi => h.got.get0 hi) fun e he => by
    rcases List.mem_append.1 (h.perm.mem_iff.2 he) with h1 | h1
    · exact .inl (h.got.had h1)
    · exact .inr fun hr => hc ⟨e, h1, hr.2.2.2.2⟩
  obtain ⟨e, he⟩ := List.exists_mem_of_ne_nil _ hn
  have h1 := ha e (h.mem he)
  rw [h.new hp he] at h1
  simp at h1
theorem SpSt.rdy (h : SpSt p out left c) (hp : Past p) {e : Ev} (he : e ∈ left) (hle : leB e.c c = true) : rdy c e := by
  have hM := hp.may e (h.mem he)
  have hnew := h.new hp he
  refine ⟨hM.r0, hM.r5, hM.n1, ?_, hle⟩
  rw [Bool.eq_false_iff, ne_eq, hasB_iff] at hnew
  have h1 := leB_iff.1 hle e.r.toNat (by have := hM.r0; have := hM.r5; omega)
  rw [hM.own] at h1
  have h2 : ¬ e.n ≤ c.get e.r.toNat := fun hc => hnew ⟨hM.r0, hM.r5, hM.n1, hc⟩
  omega
theorem SpSt.take (h : SpSt p out left c) (hp : Past p) {k : Nat} {e : Ev} (he : left[k]? = some e) (hle : leB e.c c = true) : SpSt p (out ++ [e]) (left.take k ++ left.drop (k + 1)) (bump c e) := by
  have hel := List.mem_of_getElem? he
  have hr := h.rdy hp hel hle
  refine ⟨h.got.more hp (h.mem hel) hr, ?_⟩
  have hl : left = left.take k ++ e :: left.drop (k + 1) := by
    obtain ⟨hlt, hge⟩ := List.getElem?_eq_some_iff.1 he
    rw [← hge, ← List.drop_eq_getElem_cons hlt, List.take_append_drop]
  have h1 : (out ++ [e] ++ (left.take k ++ left.drop (k + 1))).Perm (out ++ left) := by
    conv => rhs; rw [hl]
    rw [List.append_assoc]
    exact List.Perm.append_left out (by simpa using (List.perm_middle (a := e) (l₁ := left.take k) (l₂ := left.drop (k + 1))).symm)
  exact h1.trans h.perm
theorem SpSt.max (h : SpSt p out left c) (hp : Past p) {e : Ev} (he : e ∈ left) (hle : leB e.c c = true) : Max.max (c.get e.r.toNat) e.n = e.n := by
  have := (h.rdy hp he hle).2.2.2.1
  omega
theorem SpSt.done (h : SpSt p out [] c) (hp : Past p) : out.Perm p ∧ orderedP out ∧ isClock p c := by
  have h1 : out.Perm p := by simpa using h.perm
  exact ⟨h1, h.got.ordered hp, h.got.clock.mem fun e => h1.mem_iff⟩
end
/-! A past, sorted. -/
theorem past_keyed {p : List Ev} (hp : Past p) : Keyed p := fun x hx y hy hk => by
  rw [keyE_iff] at hk
  by_cases hn : x.n = y.n
  · exact mk_uniq hp.nodup hx hy hk.2 hn
  · exfalso
    have key : ∀ a ∈ p, ∀ b ∈ p, a.h = b.h → a.r = b.r → a.n < b.n → False := fun a ha b hb h1 h2 h3 => by
      have hM := hp.may b hb
      have hA := hp.may a ha
      have hb' : hasB b.c a.r a.n = true := hasB_iff.2 ⟨hA.r0, hA.r5, hA.n1, by rw [h2, hM.own]; omega⟩
      have := (hp.height b hb).up a ha hb'
      omega
    rcases Int.lt_or_gt_of_ne hn with h | h
    · exact key x hx y hy hk.1 hk.2 h
    · exact key y hy x hx hk.1.symm hk.2.symm h
theorem sorted_ordered {p S : List Ev} (hp : Past p) (hs : S.Perm p) (hS : Srt S) : orderedP S := fun l1 e l2 hl => by
  have heS : e ∈ S := by rw [hl]; simp
  have he := hs.mem_iff.1 heS
  refine ⟨fun i hi => by rw [hs.length_eq]; exact hp.few he hi, fun r n hb => ?_⟩
  obtain ⟨x, hx, a, b, hle⟩ := hp.down he hb
  have hxS := hs.mem_iff.2 hx
  have hh : x.h + 1 ≤ e.h := (hp.height e he).up x hx (by rw [a, b]; exact hb)
  rw [hl] at hxS hS
  rcases List.mem_append.1 hxS with h1 | h1
  · exact ⟨x, h1, a, b⟩
  · exfalso
    rcases List.mem_cons.1 h1 with h2 | h2
    · subst h2; omega
    · have := (List.pairwise_cons.1 (Srt.append.1 hS).2.1).1 x h2
      unfold leE ltE at this
      omega
end Go.Proofs.Ytlfhjlkhhaoicaa
