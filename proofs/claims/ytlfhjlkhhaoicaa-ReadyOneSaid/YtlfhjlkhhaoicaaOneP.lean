/- One event of a past, what is ahead of it, and whether it is ready: plain facts for kithlaw12.ReadyOne. -/
import Derived.Test.YtlfhjlkhhaoicaaPastMoreP
import Derived.Test.YtlfhjlkhhaoicaaOwnP
namespace Go.Proofs.Ytlfhjlkhhaoicaa
set_option linter.unusedVariables false
set_option linter.unusedSimpArgs false
theorem isClock.wf {l : List Ev} {c : Ck} (h : isClock l c) (hl : l.length ≤ 1000) : ckWf c := fun i hi => by
  have := h.bd hi
  omega
structure OneP (p : List Ev) (n k : Nat) (c : Ck) (e : Ev) : Prop where
  had : k < n → drain c [e] = ([], [], c)
  yes : ¬ k < n → orderedP (p.take n ++ [e]) → drain c [e] = ([e], [], bump c e)
  no : ¬ k < n → ¬ orderedP (p.take n ++ [e]) → drain c [e] = ([], [e], c)
theorem one_p {p : List Ev} (hP : Past p) {n k : Nat} (hn : n ≤ p.length) (hlen : p.length ≤ 40) {e : Ev} (he : p[k]? = some e) {c : Ck} (hc : isClock (p.take n) c) : OneP p n k c e := by
  have hel := List.mem_of_getElem? he
  have hM := hP.may e hel
  have hW : ckWf c := hc.wf (by have := List.length_take_le n p; omega)
  have hN := hP.nwf hel
  have hPt := hP.take n
  have hnew : ¬ k < n → hasB c e.r e.n = false := fun hk => by
    rw [Bool.eq_false_iff]
    intro hb
    obtain ⟨x, hx, a, b⟩ := clock_of hc hb
    have hxe := mk_uniq hP.nodup ((List.take_sublist _ _).subset hx) hel a b
    subst hxe
    obtain ⟨j, hj⟩ := List.getElem?_of_mem hx
    rw [List.getElem?_take] at hj
    split at hj
    · rename_i hjn
      obtain ⟨h1, h2⟩ := List.getElem?_eq_some_iff.1 he
      obtain ⟨h3, h4⟩ := List.getElem?_eq_some_iff.1 hj
      have := (List.getElem_inj (nodup_of_map hP.nodup)).1 (h2.trans h4.symm)
      omega
    · simp at hj
  have hiff : ¬ k < n → (orderedP (p.take n ++ [e]) ↔ rdy c e) := fun hk => by
    constructor
    · intro ho
      have hle : leB e.c c = true := le_of_has (fun i hi => (hc i hi).1) fun r m hb => by
        obtain ⟨x, hx, a, b⟩ := (ho (p.take n) e [] (by simp)).2 r m hb
        have := hPt.clock_has hc hx
        rw [a, b] at this
        exact this
      refine ⟨hM.r0, hM.r5, hM.n1, ?_, hle⟩
      have h0 := hnew hk
      rw [Bool.eq_false_iff, ne_eq, hasB_iff] at h0
      have h1 := leB_iff.1 hle e.r.toNat (by have := hM.r0; have := hM.r5; omega)
      rw [hM.own] at h1
      have h2 : ¬ e.n ≤ c.get e.r.toNat := fun hc => h0 ⟨hM.r0, hM.r5, hM.n1, hc⟩
      omega
    · intro hr l1 x l2 hl
      rcases List.eq_nil_or_concat l2 with rfl | ⟨l3, z, rfl⟩
      · have hx : p.take n = l1 ∧ [e] = [x] := List.append_inj' hl rfl
        obtain ⟨h1, h2⟩ := hx
        obtain rfl : e = x := by simpa using h2
        refine ⟨fun i hi => ?_, fun r m hb => ?_⟩
        · have h3 := leB_iff.1 hr.2.2.2.2 i hi
          have h4 := (hc.bd hi).2
          rw [List.length_append]
          simp at h4 ⊢
          omega
        · have := hasB_mono hr.2.2.2.2 hb
          rw [← h1]
          exact clock_of hc this
      · rw [List.concat_eq_append] at hl
        have h5 : p.take n ++ [e] = (l1 ++ x :: l3) ++ [z] := by rw [hl]; simp
        have hx := List.append_inj' h5 rfl
        have h6 := hPt.ordered l1 x l3 hx.1
        refine ⟨fun i hi => ?_, h6.2⟩
        have := h6.1 i hi
        rw [List.length_append]
        simp at this ⊢
        omega
  refine ⟨fun hk => ?_, fun hk ho => ?_, fun hk ho => ?_⟩
  · have hx : e ∈ p.take n := List.mem_of_getElem? (i := k) (by rw [List.getElem?_take_of_lt hk]; exact he)
    exact drain_had hW hN (hPt.clock_has hc hx)
  · exact drain_rdy hW hN ((hiff hk).1 ho)
  · exact drain_not hW hN (fun hr => ho ((hiff hk).2 hr)) (hnew hk)
end Go.Proofs.Ytlfhjlkhhaoicaa
