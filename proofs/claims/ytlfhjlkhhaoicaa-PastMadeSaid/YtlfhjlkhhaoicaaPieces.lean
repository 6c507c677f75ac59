/- Who gets the events of a past one by one, in the end: plain Lean. -/
import Derived.Test.YtlfhjlkhhaoicaaDrainQ
namespace Go.Proofs.Ytlfhjlkhhaoicaa
set_option linter.unusedVariables false
set_option linter.unusedSimpArgs false
section
variable {w log left : List Ev} {c : Ck}
theorem Got.lose (h : Got w log left c) : Got w log [] c := ⟨h.run, h.clk, h.logm, by simp⟩
theorem Got.len (h : Got w log left c) : log.length ≤ w.length := h.nodup.length_le_of_subset fun e he => h.logm e he
/-- One more in order: it is had then, and no more are left. -/
theorem Got.one (h : Got w log left c) (hp : Past w) {i : Nat} {x : Ev} (hx : w[i]? = some x) (hi : ∀ e ∈ w.take i, hasB c e.r e.n = true) :
    (Go.Proofs.Ytlfhjlkhhaoicaa.drain c (left ++ [x])).2.1.length ≤ left.length ∧ ∀ e ∈ w.take (i + 1), hasB (Go.Proofs.Ytlfhjlkhhaoicaa.drain c (left ++ [x])).2.2 e.r e.n = true := by
  have hxm := List.mem_of_getElem? hx
  have hl : ∀ e ∈ left ++ [x], e ∈ w := fun e he => by
    rcases List.mem_append.1 he with he | he
    · exact h.leftm e he
    · simp at he; subst he; exact hxm
  have hD := drain_drained c (h.wf hp) (left ++ [x]) fun e he => hp.nwf (hl e he)
  have hG := h.drain hp hl
  have hle : leB c (Go.Proofs.Ytlfhjlkhhaoicaa.drain c (left ++ [x])).2.2 = true := by rw [hD.clk]; exact runs_le _ hD.run
  generalize hn : (Go.Proofs.Ytlfhjlkhhaoicaa.drain c (left ++ [x])).2.2 = n at *
  generalize hb : (Go.Proofs.Ytlfhjlkhhaoicaa.drain c (left ++ [x])).2.1 = b at *
  have hw : w = w.take i ++ x :: w.drop (i + 1) := by
    obtain ⟨hlt, hge⟩ := List.getElem?_eq_some_iff.1 hx
    rw [← hge, ← List.drop_eq_getElem_cons hlt, List.take_append_drop]
  have hM := hp.may x hxm
  have hxn : hasB n x.r x.n = true := by
    rcases hD.all x (by simp) with h1 | ⟨y, hy, hm⟩
    · exact h1
    · have hm' : y.r = x.r ∧ y.n = x.n := by simpa [Ev.mk'] using hm
      have hyx : y = x := mk_uniq hp.nodup (hl y (hD.bmem y hy)) hxm hm'.1 hm'.2
      subst hyx
      exfalso
      have hle2 : leB y.c n = true := le_of_has (fun i hi => hG.get0 hi) fun r k hb' => by
        obtain ⟨z, hz, a, b', _⟩ := hp.pre _ _ _ hw r k hb'
        have := hi z hz
        rw [a, b'] at this
        exact hasB_mono hle this
      refine hD.brdy y hy ⟨hM.r0, hM.r5, hM.n1, ?_, hle2⟩
      have hnew := hD.bnew y hy
      rw [Bool.eq_false_iff, ne_eq, hasB_iff] at hnew
      have h1 := leB_iff.1 hle2 y.r.toNat (by have := hM.r0; have := hM.r5; omega)
      rw [hM.own] at h1
      have h2 : ¬ y.n ≤ n.get y.r.toNat := fun hc => hnew ⟨hM.r0, hM.r5, hM.n1, hc⟩
      omega
  refine ⟨?_, fun e he => ?_⟩
  · refine (nodup_of_map hD.nodup).length_le_of_subset fun e he => ?_
    rcases List.mem_append.1 (hD.bmem e he) with h1 | h1
    · exact h1
    · exfalso
      simp at h1
      have := hD.bnew e he
      rw [h1, hxn] at this
      simp at this
  · rw [List.take_add_one, hx] at he
    rcases List.mem_append.1 he with he | he
    · exact hasB_mono hle (hi e he)
    · have : e = x := by simpa using he
      subst this; exact hxn
theorem Got.finish (h : Got w log left c) (hp : Past w) (ha : ∀ e ∈ w, hasB c e.r e.n = true) : isClock w c ∧ log.Perm w ∧ orderedP log ∧ rightP log := by
  have hpm := h.perm hp ha
  exact ⟨h.clock.mem fun e => hpm.mem_iff, hpm, h.ordered hp, hp.right.perm hpm.symm⟩
theorem Got.evOk (h : Got w log left c) (hp : Past w) : ∀ e ∈ log, May e ∧ e.ed := fun e he => ⟨hp.may e (h.logm e he), hp.ed e (h.logm e he)⟩
end
end Go.Proofs.Ytlfhjlkhhaoicaa
