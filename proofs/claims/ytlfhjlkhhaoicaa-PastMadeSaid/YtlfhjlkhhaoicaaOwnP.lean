/- What the inbox's Own does to the events of a past: plain Lean. -/
import Derived.Test.YtlfhjlkhhaoicaaDrainQ
import Derived.Test.YtlfhjlkhhaoicaaPieces
namespace Go.Proofs.Ytlfhjlkhhaoicaa
set_option linter.unusedVariables false
set_option linter.unusedSimpArgs false
section
variable {w log left : List Ev} {c : Ck} {e x : Ev} {i : Nat}
theorem Got.new (h : Got w log left c) (hp : Past w) (he : e ∈ w) (hne : e ∉ log) : hasB c e.r e.n = false := by
  rw [Bool.eq_false_iff]
  intro hb
  obtain ⟨y, hy, a, b⟩ := h.has hb
  rw [mk_uniq hp.nodup (h.logm y hy) he a b] at hy
  exact hne hy
theorem Got.past (h : Got w log left c) (hp : Past w) (hs : log.Sublist w) : Past log := hp.sub hs fun e he x hx hb => by
  obtain ⟨l1, l2, hl⟩ := List.append_of_mem he
  obtain ⟨y, hy, a, b⟩ := (h.ordered hp l1 e l2 hl).2 _ _ hb
  have hyl : y ∈ log := by rw [hl]; exact List.mem_append_left _ hy
  rw [← mk_uniq hp.nodup (h.logm y hyl) hx a b]
  exact hyl
theorem Got.more (h : Got w log [] c) (hp : Past w) (he : e ∈ w) (hr : rdy c e) : Got w (log ++ [e]) [] (bump c e) := by
  have hx := h.drain hp (l := [e]) (fun x hx => by simp at hx; subst hx; exact he)
  rw [drain_rdy (h.wf hp) (hp.nwf he) hr] at hx
  exact hx
/-- The next one in order is ready. -/
theorem Got.next (h : Got w (w.take i) [] c) (hp : Past w) (hx : w[i]? = some x) : rdy c x ∧ x ∉ w.take i := by
  have hxm := List.mem_of_getElem? hx
  have hw : w = w.take i ++ x :: w.drop (i + 1) := by
    obtain ⟨hlt, hge⟩ := List.getElem?_eq_some_iff.1 hx
    rw [← hge, ← List.drop_eq_getElem_cons hlt, List.take_append_drop]
  have hni : x ∉ w.take i := by
    have hnd := nodup_of_map hp.nodup
    rw [hw] at hnd
    intro hc
    exact (List.nodup_append.1 hnd).2.2 x hc x (by simp) rfl
  refine ⟨?_, hni⟩
  have hM := hp.may x hxm
  have hnew := h.new hp hxm hni
  have hle2 : leB x.c c = true := le_of_has (fun i hi => h.get0 hi) fun r k hb' => by
    obtain ⟨z, hz, a, b', _⟩ := hp.pre _ _ _ hw r k hb'
    have := h.had hz
    rw [a, b'] at this
    exact this
  refine ⟨hM.r0, hM.r5, hM.n1, ?_, hle2⟩
  rw [Bool.eq_false_iff, ne_eq, hasB_iff] at hnew
  have h1 := leB_iff.1 hle2 x.r.toNat (by have := hM.r0; have := hM.r5; omega)
  rw [hM.own] at h1
  have h2 : ¬ x.n ≤ c.get x.r.toNat := fun hc => hnew ⟨hM.r0, hM.r5, hM.n1, hc⟩
  omega
theorem take_snoc (hx : w[i]? = some x) : w.take i ++ [x] = w.take (i + 1) := by rw [List.take_add_one, hx]; rfl
theorem take_sub {z : Ev} (hz : z ∈ w.drop i) : (w.take i ++ [z]).Sublist w := by
  conv => rhs; rw [← List.take_append_drop i w]
  exact List.Sublist.append (List.Sublist.refl _) (List.singleton_sublist.2 hz)
theorem Past.nodup_at (h : Past w) {k : Nat} {z : Ev} (hz : w[k]? = some z) (hx : w[i]? = some x) (hik : i < k) : z ∉ w.take i := fun hc => by
  have hnd := nodup_of_map h.nodup
  rw [← List.take_append_drop i w, List.nodup_append] at hnd
  exact hnd.2.2 z hc z (List.mem_of_getElem? (i := k - i) (by rw [List.getElem?_drop, ← hz]; congr 1; omega)) rfl
theorem mem_drop {k : Nat} {z : Ev} (hz : w[k]? = some z) (h : i ≤ k) : z ∈ w.drop i := List.mem_of_getElem? (i := k - i) (by rw [List.getElem?_drop, ← hz]; congr 1; omega)
end
end Go.Proofs.Ytlfhjlkhhaoicaa
