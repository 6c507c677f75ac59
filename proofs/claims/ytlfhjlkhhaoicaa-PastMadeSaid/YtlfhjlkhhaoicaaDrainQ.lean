/- What drain does to the events of a past. -/
import Derived.Test.YtlfhjlkhhaoicaaPastP
namespace Go.Proofs.Ytlfhjlkhhaoicaa
set_option linter.unusedVariables false
set_option linter.unusedSimpArgs false

def nWf (e : Ev) : Prop := -9223372036854775808 ≤ e.n ∧ e.n ≤ 9223372036854775807
/-- All that is asked of drain here. -/
structure Drained (c : Ck) (l d b : List Ev) (n : Ck) : Prop where
  run : runs c d
  clk : n = after c d
  dmem : ∀ e ∈ d, e ∈ l
  bmem : ∀ e ∈ b, e ∈ l
  bnew : ∀ e ∈ b, hasB n e.r e.n = false
  brdy : ∀ e ∈ b, ¬ rdy n e
  all : ∀ e ∈ l, hasB n e.r e.n = true ∨ ∃ x ∈ b, x.mk' = e.mk'
  nodup : (b.map Ev.mk').Nodup
  len : d.length + b.length ≤ l.length
theorem runs_wf : ∀ {c : Ck} (d : List Ev), ckWf c → (∀ e ∈ d, nWf e) → ckWf (after c d)
  | c, [], h, _ => h
  | c, e :: d, h, he => by
    refine runs_wf d (fun i hi => ?_) (fun x hx => he x (by simp [hx]))
    unfold bump
    by_cases e1 : i = e.r.toNat
    · subst e1; rw [Ck.get_set_same _ hi]; exact he e (by simp)
    · rw [Ck.get_set_ne _ (Ne.symm e1)]; exact h i hi
theorem drain_drained (c : Ck) (hw : ckWf c) (l : List Ev) (hl : ∀ e ∈ l, nWf e) : Drained c l (drain c l).1 (drain c l).2.1 (drain c l).2.2 := by
  obtain ⟨Wc, hd, hI, hr⟩ := drain_inv c hw l
  have hF := fresh_W c l
  have hdm : ∀ e ∈ (drain c l).1, e ∈ l := fun e he => by
    rcases fresh_from l [] (hI.mem e he) with h | h
    · simp at h
    · exact h
  have hbm : ∀ p ∈ Wc, p.2 ∈ l := fun p hp => by
    rcases fresh_from l [] (hI.sub.subset hp) with h | h
    · simp at h
    · exact h
  have hk : ∀ p ∈ Wc, p.1 = p.2.mk' := fun p hp => hF.keyed p (hI.sub.subset hp)
  have hnd : (Wc.map (·.1)).Nodup := (hI.sub.map _).nodup hF.nodup
  have hwf : ckWf (after c (drain c l).1) := runs_wf _ hw fun e he => hl e (hdm e he)
  generalize hdd : (drain c l).1 = d at *
  rw [hd]
  have hnew : ∀ p ∈ Wc, hasB (after c d) p.2.r p.2.n = false := fun p hp => by have := hI.new p hp; rw [hk p hp] at this; exact this
  refine ⟨hI.run, rfl, hdm, ?_, ?_, ?_, ?_, ?_, ?_⟩
  · intro e he
    obtain ⟨p, hp, rfl⟩ := List.mem_map.1 he
    exact hbm p hp
  · intro e he
    obtain ⟨p, hp, rfl⟩ := List.mem_map.1 he
    exact hnew p hp
  · intro e he hrd
    obtain ⟨p, hp, rfl⟩ := List.mem_map.1 he
    obtain ⟨g0, g1, g2, g3, g4⟩ := hrd
    have hq := hr p.2.r.toNat (by omega)
    have hnw := hl _ (hbm p hp)
    have hm : nextM (after c d) p.2.r.toNat = p.1 := by
      rw [hk p hp]
      unfold nextM Ev.mk'
      have h1 : w64 ((after c d).get p.2.r.toNat + 1) = p.2.n := by rw [← g3]; unfold w64; unfold nWf at hnw; omega
      rw [h1]
      congr 1
      omega
    unfold readyAt at hq
    rw [hm, lookE_of_mem hnd hp] at hq
    simp only at hq
    rw [if_neg] at hq
    · simp at hq
    · rw [hk p hp]
      rintro (h | h)
      · have h' : p.2.n < 1 := h
        omega
      · rw [g4] at h; simp at h
  · intro e he
    cases hh : hasB (after c d) e.r e.n with
    | true => exact .inl rfl
    | false =>
      right
      have hc : hasB c e.r e.n = false := by
        cases hx : hasB c e.r e.n with
        | false => rfl
        | true => rw [hasB_mono (runs_le _ hI.run) hx] at hh; simp at hh
      obtain ⟨e', he'⟩ := fresh_mem l [] he hc
      have hcw : cntW (freshW c l) e.mk' = 1 := by rw [cntW_le hF.nodup, if_pos ⟨_, he', rfl⟩]
      have hcnt := hI.cnt e.mk'
      have hd0 : cntD d e.mk' = 0 := by
        unfold cntD
        rw [List.countP_eq_zero]
        intro x hx
        simp only [decide_eq_true_eq]
        intro hc2
        have := runs_had _ hI.run x hx
        simp only [Ev.mk', Mk.mk.injEq] at hc2
        rw [hc2.1, hc2.2, hh] at this
        simp at this
      have : 0 < cntW Wc e.mk' := by omega
      unfold cntW at this
      obtain ⟨p, hp, hpe⟩ := List.countP_pos_iff.1 this
      simp only [decide_eq_true_eq] at hpe
      exact ⟨p.2, List.mem_map.2 ⟨p, hp, rfl⟩, by rw [← hk p hp, hpe]⟩
  · rw [List.map_map]
    have : List.map (Ev.mk' ∘ fun x : Mk × Ev => x.2) Wc = Wc.map (·.1) := List.map_congr_left fun p hp => (hk p hp).symm
    rw [this]
    exact hnd
  · have := hI.len
    have := freshW_len c l
    simp only [List.length_map]
    omega

theorem runs_has : ∀ {c : Ck} (d : List Ev), runs c d → ∀ {r n : Int}, hasB (after c d) r n = true → hasB c r n = true ∨ marked d r n
  | c, [], _, _, _, h => .inl h
  | c, e :: d, hr, r, n, h => by
    rcases runs_has d hr.2 h with h | ⟨x, hx, a⟩
    · cases hc : hasB c r n with
      | true => exact .inl rfl
      | false =>
        obtain ⟨a, b⟩ := bump_new hr.1 h hc
        exact .inr ⟨e, by simp, a.symm, b.symm⟩
    · exact .inr ⟨x, by simp [hx], a⟩
theorem runs_new : ∀ {c : Ck} (d : List Ev), runs c d → ∀ e ∈ d, hasB c e.r e.n = false
  | c, a :: d, hr, e, he => by
    rcases List.mem_cons.1 he with rfl | he
    · exact rdy_not_had hr.1
    · have := runs_new d hr.2 e he
      cases hc : hasB c e.r e.n with
      | false => rfl
      | true => rw [hasB_mono (bump_le hr.1) hc] at this; simp at this
theorem runs_nodup : ∀ {c : Ck} (d : List Ev), runs c d → (d.map Ev.mk').Nodup
  | c, [], _ => by simp
  | c, e :: d, hr => by
    rw [List.map_cons, List.nodup_cons]
    refine ⟨fun hm => ?_, runs_nodup d hr.2⟩
    obtain ⟨x, hx, hc⟩ := List.mem_map.1 hm
    have := runs_new d hr.2 x hx
    simp only [Ev.mk', Mk.mk.injEq] at hc
    rw [hc.1, hc.2, bump_has hr.1] at this
    simp at this
theorem zero_has (r n : Int) : hasB Ck.zero r n = false := by
  rw [Bool.eq_false_iff, ne_eq, hasB_iff]
  rintro ⟨h0, h1, h2, h3⟩
  have : Ck.zero.get r.toNat = 0 := by rcases lt5 (show r.toNat < 5 by omega) with h | h | h | h | h <;> rw [h] <;> rfl
  omega
theorem zero_get (i : Nat) (hi : i < 5) : Ck.zero.get i = 0 := by rcases lt5 hi with h | h | h | h | h <;> rw [h] <;> rfl
theorem zero_wf : ckWf Ck.zero := fun i hi => by rw [zero_get i hi]; omega

/-- Where one stands who gets the events of a past. -/
structure Got (w log left : List Ev) (c : Ck) : Prop where
  run : runs Ck.zero log
  clk : c = after Ck.zero log
  logm : ∀ e ∈ log, e ∈ w
  leftm : ∀ e ∈ left, e ∈ w
theorem Got.start (w : List Ev) : Got w [] [] Ck.zero := ⟨trivial, rfl, by simp, by simp⟩
section
variable {w log left : List Ev} {c : Ck}
theorem Past.nwf (h : Past w) {e : Ev} (he : e ∈ w) : nWf e := by
  have hm := h.may e he
  have := hm.n1; have := hm.nm
  unfold nWf
  omega
theorem Got.wf (h : Got w log left c) (hp : Past w) : ckWf c := by rw [h.clk]; exact runs_wf _ zero_wf fun e he => hp.nwf (h.logm e he)
theorem Got.drain (h : Got w log left c) (hp : Past w) {l : List Ev} (hl : ∀ e ∈ l, e ∈ w) : Got w (log ++ (Go.Proofs.Ytlfhjlkhhaoicaa.drain c l).1) (Go.Proofs.Ytlfhjlkhhaoicaa.drain c l).2.1 (Go.Proofs.Ytlfhjlkhhaoicaa.drain c l).2.2 := by
  have hD := drain_drained c (h.wf hp) l fun e he => hp.nwf (hl e he)
  refine ⟨(runs_append _ _ _).2 ⟨h.run, by rw [← h.clk]; exact hD.run⟩, by rw [after_append, ← h.clk]; exact hD.clk, fun e he => ?_, fun e he => hl e (hD.bmem e he)⟩
  rcases List.mem_append.1 he with he | he
  · exact h.logm e he
  · exact hl e (hD.dmem e he)
theorem Got.get0 (h : Got w log left c) {i : Nat} (hi : i < 5) : 0 ≤ c.get i := by
  have := leB_iff.1 (runs_le _ h.run) i hi
  rw [zero_get i hi, ← h.clk] at this
  exact this
theorem Got.has (h : Got w log left c) {r n : Int} (hb : hasB c r n = true) : marked log r n := by
  rw [h.clk] at hb
  rcases runs_has _ h.run hb with hx | hx
  · rw [zero_has] at hx; simp at hx
  · exact hx
theorem Got.had (h : Got w log left c) {e : Ev} (he : e ∈ log) : hasB c e.r e.n = true := by rw [h.clk]; exact runs_had _ h.run e he
/-- What is below an event was seen: so all its clock was. -/
theorem le_of_has {a c : Ck} (h0 : ∀ i, i < 5 → 0 ≤ c.get i) (h : ∀ r n, hasB a r n = true → hasB c r n = true) : leB a c = true := leB_iff.2 fun i hi => by
  by_cases hp : 1 ≤ a.get i
  · have := hasB_iff.1 (h i (a.get i) (has_mk hi hp (Int.le_refl _)))
    simpa using this.2.2.2
  · have := h0 i hi
    omega
/-- If nothing of a past is ready, or was not looked at, all of it was seen. -/
theorem all_had (hp : Past w) {K : Ck} (h0 : ∀ i, i < 5 → 0 ≤ K.get i) (hr : ∀ e ∈ w, hasB K e.r e.n = true ∨ ¬ rdy K e) : ∀ e ∈ w, hasB K e.r e.n = true := by
  have key : ∀ k, ∀ e ∈ w.take k, hasB K e.r e.n = true := by
    intro k
    induction k with
    | zero => simp
    | succ k ih =>
      intro e he
      rw [List.take_add_one] at he
      rcases List.mem_append.1 he with he | he
      · exact ih e he
      · cases hx : w[k]? with
        | none => rw [hx] at he; simp at he
        | some y =>
          rw [hx] at he
          have hy : e = y := by simpa using he
          subst hy
          have hw : w = w.take k ++ e :: w.drop (k + 1) := by
            obtain ⟨hlt, hge⟩ := List.getElem?_eq_some_iff.1 hx
            rw [← hge, ← List.drop_eq_getElem_cons hlt, List.take_append_drop]
          have hme : e ∈ w := List.mem_of_getElem? hx
          have hM := hp.may e hme
          have hle : leB e.c K = true := le_of_has h0 fun r n hb => by
            obtain ⟨x, hx', a, b, _⟩ := hp.pre _ _ _ hw r n hb
            have := ih x hx'
            rw [a, b] at this
            exact this
          rcases hr e hme with h | h
          · exact h
          · cases hh : hasB K e.r e.n with
            | true => rfl
            | false =>
              refine absurd ⟨hM.r0, hM.r5, hM.n1, ?_, hle⟩ h
              rw [Bool.eq_false_iff, ne_eq, hasB_iff] at hh
              have hi : e.r.toNat < 5 := by have := hM.r0; have := hM.r5; omega
              have h1 := leB_iff.1 hle e.r.toNat hi
              rw [hM.own] at h1
              have h2 : ¬ e.n ≤ K.get e.r.toNat := fun hc => hh ⟨hM.r0, hM.r5, hM.n1, hc⟩
              omega
  intro e he
  have := key w.length e
  rw [List.take_length] at this
  exact this he
theorem Got.nodup (h : Got w log left c) : log.Nodup := by
  have := runs_nodup _ h.run
  unfold List.Nodup at this
  rw [List.pairwise_map] at this
  exact this.imp fun {a b} hab hc => hab (by rw [hc])
theorem nodup_of_map {l : List Ev} (h : (l.map Ev.mk').Nodup) : l.Nodup := by
  unfold List.Nodup at h
  rw [List.pairwise_map] at h
  exact h.imp fun {a b} hab hc => hab (by rw [hc])
theorem Got.ordered (h : Got w log left c) (hp : Past w) : orderedP log := fun l1 e l2 hl => by
  have hrun := h.run
  rw [hl, runs_append] at hrun
  obtain ⟨h1, h2, h3⟩ := hrun
  have hle := h2.2.2.2.2
  have hm : ∀ r n, hasB e.c r n = true → marked l1 r n := fun r n hb => by
    rcases runs_has _ h1 (hasB_mono hle hb) with hx | hx
    · rw [zero_has] at hx; simp at hx
    · exact hx
  refine ⟨fun i hi => ?_, hm⟩
  have h0 := (hp.may e (h.logm e (by rw [hl]; simp))).c0 i hi
  have := few_of (l := log) (i := i) (n := (e.c.get i).toNat) fun k a b => by
    obtain ⟨x, hx, y⟩ := hm i k (has_mk hi a (by omega))
    exact ⟨x, by rw [hl]; exact List.mem_append_left _ hx, y⟩
  omega
theorem Got.perm (h : Got w log left c) (hp : Past w) (ha : ∀ e ∈ w, hasB c e.r e.n = true) : log.Perm w := by
  rw [List.perm_ext_iff_of_nodup h.nodup (nodup_of_map hp.nodup)]
  intro e
  refine ⟨h.logm e, fun he => ?_⟩
  obtain ⟨x, hx, a, b⟩ := h.has (ha e he)
  rw [← mk_uniq hp.nodup (h.logm x hx) he a b]
  exact hx
theorem Got.clock (h : Got w log left c) : isClock log c := fun i hi => by
  refine ⟨h.get0 hi, fun k a b => h.has (has_mk hi a b), fun ⟨x, hx, a, b⟩ => ?_⟩
  have := hasB_iff.1 (h.had hx)
  rw [a, b] at this
  have := this.2.2.2
  simp at this
  omega
/-- All of a past comes: all of it is told, and nothing is left. -/
theorem Got.whole (h : Got w log left c) (hp : Past w) {l : List Ev} (hl : ∀ e ∈ l, e ∈ w) (hw : ∀ e ∈ w, e ∈ l) :
    (Go.Proofs.Ytlfhjlkhhaoicaa.drain c l).2.1 = [] ∧ isClock w (Go.Proofs.Ytlfhjlkhhaoicaa.drain c l).2.2 ∧ (log ++ (Go.Proofs.Ytlfhjlkhhaoicaa.drain c l).1).Perm w ∧ orderedP (log ++ (Go.Proofs.Ytlfhjlkhhaoicaa.drain c l).1) := by
  have hD := drain_drained c (h.wf hp) l fun e he => hp.nwf (hl e he)
  have hG := h.drain hp hl
  have ha := all_had hp (fun i hi => hG.get0 hi) fun e he => by
    rcases hD.all e (hw e he) with hx | ⟨x, hx, hm⟩
    · exact .inl hx
    · right
      have hm' : x.r = e.r ∧ x.n = e.n := by simpa [Ev.mk'] using hm
      rw [← mk_uniq hp.nodup (hl x (hD.bmem x hx)) he hm'.1 hm'.2]
      exact hD.brdy x hx
  have hpm := hG.perm hp ha
  refine ⟨?_, hG.clock.mem fun e => hpm.mem_iff, hpm, hG.ordered hp⟩
  cases hb : (Go.Proofs.Ytlfhjlkhhaoicaa.drain c l).2.1 with
  | nil => rfl
  | cons x b =>
    have hx : x ∈ (Go.Proofs.Ytlfhjlkhhaoicaa.drain c l).2.1 := by rw [hb]; simp
    have h1 := hD.bnew x hx
    rw [ha x (hl x (hD.bmem x hx))] at h1
    simp at h1
end
/-! One event. -/
theorem drain_had {c : Ck} (hw : ckWf c) {e : Ev} (hn : nWf e) (h : hasB c e.r e.n = true) : drain c [e] = ([], [], c) := by
  have hD := drain_drained c hw [e] fun x hx => by simp at hx; subst hx; exact hn
  have hd : (drain c [e]).1 = [] := by
    cases hx : (drain c [e]).1 with
    | nil => rfl
    | cons x t =>
      have hr := hD.run
      have hm := hD.dmem x (by rw [hx]; simp)
      simp at hm
      rw [hx] at hr
      have := rdy_not_had hr.1
      rw [hm, h] at this
      simp at this
  have hc : (drain c [e]).2.2 = c := by rw [hD.clk, hd]; rfl
  have hb : (drain c [e]).2.1 = [] := by
    cases hx : (drain c [e]).2.1 with
    | nil => rfl
    | cons x t =>
      have hm := hD.bmem x (by rw [hx]; simp)
      have := hD.bnew x (by rw [hx]; simp)
      simp at hm
      rw [hm, hc, h] at this
      simp at this
  exact Prod.ext hd (Prod.ext hb hc)
theorem drain_rdy {c : Ck} (hw : ckWf c) {e : Ev} (hn : nWf e) (h : rdy c e) : drain c [e] = ([e], [], bump c e) := by
  have hD := drain_drained c hw [e] fun x hx => by simp at hx; subst hx; exact hn
  have hl := hD.len
  simp only [List.length_singleton] at hl
  have hd : (drain c [e]).1 = [e] := by
    cases hx : (drain c [e]).1 with
    | nil =>
      exfalso
      have hc : (drain c [e]).2.2 = c := by rw [hD.clk, hx]; rfl
      rcases hD.all e (by simp) with h1 | ⟨x, h1, _⟩
      · rw [hc, rdy_not_had h] at h1; simp at h1
      · have h2 := hD.bmem x h1
        have h3 := hD.brdy x h1
        simp at h2
        rw [h2, hc] at h3
        exact h3 h
    | cons x t =>
      have hm := hD.dmem x (by rw [hx]; simp)
      simp at hm
      rw [hx] at hl
      simp at hl
      have : t = [] := List.eq_nil_of_length_eq_zero (by omega)
      rw [hm, this]
  have hb : (drain c [e]).2.1 = [] := by
    rw [hd] at hl
    simp only [List.length_singleton] at hl
    exact List.eq_nil_of_length_eq_zero (by omega)
  have hc : (drain c [e]).2.2 = bump c e := by rw [hD.clk, hd]; rfl
  exact Prod.ext hd (Prod.ext hb hc)
theorem drain_not {c : Ck} (hw : ckWf c) {e : Ev} (hn : nWf e) (h : ¬ rdy c e) (hh : hasB c e.r e.n = false) : drain c [e] = ([], [e], c) := by
  have hD := drain_drained c hw [e] fun x hx => by simp at hx; subst hx; exact hn
  have hl := hD.len
  simp only [List.length_singleton] at hl
  have hd : (drain c [e]).1 = [] := by
    cases hx : (drain c [e]).1 with
    | nil => rfl
    | cons x t =>
      have hr := hD.run
      have hm := hD.dmem x (by rw [hx]; simp)
      simp at hm
      rw [hx] at hr
      rw [hm] at hr
      exact absurd hr.1 h
  have hc : (drain c [e]).2.2 = c := by rw [hD.clk, hd]; rfl
  have hb : (drain c [e]).2.1 = [e] := by
    rcases hD.all e (by simp) with h1 | ⟨x, h1, _⟩
    · rw [hc, hh] at h1; simp at h1
    · have h2 := hD.bmem x h1
      simp at h2
      subst h2
      rw [hd] at hl
      cases hx : (drain c [x]).2.1 with
      | nil => rw [hx] at h1; simp at h1
      | cons y t =>
        have hm := hD.bmem y (by rw [hx]; simp)
        simp at hm
        rw [hx] at hl
        simp at hl
        rw [hm, hl]
  exact Prod.ext hd (Prod.ext hb hc)
end Go.Proofs.Ytlfhjlkhhaoicaa
