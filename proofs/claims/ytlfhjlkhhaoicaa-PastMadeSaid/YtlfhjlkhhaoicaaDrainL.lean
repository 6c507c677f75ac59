/- Laws of drain: what is done runs through ready events alone, what is left is what of the new ones is not done, nothing of it is ready. -/
import Derived.Test.YtlfhjlkhhaoicaaDrainP
namespace Go.Proofs.Ytlfhjlkhhaoicaa
set_option linter.unusedVariables false
set_option linter.unusedSimpArgs false

/-- Each number of a clock is one of int's. -/
def ckWf (c : Ck) : Prop := ∀ i, i < 5 → -9223372036854775808 ≤ c.get i ∧ c.get i ≤ 9223372036854775807
/-- An event is ready for a clock. -/
def rdy (c : Ck) (e : Ev) : Prop := 0 ≤ e.r ∧ e.r < 5 ∧ 1 ≤ e.n ∧ e.n = c.get e.r.toNat + 1 ∧ leB e.c c = true
def bump (c : Ck) (e : Ev) : Ck := c.set e.r.toNat e.n
/-- A clock behind a row of events. -/
def after (c : Ck) (d : List Ev) : Ck := d.foldl bump c
/-- Each event of a row is ready when it comes. -/
def runs : Ck → List Ev → Prop
  | _, [] => True
  | c, e :: d => rdy c e ∧ runs (bump c e) d
theorem runs_append : ∀ (c : Ck) (d d' : List Ev), runs c (d ++ d') ↔ runs c d ∧ runs (after c d) d'
  | c, [], d' => by simp [runs, after]
  | c, e :: d, d' => by
    simp only [List.cons_append, runs, after, List.foldl_cons]
    rw [runs_append (bump c e) d d']
    simp [after, and_assoc]
theorem after_append (c : Ck) (d d' : List Ev) : after c (d ++ d') = after (after c d) d' := by simp [after]

theorem leB_refl (c : Ck) : leB c c = true := leB_iff.2 fun i _ => Int.le_refl _
theorem leB_trans {a b c : Ck} (h : leB a b = true) (h' : leB b c = true) : leB a c = true := leB_iff.2 fun i hi => Int.le_trans (leB_iff.1 h i hi) (leB_iff.1 h' i hi)
theorem toNat_lt5 {r : Int} (h0 : 0 ≤ r) (h : r < 5) : r.toNat < 5 := by omega
theorem bump_le {c : Ck} {e : Ev} (h : rdy c e) : leB c (bump c e) = true := leB_iff.2 fun i hi => by
  obtain ⟨h0, h1, h2, h3, _⟩ := h
  unfold bump
  by_cases e1 : i = e.r.toNat
  · subst e1; rw [Ck.get_set_same _ hi]; omega
  · rw [Ck.get_set_ne _ (Ne.symm e1)]; exact Int.le_refl _
theorem hasB_iff {c : Ck} {r n : Int} : hasB c r n = true ↔ 0 ≤ r ∧ r < 5 ∧ 1 ≤ n ∧ n ≤ c.get r.toNat := by unfold hasB; rw [decide_eq_true_iff]
theorem hasB_mono {c c' : Ck} (h : leB c c' = true) {r n : Int} (hh : hasB c r n = true) : hasB c' r n = true := by
  rw [hasB_iff] at *
  obtain ⟨h0, h1, h2, h3⟩ := hh
  have := leB_iff.1 h r.toNat (by omega)
  exact ⟨h0, h1, h2, by omega⟩
theorem bump_has {c : Ck} {e : Ev} (h : rdy c e) : hasB (bump c e) e.r e.n = true := by
  obtain ⟨h0, h1, h2, h3, _⟩ := h
  rw [hasB_iff]
  exact ⟨h0, h1, h2, by unfold bump; rw [Ck.get_set_same _ (by omega)]; exact Int.le_refl _⟩
theorem bump_new {c : Ck} {e : Ev} (h : rdy c e) {r n : Int} (hh : hasB (bump c e) r n = true) (hne : hasB c r n = false) : r = e.r ∧ n = e.n := by
  obtain ⟨h0, h1, h2, h3, _⟩ := h
  rw [hasB_iff] at hh
  obtain ⟨g0, g1, g2, g3⟩ := hh
  rw [Bool.eq_false_iff, ne_eq, hasB_iff] at hne
  unfold bump at g3
  by_cases e1 : r.toNat = e.r.toNat
  · have hr : r = e.r := by omega
    subst hr
    rw [Ck.get_set_same _ (by omega)] at g3
    exact ⟨rfl, by omega⟩
  · rw [Ck.get_set_ne _ (fun x => e1 x.symm)] at g3
    exact absurd ⟨g0, g1, g2, g3⟩ hne
theorem rdy_not_had {c : Ck} {e : Ev} (h : rdy c e) : hasB c e.r e.n = false := by
  obtain ⟨h0, h1, h2, h3, _⟩ := h
  rw [Bool.eq_false_iff, ne_eq, hasB_iff]
  omega

/-! What is kept. -/
def keyed (W : List (Mk × Ev)) : Prop := ∀ p ∈ W, p.1 = p.2.mk'
theorem lookE_none {W : List (Mk × Ev)} {m : Mk} : lookE W m = none ↔ ∀ p ∈ W, m ≠ p.1 := by
  unfold lookE
  rw [Option.map_eq_none_iff, List.find?_eq_none]
  simp
theorem lookE_mem {W : List (Mk × Ev)} {m : Mk} {e : Ev} (h : lookE W m = some e) : (m, e) ∈ W := by
  unfold lookE at h
  obtain ⟨p, hp, rfl⟩ := Option.map_eq_some_iff.1 h
  have h1 := List.mem_of_find?_eq_some hp
  have h2 := List.find?_some hp
  simp only [decide_eq_true_eq] at h2
  subst h2
  exact h1
theorem lookE_of_mem {W : List (Mk × Ev)} (hn : (W.map (·.1)).Nodup) {p : Mk × Ev} (hp : p ∈ W) : lookE W p.1 = some p.2 := by
  induction W with
  | nil => simp at hp
  | cons q W ih =>
    simp only [List.map_cons, List.nodup_cons] at hn
    unfold lookE
    rw [List.find?_cons]
    by_cases e : p.1 = q.1
    · simp only [e, decide_true, Option.map_some]
      rcases List.mem_cons.1 hp with rfl | hp
      · rfl
      · exact absurd (List.mem_map.2 ⟨p, hp, e⟩) hn.1
    · simp only [e, decide_false]
      rcases List.mem_cons.1 hp with rfl | hp
      · exact absurd rfl e
      · exact ih hn.2 hp
/-- The new events of a row: keyed, each mark once, none had. -/
structure Fresh (c : Ck) (W : List (Mk × Ev)) : Prop where
  keyed : keyed W
  nodup : (W.map (·.1)).Nodup
  new : ∀ p ∈ W, hasB c p.1.r p.1.n = false
theorem fresh_step {c : Ck} {W : List (Mk × Ev)} (h : Fresh c W) (e : Ev) : Fresh c (freshStep c W e) := by
  unfold freshStep
  split
  · exact h
  · rename_i hn
    simp only [Bool.or_eq_true, not_or, Bool.not_eq_true] at hn
    obtain ⟨h1, h2⟩ := hn
    have h1' : lookE W e.mk' = none := by
      cases hx : lookE W e.mk' with
      | none => rfl
      | some x => rw [hx] at h1; simp at h1
    refine ⟨fun p hp => ?_, ?_, fun p hp => ?_⟩
    · rcases List.mem_append.1 hp with hp | hp
      · exact h.keyed p hp
      · simp at hp; subst hp; rfl
    · rw [List.map_append, List.nodup_append]
      refine ⟨h.nodup, by simp, fun a ha b hb => ?_⟩
      simp at hb
      subst hb
      obtain ⟨p, hp, rfl⟩ := List.mem_map.1 ha
      exact fun hc => lookE_none.1 h1' p hp hc.symm
    · rcases List.mem_append.1 hp with hp | hp
      · exact h.new p hp
      · simp at hp; subst hp; exact h2
theorem fresh_foldl {c : Ck} : ∀ (l : List Ev) {W : List (Mk × Ev)}, Fresh c W → Fresh c (l.foldl (freshStep c) W)
  | [], _, h => h
  | e :: l, _, h => fresh_foldl l (fresh_step h e)
theorem fresh_W (c : Ck) (l : List Ev) : Fresh c (freshW c l) := fresh_foldl l ⟨fun p hp => by simp at hp, by simp, fun p hp => by simp at hp⟩
theorem foldl_keeps {c : Ck} : ∀ (l : List Ev) (W : List (Mk × Ev)) {p : Mk × Ev}, p ∈ W → p ∈ l.foldl (freshStep c) W
  | [], _, _, h => h
  | e :: l, W, p, h => foldl_keeps l _ (by unfold freshStep; split; exact h; exact List.mem_append_left _ h)
/-- Whoever is new is kept, under its mark. -/
theorem fresh_mem {c : Ck} : ∀ (l : List Ev) (W : List (Mk × Ev)) {e : Ev}, e ∈ l → hasB c e.r e.n = false → ∃ e', (e.mk', e') ∈ l.foldl (freshStep c) W
  | [], _, _, h, _ => by simp at h
  | a :: l, W, e, h, hn => by
    rcases List.mem_cons.1 h with rfl | h
    · rw [List.foldl_cons]
      cases hx : lookE W e.mk' with
      | some x => exact ⟨x, foldl_keeps l _ (by unfold freshStep; rw [if_pos (by simp [hx])]; exact lookE_mem hx)⟩
      | none => exact ⟨e, foldl_keeps l _ (by unfold freshStep; rw [if_neg (by simp [hx, hn])]; exact List.mem_append_right _ (by simp))⟩
    · exact fresh_mem l _ h hn
theorem fresh_from {c : Ck} : ∀ (l : List Ev) (W : List (Mk × Ev)) {p : Mk × Ev}, p ∈ l.foldl (freshStep c) W → p ∈ W ∨ p.2 ∈ l
  | [], _, _, h => .inl h
  | a :: l, W, p, h => by
    rw [List.foldl_cons] at h
    rcases fresh_from l _ h with h | h
    · unfold freshStep at h
      split at h
      · exact .inl h
      · rcases List.mem_append.1 h with h | h
        · exact .inl h
        · simp at h; subst h; exact .inr (by simp)
    · exact .inr (by simp [h])

/-! The loop. -/
def cntD (d : List Ev) (m : Mk) : Nat := d.countP fun e => decide (e.mk' = m)
def cntW (W : List (Mk × Ev)) (m : Mk) : Nat := W.countP fun p => decide (p.1 = m)
structure DInv (c0 : Ck) (W0 : List (Mk × Ev)) (cc : Ck) (Wc : List (Mk × Ev)) (d : List Ev) : Prop where
  wf : ckWf cc
  sub : Wc.Sublist W0
  cnt : ∀ m, cntD d m + cntW Wc m = cntW W0 m
  new : ∀ p ∈ Wc, hasB cc p.1.r p.1.n = false
  run : runs c0 d
  clk : cc = after c0 d
  mem : ∀ e ∈ d, (e.mk', e) ∈ W0
  len : d.length + Wc.length = W0.length
theorem w64_in {x : Int} (h : -9223372036854775808 ≤ x ∧ x ≤ 9223372036854775807) (h1 : 1 ≤ w64 (x + 1)) : w64 (x + 1) = x + 1 := by
  unfold w64 at *
  omega
theorem delE_sub (W : List (Mk × Ev)) (m : Mk) : (delE W m).Sublist W := List.eraseP_sublist
theorem delE_cnt {W : List (Mk × Ev)} {m : Mk} {e : Ev} (h : lookE W m = some e) (m' : Mk) : cntW W m' = cntW (delE W m) m' + if m = m' then 1 else 0 := by
  induction W with
  | nil => simp [lookE] at h
  | cons q W ih =>
    by_cases e1 : m = q.1
    · subst e1
      have : delE (q :: W) q.1 = W := by simp [delE, List.eraseP_cons]
      rw [this]
      unfold cntW
      rw [List.countP_cons]
      by_cases e2 : q.1 = m' <;> simp [e2]
    · have h' : lookE W m = some e := by
        unfold lookE at h ⊢
        rw [List.find?_cons] at h
        simpa [e1] using h
      have hd : delE (q :: W) m = q :: delE W m := by simp [delE, List.eraseP_cons, e1]
      rw [hd]
      have := ih h'
      unfold cntW at *
      rw [List.countP_cons, List.countP_cons, this]
      omega
theorem delE_mem {W : List (Mk × Ev)} (hn : (W.map (·.1)).Nodup) {m : Mk} {p : Mk × Ev} (hp : p ∈ delE W m) : p ∈ W ∧ p.1 ≠ m := by
  refine ⟨(delE_sub W m).subset hp, ?_⟩
  induction W with
  | nil => simp [delE] at hp
  | cons q W ih =>
    simp only [List.map_cons, List.nodup_cons] at hn
    by_cases e1 : m = q.1
    · subst e1
      have : delE (q :: W) q.1 = W := by simp [delE, List.eraseP_cons]
      rw [this] at hp
      exact fun hc => hn.1 (List.mem_map.2 ⟨p, hp, hc⟩)
    · have hd : delE (q :: W) m = q :: delE W m := by simp [delE, List.eraseP_cons, e1]
      rw [hd] at hp
      rcases List.mem_cons.1 hp with rfl | hp
      · exact fun hc => e1 hc.symm
      · exact ih hn.2 hp
theorem ready_rdy {c : Ck} {W : List (Mk × Ev)} (hw : ckWf c) (hk : keyed W) {r : Nat} (hr : r < 5) {e : Ev} (h : readyAt c W r = some e) : rdy c e ∧ e.mk' = nextM c r ∧ e.r.toNat = r ∧ (nextM c r).n = e.n := by
  obtain ⟨h1, h2, h3⟩ := readyAt_look h
  have hm := hk _ (lookE_mem h1)
  simp only at hm
  have hw' := w64_in (hw r hr) h2
  have er : e.r = r := by rw [show e.r = e.mk'.r from rfl, ← hm]; rfl
  have en : e.n = (nextM c r).n := by rw [show e.n = e.mk'.n from rfl, ← hm]
  refine ⟨⟨by omega, by omega, by omega, ?_, h3⟩, hm.symm, by omega, en.symm⟩
  rw [en, er]
  show w64 _ = _
  rw [hw']
  simp
theorem drainL_inv {c0 : Ck} {W0 : List (Mk × Ev)} (hF : Fresh c0 W0) : ∀ (f : Nat) (cc : Ck) (Wc : List (Mk × Ev)) (d : List Ev) (r : Nat), DInv c0 W0 cc Wc d → drainM Wc r ≤ f → r ≤ 5 → (∀ q, q < r → readyAt cc Wc q = none) →
    DInv c0 W0 (drainL f cc Wc d r).1 (drainL f cc Wc d r).2.1 (drainL f cc Wc d r).2.2 ∧ ∀ q, q < 5 → readyAt (drainL f cc Wc d r).1 (drainL f cc Wc d r).2.1 q = none
  | 0, cc, Wc, d, r, _, hf, _, _ => by unfold drainM at hf; omega
  | f + 1, cc, Wc, d, r, hI, hf, hr, hq => by
    unfold drainL
    by_cases h5 : r < 5
    · rw [if_pos h5]
      cases hx : readyAt cc Wc r with
      | none =>
        refine drainL_inv hF f cc Wc d (r + 1) hI (by unfold drainM at *; omega) (by omega) fun q hq' => ?_
        by_cases e : q = r
        · subst e; exact hx
        · exact hq q (by omega)
      | some e =>
        have hkc : keyed Wc := fun p hp => hF.keyed p (hI.sub.subset hp)
        obtain ⟨hrd, hmk, her, hen⟩ := ready_rdy hI.wf hkc h5 hx
        obtain ⟨hlk, _, _⟩ := readyAt_look hx
        have hbump : cc.set r (nextM cc r).n = bump cc e := by unfold bump; rw [her, hen]
        have hnd : (Wc.map (·.1)).Nodup := (hI.sub.map _).nodup hF.nodup
        have hdl := delE_len hlk
        have hcnt := fun m => delE_cnt hlk m
        rw [hbump]
        refine drainL_inv hF f _ _ _ 0 ⟨?_, (delE_sub _ _).trans hI.sub, ?_, ?_, ?_, ?_, ?_, by have := hI.len; simp; omega⟩ (by unfold drainM at *; omega) (by omega) (fun q hq' => by omega)
        · intro i hi
          unfold bump
          by_cases e1 : i = e.r.toNat
          · subst e1
            rw [Ck.get_set_same _ hi]
            rw [← hen]
            have h1 : -9223372036854775808 ≤ w64 (cc.get r + 1) ∧ w64 (cc.get r + 1) ≤ 9223372036854775807 := by unfold w64; omega
            exact h1
          · rw [Ck.get_set_ne _ (Ne.symm e1)]
            exact hI.wf i hi
        · intro m
          have h1 := hI.cnt m
          have h2 := hcnt m
          have h3 : cntD (d ++ [e]) m = cntD d m + if nextM cc r = m then 1 else 0 := by
            unfold cntD
            rw [List.countP_append, List.countP_cons, List.countP_nil, hmk]
            by_cases e2 : nextM cc r = m <;> simp [e2]
          omega
        · intro p hp
          obtain ⟨h1, h2⟩ := delE_mem hnd hp
          cases hh : hasB (bump cc e) p.1.r p.1.n with
          | false => rfl
          | true =>
            obtain ⟨g1, g2⟩ := bump_new hrd hh (hI.new p h1)
            refine absurd ?_ h2
            rw [← hmk]
            have : p.1 = ⟨p.1.r, p.1.n⟩ := rfl
            rw [this, g1, g2]
            rfl
        · rw [runs_append]
          refine ⟨hI.run, ?_⟩
          rw [← hI.clk]
          exact ⟨hrd, trivial⟩
        · rw [after_append, ← hI.clk]
          rfl
        · intro x hx'
          rcases List.mem_append.1 hx' with hx' | hx'
          · exact hI.mem x hx'
          · simp at hx'
            subst hx'
            rw [hmk]
            exact hI.sub.subset (lookE_mem hlk)
    · rw [if_neg h5]
      exact ⟨hI, fun q hq' => hq q (by omega)⟩

theorem fm_congr {α β : Type} {f g : α → Option β} : ∀ {l : List α}, (∀ x ∈ l, f x = g x) → l.filterMap f = l.filterMap g
  | [], _ => rfl
  | a :: l, h => by
    rw [List.filterMap_cons, List.filterMap_cons, h a (by simp), fm_congr fun x hx => h x (by simp [hx])]
/-- What drain leaves, in the order of the row. -/
theorem left_eq : ∀ {Wc W0 : List (Mk × Ev)}, Wc.Sublist W0 → (W0.map (·.1)).Nodup → (W0.filterMap fun p => lookE Wc p.1) = Wc.map (·.2) := by
  intro Wc W0 hs hn
  induction hs with
  | slnil => rfl
  | @cons l1 l2 a hs ih =>
    simp only [List.map_cons, List.nodup_cons] at hn
    have : lookE l1 a.1 = none := lookE_none.2 fun p hp hc => hn.1 (List.mem_map.2 ⟨p, hs.subset hp, hc.symm⟩)
    rw [List.filterMap_cons, this]
    exact ih hn.2
  | @cons_cons l1 l2 a hs ih =>
    simp only [List.map_cons, List.nodup_cons] at hn
    have h1 : lookE (a :: l1) a.1 = some a.2 := by simp [lookE]
    rw [List.filterMap_cons, h1, List.map_cons]
    rw [← ih hn.2]
    show a.2 :: _ = _
    congr 1
    refine fm_congr fun p hp => ?_
    have hne : p.1 ≠ a.1 := fun hc => hn.1 (List.mem_map.2 ⟨p, hp, hc⟩)
    simp [lookE, List.find?_cons, hne]
/-- All that is to be known of drain. -/
theorem drain_inv (c : Ck) (hw : ckWf c) (l : List Ev) : ∃ Wc, drain c l = ((drain c l).1, Wc.map (·.2), after c (drain c l).1) ∧ DInv c (freshW c l) (after c (drain c l).1) Wc (drain c l).1 ∧
    ∀ q, q < 5 → readyAt (after c (drain c l).1) Wc q = none := by
  have hF := fresh_W c l
  obtain ⟨h1, h2⟩ := drainL_inv hF (drainM (freshW c l) 0) c (freshW c l) [] 0 ⟨hw, List.Sublist.refl _, fun m => by simp [cntD], hF.new, trivial, rfl, fun e he => by simp at he, by simp⟩ (Nat.le_refl _) (by omega) (fun q hq => by omega)
  have hc := h1.clk
  refine ⟨(drainL (drainM (freshW c l) 0) c (freshW c l) [] 0).2.1, ?_, ?_, ?_⟩
  · unfold drain
    simp only
    rw [left_eq h1.sub hF.nodup, ← hc]
  · unfold drain
    simp only
    rw [← hc]
    exact h1
  · unfold drain
    simp only
    rw [← hc]
    exact h2

/-! What follows for rows and clocks. -/
theorem runs_le : ∀ {c : Ck} (d : List Ev), runs c d → leB c (after c d) = true
  | c, [], _ => leB_refl c
  | c, e :: d, h => leB_trans (bump_le h.1) (runs_le d h.2)
theorem runs_had : ∀ {c : Ck} (d : List Ev), runs c d → ∀ e ∈ d, hasB (after c d) e.r e.n = true
  | c, a :: d, h, e, he => by
    rcases List.mem_cons.1 he with rfl | he
    · exact hasB_mono (runs_le d h.2) (bump_has h.1)
    · exact runs_had d h.2 e he
theorem fresh_fix {c : Ck} : ∀ (W V : List (Mk × Ev)), Fresh c (V ++ W) → (W.map (·.2)).foldl (freshStep c) V = V ++ W
  | [], V, _ => by simp
  | p :: W, V, h => by
    have hp : p.1 = p.2.mk' := h.keyed p (by simp)
    have hno : lookE V p.2.mk' = none := lookE_none.2 fun q hq hc => by
      have hn := h.nodup
      rw [List.map_append, List.nodup_append] at hn
      exact hn.2.2 q.1 (List.mem_map.2 ⟨q, hq, rfl⟩) p.1 (by simp) (by rw [hp, hc])
    have hnew := h.new p (by simp)
    rw [hp] at hnew
    have hs : freshStep c V p.2 = V ++ [p] := by
      unfold freshStep
      rw [if_neg (by rw [hno]; simp; exact hnew), ← hp]
    rw [List.map_cons, List.foldl_cons, hs, fresh_fix W (V ++ [p]) (by simpa using h)]
    simp
theorem drainL_stay {c : Ck} {W : List (Mk × Ev)} {d : List Ev} (h : ∀ q, q < 5 → readyAt c W q = none) : ∀ (f r : Nat), drainM W r ≤ f → drainL f c W d r = (c, W, d)
  | 0, r, hf => by unfold drainM at hf; omega
  | f + 1, r, hf => by
    unfold drainL
    by_cases h5 : r < 5
    · rw [if_pos h5, h r h5]
      exact drainL_stay h f (r + 1) (by unfold drainM at *; omega)
    · rw [if_neg h5]
theorem fresh_sub {c c' : Ck} {W W' : List (Mk × Ev)} (h : Fresh c W) (hs : W'.Sublist W) (hn : ∀ p ∈ W', hasB c' p.1.r p.1.n = false) : Fresh c' W' :=
  ⟨fun p hp => h.keyed p (hs.subset hp), (hs.map _).nodup h.nodup, hn⟩
/-- To drain what is left does nothing more. -/
theorem drain_again {c : Ck} {W : List (Mk × Ev)} (hF : Fresh c W) (hr : ∀ q, q < 5 → readyAt c W q = none) : drain c (W.map (·.2)) = ([], W.map (·.2), c) := by
  have h1 : freshW c (W.map (·.2)) = W := fresh_fix W [] (by simpa using hF)
  unfold drain
  simp only
  rw [h1, drainL_stay hr _ _ (Nat.le_refl _), left_eq (List.Sublist.refl _) hF.nodup]
theorem cntD_map {W : List (Mk × Ev)} (hk : keyed W) (m : Mk) : cntD (W.map (·.2)) m = cntW W m := by
  unfold cntD cntW
  rw [List.countP_map]
  refine List.countP_congr fun p hp => ?_
  simp only [Function.comp_apply, decide_eq_true_eq]
  rw [hk p hp]
theorem cntW_le {W : List (Mk × Ev)} (hn : (W.map (·.1)).Nodup) (m : Mk) : cntW W m = if (∃ p ∈ W, p.1 = m) then 1 else 0 := by
  induction W with
  | nil => simp [cntW]
  | cons q W ih =>
    simp only [List.map_cons, List.nodup_cons] at hn
    have h := ih hn.2
    unfold cntW at *
    rw [List.countP_cons, h]
    by_cases e : q.1 = m
    · have hno : ¬ ∃ p ∈ W, p.1 = m := fun ⟨p, hp, hc⟩ => hn.1 (List.mem_map.2 ⟨p, hp, hc.trans e.symm⟩)
      simp [e, hno]
    · have : (∃ p ∈ q :: W, p.1 = m) ↔ ∃ p ∈ W, p.1 = m := by simp [e]
      simp only [e, decide_false, Bool.false_eq_true, if_false, Nat.add_zero]
      by_cases hx : ∃ p ∈ W, p.1 = m
      · rw [if_pos hx, if_pos (this.2 hx)]
      · rw [if_neg hx, if_neg (fun hc => hx (this.1 hc))]

/-- ReadyClosed, of the plain functions. -/
structure Closed (c : Ck) (w a b : List Ev) (n : Ck) : Prop where
  again : drain n b = ([], b, n)
  len : a.length + b.length ≤ w.length
  had : ∀ e ∈ w, hasB c e.r e.n = true → cntD a e.mk' + cntD b e.mk' = 0
  new : ∀ e ∈ w, hasB c e.r e.n = false → cntD a e.mk' + cntD b e.mk' = 1
  done : ∀ e ∈ a, hasB n e.r e.n = true
  le : leB c n = true
theorem drain_closed (c : Ck) (hw : ckWf c) (w : List Ev) : Closed c w (drain c w).1 (drain c w).2.1 (drain c w).2.2 := by
  obtain ⟨Wc, hd, hI, hr⟩ := drain_inv c hw w
  have hF := fresh_W c w
  rw [hd]
  have hFc : Fresh (after c (drain c w).1) Wc := fresh_sub hF hI.sub hI.new
  refine ⟨drain_again hFc hr, ?_, ?_, ?_, runs_had _ hI.run, runs_le _ hI.run⟩
  · have := hI.len
    have := freshW_len c w
    simp only [List.length_map]
    omega
  · intro e he hh
    simp only
    rw [cntD_map hFc.keyed, hI.cnt, cntW_le hF.nodup, if_neg]
    rintro ⟨p, hp, hc⟩
    have := hF.new p hp
    rw [hc] at this
    rw [show e.mk'.r = e.r from rfl, show e.mk'.n = e.n from rfl, hh] at this
    simp at this
  · intro e he hh
    simp only
    rw [cntD_map hFc.keyed, hI.cnt, cntW_le hF.nodup, if_pos]
    obtain ⟨e', he'⟩ := fresh_mem w [] he hh
    exact ⟨_, he', rfl⟩

end Go.Proofs.Ytlfhjlkhhaoicaa
