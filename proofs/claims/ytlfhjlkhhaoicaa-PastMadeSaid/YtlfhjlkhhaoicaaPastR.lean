/- More on pasts, in plain Lean: one event more, one event spoilt, one left out, and how many there are. -/
import Derived.Test.YtlfhjlkhhaoicaaDrainQ
namespace Go.Proofs.Ytlfhjlkhhaoicaa
set_option linter.unusedVariables false
set_option linter.unusedSimpArgs false

theorem Past.heights : ∀ (n : Nat) (l : List Ev), l.length = n → Past l → ∀ e ∈ l, e.h ≤ l.length
  | 0, l, hn, _ => by
    have := List.eq_nil_of_length_eq_zero hn
    subst this; simp
  | n + 1, l, hn, h => by
    rcases List.eq_nil_or_concat l with rfl | ⟨l', e, rfl⟩
    · simp at hn
    · rw [List.concat_eq_append] at h hn ⊢
      have hl' : l'.length = n := by simp at hn; exact hn
      have hP' : Past l' := by
        have := h.take l'.length
        simpa using this
      have ih := Past.heights n l' hl' hP'
      intro x hx
      rw [List.length_append]
      rcases List.mem_append.1 hx with hx | hx
      · have := ih x hx; simp; omega
      · have xe : x = e := by simpa using hx
        subst xe
        rcases (h.height x (by simp)).eq with ⟨h1, _⟩ | ⟨y, hy, hb, h1⟩
        · simp; omega
        · obtain ⟨z, hz, a, b, _⟩ := h.pre l' x [] rfl y.r y.n hb
          have hzy : z = y := mk_uniq h.nodup (List.mem_append_left _ hz) hy a b
          subst hzy
          have := ih z hz
          simp; omega
theorem Past.hle {l : List Ev} (h : Past l) {e : Ev} (he : e ∈ l) : e.h ≤ l.length := Past.heights _ l rfl h e he
theorem Past.nle {l : List Ev} (h : Past l) {e : Ev} (he : e ∈ l) : e.n ≤ l.length + 1 := by
  have hm := h.may e he
  have := h.few he (i := e.r.toNat) (by have := hm.r0; have := hm.r5; omega)
  rw [hm.own] at this
  omega
theorem isClock.inv {l : List Ev} (h : Past l) {c : Ck} (hc : isClock l c) : PInv l (fun _ => c) :=
  ⟨h, fun _ _ i hi => (hc i hi).1, fun _ _ r n hb => by
    obtain ⟨x, hx, a, b⟩ := clock_of hc hb
    exact ⟨x, hx, a, b, h.clock_le hc hx⟩, fun e he => (hasB_iff.1 (h.clock_has hc he)).2.2.2, fun e he => h.hle he⟩
theorem isClock.snoc {l : List Ev} {c : Ck} (hc : isClock l c) (hh : ∀ x ∈ l, hasB c x.r x.n = true) {e : Ev} {r : Nat} (hr : r < 5) (er : e.r = r) (en : e.n = c.get r + 1) : isClock (l ++ [e]) (c.set r e.n) := fun i hi => by
  obtain ⟨h0, h1, h2⟩ := hc i hi
  by_cases e1 : i = r
  · subst e1
    rw [Ck.get_set_same _ hi]
    refine ⟨by omega, fun k a b => ?_, ?_⟩
    · by_cases hk : k = e.n
      · exact ⟨e, by simp, by rw [er], by rw [hk]⟩
      · obtain ⟨x, hx, y⟩ := h1 k a (by omega)
        exact ⟨x, List.mem_append_left _ hx, y⟩
    · rintro ⟨x, hx, a, b⟩
      rcases List.mem_append.1 hx with hx | hx
      · have := (hasB_iff.1 (hh x hx)).2.2.2
        rw [a, Int.toNat_natCast] at this
        omega
      · have xe : x = e := by simpa using hx
        subst xe; omega
  · rw [Ck.get_set_ne _ (Ne.symm e1)]
    refine ⟨h0, fun k a b => ?_, ?_⟩
    · obtain ⟨x, hx, y⟩ := h1 k a b
      exact ⟨x, List.mem_append_left _ hx, y⟩
    · rintro ⟨x, hx, a, b⟩
      rcases List.mem_append.1 hx with hx | hx
      · exact h2 ⟨x, hx, a, b⟩
      · have xe : x = e := by simpa using hx
        subst xe; omega
def sumC (c : Ck) : Int := c.x0 + c.x1 + c.x2 + c.x3 + c.x4
theorem sumC_set (c : Ck) {i : Nat} (hi : i < 5) (v : Int) : sumC (c.set i v) = sumC c - c.get i + v := by
  rcases lt5 hi with rfl | rfl | rfl | rfl | rfl <;> simp [sumC, Ck.set, Ck.get] <;> omega
theorem clock_ex : ∀ (n : Nat) (l : List Ev), l.length = n → Past l → ∃ c, isClock l c ∧ sumC c = l.length
  | 0, l, hn, _ => by
    have := List.eq_nil_of_length_eq_zero hn
    subst this
    exact ⟨Ck.zero, fun i hi => by rw [zero_get i hi]; exact ⟨by omega, fun k a b => by omega, fun ⟨x, hx, _⟩ => by simp at hx⟩, rfl⟩
  | n + 1, l, hn, h => by
    rcases List.eq_nil_or_concat l with rfl | ⟨l', e, rfl⟩
    · simp at hn
    · rw [List.concat_eq_append] at h hn ⊢
      have hl' : l'.length = n := by simp at hn; exact hn
      have hP' : Past l' := by
        have := h.take l'.length
        simpa using this
      obtain ⟨c, hc, hs⟩ := clock_ex n l' hl' hP'
      have hm := h.may e (by simp)
      have hi : e.r.toNat < 5 := by have := hm.r0; have := hm.r5; omega
      have hr : ((e.r.toNat : Nat) : Int) = e.r := by have := hm.r0; omega
      have hle : leB e.c c = true := le_of_has (fun i hi => (hc i hi).1) fun r k hb => by
        obtain ⟨x, hx, a, b, _⟩ := h.pre l' e [] rfl r k hb
        have := hP'.clock_has hc hx
        rw [a, b] at this
        exact this
      have h1 := leB_iff.1 hle e.r.toNat hi
      rw [hm.own] at h1
      have h2 : ¬ e.n ≤ c.get e.r.toNat := fun hc' => by
        obtain ⟨x, hx, a, b⟩ := clock_of hc (hasB_iff.2 ⟨hm.r0, hm.r5, hm.n1, hc'⟩)
        have := h.nodup
        rw [List.map_append, List.nodup_append] at this
        exact this.2.2 x.mk' (List.mem_map.2 ⟨x, hx, rfl⟩) e.mk' (by simp) (by unfold Ev.mk'; rw [a, b])
      have en : e.n = c.get e.r.toNat + 1 := by omega
      refine ⟨c.set e.r.toNat e.n, hc.snoc (fun x hx => hP'.clock_has hc hx) hi hr.symm en, ?_⟩
      rw [sumC_set _ hi, hs]
      simp
      omega
theorem Past.sum {l : List Ev} (h : Past l) {c : Ck} (hc : isClock l c) : sumC c = l.length := by
  obtain ⟨c', hc', hs⟩ := clock_ex _ l rfl h
  rw [hc.uniq hc']
  exact hs
/-- One event more, that has seen all. -/
theorem Past.more {l : List Ev} (h : Past l) {c : Ck} (hc : isClock l c) {e : Ev} {r : Nat} (hr : r < 5) (er : e.r = r) (en : e.n = c.get r + 1) (ec : e.c = c) (eh : isHeight l c e.h) (ed : e.ed) (hlen : l.length ≤ 1000) :
    Past (l ++ [e]) ∧ isClock (l ++ [e]) (c.set r e.n) :=
  ⟨((hc.inv h).edit hr er en ec eh ed hlen).past, hc.snoc (fun x hx => h.clock_has hc hx) hr er en⟩
/-- The same, but higher, is not right. -/
theorem Past.more_high {l : List Ev} {c : Ck} {e e' : Ev} (hn : hasB c e'.r e'.n = false) (ec : e'.c = c) (eh : isHeight l c e.h) (hh : e'.h = e.h + 1) : ¬ rightP (l ++ [e']) := fun hR => by
  have h1 := hR.height e' (by simp)
  rw [ec] at h1
  have h2 : isHeight (l ++ [e']) c e.h := eh.of_mem fun x hx => by
    rw [List.mem_append]
    refine ⟨.inl, fun a => a.resolve_right fun a => ?_⟩
    have xe : x = e' := by simpa using a
    rw [xe, hn] at hx
    simp at hx
  have := h1.uniq h2
  omega

/-! One event is spoilt. -/
section
variable {l : List Ev} (h : Past l) {k : Nat} {y : Ev} (hy : l[k]? = some y)
include h hy
theorem self_new : hasB y.c y.r y.n = false := by
  have hm := h.may y (List.mem_of_getElem? hy)
  rw [Bool.eq_false_iff, ne_eq, hasB_iff]
  rintro ⟨_, _, _, h3⟩
  rw [hm.own] at h3
  omega
theorem spoilt_height {y' : Ev} (hr : y'.r = y.r) (hn : y'.n = y.n) (hc : y'.c = y.c) (hh : y'.h = y.h + 1) : ¬ rightP (l.set k y') := fun hR => by
  have hlt := (List.getElem?_eq_some_iff.1 hy).1
  have hyl := List.mem_of_getElem? hy
  have hy' : y' ∈ l.set k y' := List.mem_set hlt y'
  have h1 := hR.height y' hy'
  rw [hc] at h1
  have h2 : isHeight (l.set k y') y.c y.h := (h.height y hyl).of_mem fun x hx => by
    constructor
    · intro hxl
      obtain ⟨i, hi⟩ := List.getElem?_of_mem hxl
      by_cases e : i = k
      · subst e
        rw [hy] at hi
        obtain rfl := Option.some.inj hi
        rw [self_new h hy] at hx
        simp at hx
      · exact List.mem_of_getElem? (i := i) (by rw [List.getElem?_set_ne (Ne.symm e)]; exact hi)
    · intro hxs
      rcases List.mem_or_eq_of_mem_set hxs with hxl | rfl
      · exact hxl
      · rw [hr, hn, self_new h hy] at hx
        simp at hx
  have := h1.uniq h2
  omega
theorem spoilt_own {y' : Ev} (hr : y'.r = y.r) (hc : y'.c = y.c) (hn : y'.n = y.n + 1) : ¬ rightP (l.set k y') := fun hR => by
  have hlt := (List.getElem?_eq_some_iff.1 hy).1
  have h1 := (hR.may y' (List.mem_set hlt y')).own
  have h2 := (h.may y (List.mem_of_getElem? hy)).own
  rw [hr, hc, hn] at h1
  omega
theorem mem_without {x : Ev} : x ∈ l.take k ++ l.drop (k + 1) ↔ x ∈ l ∧ x ≠ y := by
  have hl : l = l.take k ++ y :: l.drop (k + 1) := by
    obtain ⟨hlt, hge⟩ := List.getElem?_eq_some_iff.1 hy
    rw [← hge, ← List.drop_eq_getElem_cons hlt, List.take_append_drop]
  have hnd := nodup_of_map h.nodup
  rw [hl, List.nodup_append] at hnd
  obtain ⟨h1, h2, h3⟩ := hnd
  rw [List.nodup_cons] at h2
  constructor
  · intro hx
    refine ⟨?_, fun hc => ?_⟩
    · rw [hl]
      rcases List.mem_append.1 hx with hx | hx
      · exact List.mem_append_left _ hx
      · exact List.mem_append_right _ (List.mem_cons_of_mem _ hx)
    · subst hc
      rcases List.mem_append.1 hx with hx | hx
      · exact h3 x hx x (by simp) rfl
      · exact h2.1 hx
  · rintro ⟨hx, hne⟩
    rw [hl] at hx
    rcases List.mem_append.1 hx with hx | hx
    · exact List.mem_append_left _ hx
    · rcases List.mem_cons.1 hx with hx | hx
      · exact absurd hx hne
      · exact List.mem_append_right _ hx
theorem without_past (hno : ∀ x ∈ l, hasB x.c y.r y.n = false) : Past (l.take k ++ l.drop (k + 1)) := by
  have hs : (l.take k ++ l.drop (k + 1)).Sublist l := by
    conv => rhs; rw [← List.take_append_drop k l]
    exact List.Sublist.append (List.Sublist.refl _) (by rw [← List.drop_drop (i := 1) (j := k)] <;> first | exact List.drop_sublist _ _ | skip)
  refine h.sub hs fun e he x hx hb => (mem_without h hy).2 ⟨hx, fun hc => ?_⟩
  subst hc
  rw [hno e (hs.subset he)] at hb
  simp at hb
theorem without_not {x : Ev} (hx : x ∈ l) (hb : hasB x.c y.r y.n = true) : ¬ rightP (l.take k ++ l.drop (k + 1)) := fun hR => by
  have hxy : x ≠ y := fun hc => by subst hc; rw [self_new h hy] at hb; simp at hb
  obtain ⟨z, hz, a, b, _⟩ := hR.down x ((mem_without h hy).2 ⟨hx, hxy⟩) y.r y.n hb
  obtain ⟨hzl, hzy⟩ := (mem_without h hy).1 hz
  exact hzy (mk_uniq h.nodup hzl (List.mem_of_getElem? hy) a b)
end
theorem spoilt_clock {l : List Ev} (h : Past l) {k : Nat} {y : Ev} (hy : l[k]? = some y) {y' : Ev} {i : Nat} (hi : i < 5) (hc : y'.c.get i = 1 + l.length) : ¬ rightP (l.set k y') := fun hR => by
  have hlt := (List.getElem?_eq_some_iff.1 hy).1
  have := hR.few y' (List.mem_set hlt y') i hi
  rw [List.length_set] at this
  omega
theorem spoilt_twice {l : List Ev} (h : Past l) {k : Nat} {y : Ev} (hy : l[k]? = some y) : ¬ rightP (l ++ [y]) := fun hR => by
  have := hR.nodup
  rw [List.map_append, List.nodup_append] at this
  exact this.2.2 y.mk' (List.mem_map.2 ⟨y, List.mem_of_getElem? hy, rfl⟩) y.mk' (by simp) rfl
end Go.Proofs.Ytlfhjlkhhaoicaa
