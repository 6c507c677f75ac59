/- One event more: plain facts for kithlaw08.PastMore. -/
import Derived.Test.YtlfhjlkhhaoicaaPastR
import Derived.Test.YtlfhjlkhhaoicaaL08
namespace Go.Proofs.Ytlfhjlkhhaoicaa
set_option linter.unusedVariables false
set_option linter.unusedSimpArgs false
def moreE (k : Nat) (c : Ck) (h : Int) : Ev := ⟨k, c.get k + 1, c, h, 1, keyCy, 0, ByteArray.empty⟩
def Ev.up (e : Ev) : Ev := { e with h := e.h + 1 }
theorem moreE_ed (k : Nat) (c : Ck) (h : Int) : (moreE k c h).ed := ⟨by simp [moreE], by simp [moreE], .inr (.inr rfl), fun _ => ⟨rfl, rfl⟩, fun h => by simp [moreE] at h⟩
structure MoreOK (p : List Ev) (c : Ck) (k : Nat) (e : Ev) : Prop where
  past : Past (p ++ [e])
  clk : isClock (p ++ [e]) (c.set k (c.get k + 1))
  evs : ∀ x ∈ p ++ [e], evOk x
  high : ¬ rightP (p ++ [e.up])
  evs2 : ∀ x ∈ p ++ [e.up], evOk x
  hh : 0 ≤ e.h ∧ e.h ≤ 100
theorem more_ok {p : List Ev} (hP : Past p) {c : Ck} (hc : isClock p c) {k : Nat} (hk : k < 5) {h : Int} (hh : isHeight p c h) (hlen : p.length ≤ 40) : MoreOK p c k (moreE k c h) := by
  obtain ⟨h1, h2⟩ := hP.more hc (e := moreE k c h) hk rfl rfl rfl hh (moreE_ed k c h) (by omega)
  have hm := h1.may (moreE k c h) (by simp)
  have hle := h1.hle (e := moreE k c h) (by simp)
  have hle2 : (moreE k c h).h ≤ 41 := by rw [List.length_append] at hle; simp at hle; omega
  have hh1 := hm.h1
  have hnew : hasB c (moreE k c h).up.r (moreE k c h).up.n = false := by
    rw [Bool.eq_false_iff, ne_eq, hasB_iff]
    rintro ⟨_, _, _, h4⟩
    simp [moreE, Ev.up] at h4
    omega
  refine ⟨h1, h2, h1.evOk, Past.more_high (e := moreE k c h) hnew rfl hh rfl, fun x hx => ?_, by omega, by omega⟩
  rcases List.mem_append.1 hx with hx | hx
  · exact hP.evOk x hx
  · have : x = (moreE k c h).up := by simpa using hx
    subst this
    exact ⟨.inl ⟨hm.r0, hm.r5, hm.n1, hm.nm, hm.own, by show 1 ≤ (moreE k c h).h + 1; omega, by show (moreE k c h).h + 1 ≤ _; omega, hm.c0, hm.cm⟩, moreE_ed k c h, by show 0 ≤ (moreE k c h).h + 1; omega, by show (moreE k c h).h + 1 ≤ _; omega⟩
theorem isClock.bd {l : List Ev} {c : Ck} (h : isClock l c) {i : Nat} (hi : i < 5) : 0 ≤ c.get i ∧ c.get i ≤ l.length := by
  obtain ⟨h0, h1, _⟩ := h i hi
  refine ⟨h0, ?_⟩
  have := few_of (l := l) (i := i) (n := (c.get i).toNat) (fun k a b => h1 k a (by omega))
  omega
def sumTo (c : Ck) : Nat → Int
  | 0 => 0
  | i + 1 => sumTo c i + c.get i
theorem sumTo_bd {l : List Ev} {c : Ck} (h : isClock l c) : ∀ i, i ≤ 5 → 0 ≤ sumTo c i ∧ sumTo c i ≤ i * l.length
  | 0, _ => by simp [sumTo]
  | i + 1, hi => by
    have h1 := sumTo_bd h i (by omega)
    have h2 := h.bd (i := i) (by omega)
    unfold sumTo
    push_cast
    rw [Int.add_mul]
    omega
theorem sumTo_5 (c : Ck) : sumTo c 5 = sumC c := by simp [sumTo, sumC, Ck.get]
end Go.Proofs.Ytlfhjlkhhaoicaa
