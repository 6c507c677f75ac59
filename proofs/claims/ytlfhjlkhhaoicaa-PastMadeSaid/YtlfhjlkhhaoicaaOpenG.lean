/- How the laws' arguments read: numbers, texts, rows. -/
import Derived.Test.YtlfhjlkhhaoicaaBase
import Derived.ProofKit
import Derived.OpenShut
import Derived.ShutString
import Derived.ChangeOld
import Derived.Deep.Slices
import Derived.Deep.Fields
import Derived.ChangeSame
namespace Go.Proofs.Ytlfhjlkhhaoicaa
set_option linter.unusedVariables false
set_option linter.unusedSimpArgs false
open Go.RowKit Go.ChangeShapes Go.WideShapes Go.Deep

theorem own : ownKnob Try.prog.godebug = none := by kernel_rfl
theorem laidOut : laidOutB Try.prog = true := by kernel_rfl

theorem okWide_array {P : Program} {w : World} {r : Reach} {base : Nat} {t : TypeId} {v : Value} {n : Nat} {e : TypeId} (ht : P.underlying t = some (.array n e)) (h : Value.okWide P w r base t v) : ∃ cs, v = .agg cs := by
  simp only [Value.okWide, ht] at h
  obtain ⟨cs, h1, _⟩ := h
  exact ⟨cs, h1⟩
section
variable {H : Type} {enc : TypeId × Value → H} {w : World} {fuel : Nat} {cs : List Value} {x : DataW H × List MemPlace}
noncomputable abbrev rd (enc : TypeId × Value → H) (w : World) (fuel : Nat) (t : TypeId) (cs : List Value) := DataW.trod enc Try.prog w 0 (fun _ => true) true fuel t cs
def in64 (n : Int) : Prop := -9223372036854775808 ≤ n ∧ n ≤ 9223372036854775807
theorem in64_of {n : Int} (h : (Lit.int .i64 n).wf = true) : in64 n := by
  simp [Lit.wf, IntKind.min, IntKind.max, IntKind.signed, IntKind.bits] at h
  unfold in64
  omega
theorem rd_int (h : rd enc w fuel 3 cs = some x) : ∃ n, cs = [.int .i64 n] ∧ in64 n := by
  obtain ⟨n, h1, _, h2⟩ := DataW.trod_int Try.underlying3 h
  exact ⟨n, h1, in64_of h2⟩
theorem rd_string (h : rd enc w fuel 9 cs = some x) : ∃ s : ByteArray, cs = [.string s] ∧ s.size ≤ maxLen := by
  obtain ⟨s, h1, _, h2⟩ := DataW.trod_string Try.underlying9 h
  exact ⟨s, h1, h2⟩
theorem one_int {i j : Nat} {cs : List Value} {n : Int} (h : (cs.drop i).take 1 = [.int .i64 n]) : cs[i]? = some (.int .i64 n) := by
  have : ((cs.drop i).take 1)[0]? = some (.int .i64 n) := by rw [h]; rfl
  rw [List.getElem?_take_of_lt (by omega), List.getElem?_drop] at this
  simpa using this
/-- A slice whose elements read one by one. -/
theorem rd_row {α : Type} [Inhabited α] (K : Kn α) (Wf : α → Prop) {t e : TypeId} (ht : Try.prog.underlying t = some (.slice e)) (hC : Try.prog.cellsOf e = K.sz)
    (hdec : ∀ (n : Nat) (cs : List Value) (x : DataW H × List MemPlace), rd enc w n e cs = some x → ∃ y : α, cs = K.enc y ∧ Wf y) (h : rd enc w fuel t cs = some x) :
    ∃ (A : Option Addr) (cap : Nat) (l : List α), cs = [.slice A l.length cap] ∧ l.length ≤ cap ∧ cap ≤ maxLen ∧ K.row w A l ∧ ∀ y ∈ l, Wf y := by
  rcases open_slice ht h with ⟨rfl, _⟩ | ⟨a, len, cap, m, n, D, Pl, rfl, _, hlc, hcm, hm, _, hi⟩
  · exact ⟨none, 0, [], rfl, by simp, by unfold maxLen; omega, .inl rfl, fun _ h => by simp at h⟩
  · have hlm : len ≤ m := by rw [hm]; split <;> omega
    have hget : ∀ i, ∃ y : α, i < len → (∀ (j : Nat) (u : Value), (K.enc y)[j]? = some u → w.cell? ((a.add (i * K.sz)).add j) = some u) ∧ Wf y := fun i => by
      by_cases hl : i < len
      · obtain ⟨cs', hc, ht'⟩ := hi i (by omega)
        rw [hC] at hc
        obtain ⟨_, hcl, hat⟩ := World.cells?_some hc
        obtain ⟨y, rfl, hy⟩ := hdec _ _ _ ht'
        refine ⟨y, fun _ => ⟨fun j u hu => ?_, hy⟩⟩
        rw [hat j (by have := (List.getElem?_eq_some_iff.1 hu).1; omega), hu]
      · exact ⟨default, fun h => absurd h hl⟩
    let f : Nat → α := fun i => Classical.choose (hget i)
    have hf : ∀ i, i < len → (∀ (j : Nat) (u : Value), (K.enc (f i))[j]? = some u → w.cell? ((a.add (i * K.sz)).add j) = some u) ∧ Wf (f i) := fun i => Classical.choose_spec (hget i)
    have hl : ((List.range len).map f).length = len := by simp
    refine ⟨some a, cap, (List.range len).map f, by rw [hl], by rw [hl]; exact hlc, hcm, ?_, fun y hy => ?_⟩
    · by_cases h0 : len = 0
      · left; subst h0; rfl
      · right
        obtain ⟨b, off, spot⟩ := a
        have hp := K.pos
        have hl0 := K.len (f 0)
        have hc0 := (hf 0 (by omega)).1 0 _ (List.getElem?_eq_getElem (by omega))
        have hsp : spot = none := by simpa [Addr.add] using World.cell?_spot hc0
        subst hsp
        refine ⟨b, off, rfl, ?_, fun k y hk j u hu => ?_⟩
        · have := World.block_lt_of_cell? w _ hc0
          simpa [Addr.add] using this
        · have hkl : k < len := by have := (List.getElem?_eq_some_iff.1 hk).1; rwa [hl] at this
          have hy : y = f k := by simp [hkl] at hk; exact hk.symm
          subst hy
          have := (hf k hkl).1 j u hu
          rw [add_add] at this
          unfold Addr.add at this
          split at this
          · rename_i h00
            rw [show off + k * K.sz + j = off from by omega]
            exact this
          · rw [Nat.add_assoc]
            exact this
    · obtain ⟨i, hi', rfl⟩ := List.mem_map.1 hy
      exact (hf i (by simpa using hi')).2
end
end Go.Proofs.Ytlfhjlkhhaoicaa
