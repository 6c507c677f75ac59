/- How the laws' arguments read: stamps. -/
import Derived.Test.YtldlbnigjomjoaaStampP
import Derived.Test.YtldlbnigjomjoaaStamp
import Derived.Test.YtldlbnigjomjoaaOpenG
namespace Go.Proofs.Ytldlbnigjomjoaa
set_option linter.unusedVariables false
set_option linter.unusedSimpArgs false
open Go.RowKit Go.ChangeShapes Go.WideShapes Go.Deep

section
variable {H : Type} {enc : TypeId × Value → H} {w : World} {fuel : Nat} {cs : List Value} {x : DataW H × List MemPlace}
def stWf (s : St) : Prop := in64 s.h ∧ in64 s.r
theorem rd_st (h : rd enc w fuel 23 cs = some x) : ∃ s : St, cs = stK.enc s ∧ stWf s := by
  obtain ⟨xs, m, _, _, hl, hn, hx⟩ := DataW.trod_struct (P := Try.prog) Try.underlying23 h
  have hC : Try.prog.cellsOf 23 = 2 := by kernel_rfl
  have hI : Try.prog.cellsOf 3 = 1 := by kernel_rfl
  rw [hC] at hl
  match cs, hl, xs, hn with
  | [c0, c1], _, [y0, y1], _ =>
    have g0 := hx 0 { name := "Height", type := 3, offset := 0, embedded := false, tag := "", pkgPath := "", byteOffset := 0 } rfl
    have g1 := hx 1 { name := "R", type := 3, offset := 1, embedded := false, tag := "", pkgPath := "", byteOffset := 8 } rfl
    dsimp only at g0 g1
    rw [hI] at g0 g1
    obtain ⟨n0, e0, w0⟩ := rd_int g0
    obtain ⟨n1, e1, w1⟩ := rd_int g1
    simp at e0 e1
    subst e0 e1
    exact ⟨⟨n0, n1⟩, rfl, w0, w1⟩
/-- A stamp that comes by value. -/
theorem arg_st {v : Value} {d : DataW H} {ps : List MemPlace} (hv : ∃ cs, v = .agg cs ∧ cs.size = Try.prog.cellsOf 23) (h : DataW.Trod enc Try.prog w 0 (fun _ => true) true 23 v d ps) : ∃ s : St, v = .agg #[.int .i64 s.h, .int .i64 s.r] ∧ stWf s := by
  obtain ⟨cs, rfl, _⟩ := hv
  obtain ⟨fuel, hf⟩ := h
  obtain ⟨c, hc, hw⟩ := rd_st hf
  refine ⟨c, ?_, hw⟩
  obtain ⟨l⟩ := cs
  simp only [Value.cells] at hc
  rw [hc]
  rfl
/-- A slice of stamps that comes. -/
theorem arg_sts {v : Value} {d : DataW H} {ps : List MemPlace} (hv : ∃ a len cap, v = .slice a len cap) (h : DataW.Trod enc Try.prog w 0 (fun _ => true) true 24 v d ps) :
    ∃ (A : Option Addr) (cap : Nat) (l : List St), v = .slice A l.length cap ∧ l.length ≤ cap ∧ cap ≤ maxLen ∧ stK.row w A l ∧ ∀ y ∈ l, stWf y := by
  obtain ⟨a, len, cp, rfl⟩ := hv
  obtain ⟨fuel, hf⟩ := h
  obtain ⟨A, cap, l, hcs, h⟩ := rd_row stK stWf Try.underlying24 (by kernel_rfl) (fun _ _ _ h => rd_st h) hf
  simp [Value.cells] at hcs
  obtain ⟨rfl, rfl, rfl⟩ := hcs
  exact ⟨_, _, l, rfl, h⟩
theorem arg_i64 {v : Value} {d : DataW H} {ps : List MemPlace} (hv : ∃ n, v = .int .i64 n) (h : DataW.Trod enc Try.prog w 0 (fun _ => true) true 3 v d ps) : ∃ n, v = .int .i64 n ∧ in64 n := by
  obtain ⟨n, rfl⟩ := hv
  obtain ⟨fuel, hf⟩ := h
  obtain ⟨m, hm, hw⟩ := rd_int hf
  simp [Value.cells] at hm
  subst hm
  exact ⟨n, rfl, hw⟩
theorem arg_byte {v : Value} {d : DataW H} {ps : List MemPlace} (hv : ∃ n, v = .int .u8 n) (h : DataW.Trod enc Try.prog w 0 (fun _ => true) true 5 v d ps) : ∃ n : Nat, v = .int .u8 n ∧ n ≤ 255 := by
  obtain ⟨n, rfl⟩ := hv
  obtain ⟨fuel, hf⟩ := h
  obtain ⟨m, hm, _, hw⟩ := DataW.trod_int Try.underlying5 hf
  simp [Value.cells] at hm
  subst hm
  simp [Lit.wf, IntKind.min, IntKind.max, IntKind.signed, IntKind.bits] at hw
  exact ⟨n.toNat, by rw [Int.toNat_of_nonneg hw.1], by omega⟩
theorem arg_u16 {v : Value} {d : DataW H} {ps : List MemPlace} (hv : ∃ n, v = .int .u16 n) (h : DataW.Trod enc Try.prog w 0 (fun _ => true) true 34 v d ps) : ∃ n : Nat, v = .int .u16 n ∧ n ≤ 65535 := by
  obtain ⟨n, rfl⟩ := hv
  obtain ⟨fuel, hf⟩ := h
  obtain ⟨m, hm, _, hw⟩ := DataW.trod_int Try.underlying34 hf
  simp [Value.cells] at hm
  subst hm
  simp [Lit.wf, IntKind.min, IntKind.max, IntKind.signed, IntKind.bits] at hw
  exact ⟨n.toNat, by rw [Int.toNat_of_nonneg hw.1], by omega⟩
theorem arg_two {v : Value} {d : DataW H} {ps : List MemPlace} (hv : ∃ cs, v = .agg cs) (h : DataW.Trod enc Try.prog w 0 (fun _ => true) true 33 v d ps) : ∃ x y, v = .agg #[.int .i64 x, .int .i64 y] ∧ in64 x ∧ in64 y := by
  obtain ⟨cs, rfl⟩ := hv
  obtain ⟨fuel, hf⟩ := h
  obtain ⟨xs, m, _, _, hl, hn, hx⟩ := DataW.trod_array (P := Try.prog) Try.underlying33 hf
  have hC : Try.prog.cellsOf 33 = 2 := by kernel_rfl
  have hI : Try.prog.cellsOf 3 = 1 := by kernel_rfl
  rw [hC] at hl
  rw [hI] at hx
  obtain ⟨l⟩ := cs
  simp only [Value.cells] at hl hx
  match l, hl, xs, hn with
  | [c0, c1], _, [y0, y1], _ =>
    obtain ⟨n0, e0, w0⟩ := rd_int (hx 0 (by omega))
    obtain ⟨n1, e1, w1⟩ := rd_int (hx 1 (by omega))
    simp at e0 e1
    subst e0 e1
    exact ⟨n0, n1, rfl, w0, w1⟩
end
end Go.Proofs.Ytldlbnigjomjoaa
