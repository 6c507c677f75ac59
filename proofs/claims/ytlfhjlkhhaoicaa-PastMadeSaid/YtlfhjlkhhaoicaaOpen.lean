/- How the laws' arguments read: clocks, events. -/
import Derived.Test.YtlfhjlkhhaoicaaWords
import Derived.Test.YtlfhjlkhhaoicaaDrainL
import Derived.Test.YtlfhjlkhhaoicaaOpenG
namespace Go.Proofs.Ytlfhjlkhhaoicaa
set_option linter.unusedVariables false
set_option linter.unusedSimpArgs false
open Go.RowKit Go.ChangeShapes Go.WideShapes Go.Deep

section
variable {H : Type} {enc : TypeId × Value → H} {w : World} {fuel : Nat} {cs : List Value} {x : DataW H × List MemPlace}
theorem rd_ck (h : rd enc w fuel 23 cs = some x) : ∃ c : Ck, cs = [Value.int .i64 c.x0, Value.int .i64 c.x1, Value.int .i64 c.x2, Value.int .i64 c.x3, Value.int .i64 c.x4] ∧ ckWf c := by
  obtain ⟨xs, m, _, _, hl, hn, hx⟩ := DataW.trod_array (P := Try.prog) Try.underlying23 h
  have hC : Try.prog.cellsOf 23 = 5 := by kernel_rfl
  have hI : Try.prog.cellsOf 3 = 1 := by kernel_rfl
  rw [hC] at hl
  rw [hI] at hx
  match cs, hl, xs, hn with
  | [c0, c1, c2, c3, c4], _, [y0, y1, y2, y3, y4], _ =>
    obtain ⟨n0, e0, w0⟩ := rd_int (hx 0 (by omega))
    obtain ⟨n1, e1, w1⟩ := rd_int (hx 1 (by omega))
    obtain ⟨n2, e2, w2⟩ := rd_int (hx 2 (by omega))
    obtain ⟨n3, e3, w3⟩ := rd_int (hx 3 (by omega))
    obtain ⟨n4, e4, w4⟩ := rd_int (hx 4 (by omega))
    simp at e0 e1 e2 e3 e4
    subst e0 e1 e2 e3 e4
    refine ⟨⟨n0, n1, n2, n3, n4⟩, rfl, fun i hi => ?_⟩
    rcases lt5 hi with rfl | rfl | rfl | rfl | rfl <;> assumption
/-- A clock that comes by value. -/
theorem arg_ck {v : Value} {d : DataW H} {ps : List MemPlace} (hv : ∃ cs, v = .agg cs) (h : DataW.Trod enc Try.prog w 0 (fun _ => true) true 23 v d ps) : ∃ c : Ck, v = .agg #[.int .i64 c.x0, .int .i64 c.x1, .int .i64 c.x2, .int .i64 c.x3, .int .i64 c.x4] ∧ ckWf c := by
  obtain ⟨cs, rfl⟩ := hv
  obtain ⟨fuel, hf⟩ := h
  obtain ⟨c, hc, hw⟩ := rd_ck hf
  refine ⟨c, ?_, hw⟩
  obtain ⟨l⟩ := cs
  simp only [Value.cells] at hc
  rw [hc]
def evWf (e : Ev) : Prop := in64 e.r ∧ in64 e.n ∧ ckWf e.c ∧ in64 e.h ∧ in64 e.k ∧ e.key.size ≤ maxLen ∧ in64 e.lab ∧ e.val.size ≤ maxLen
set_option maxRecDepth 100000 in
theorem rd_ev (h : rd enc w fuel 31 cs = some x) : ∃ e : Ev, cs = evK.enc e ∧ evWf e := by
  obtain ⟨xs, m, _, _, hl, hn, hx⟩ := DataW.trod_struct (P := Try.prog) Try.underlying31 h
  have hC : Try.prog.cellsOf 31 = 12 := by kernel_rfl
  have hI : Try.prog.cellsOf 3 = 1 := by kernel_rfl
  have hS : Try.prog.cellsOf 9 = 1 := by kernel_rfl
  have hK : Try.prog.cellsOf 23 = 5 := by kernel_rfl
  rw [hC] at hl
  match cs, hl, xs, hn with
  | [c0, c1, c2, c3, c4, c5, c6, c7, c8, c9, c10, c11], _, [y0, y1, y2, y3, y4, y5, y6, y7], _ =>
    have g0 := hx 0 { name := "R", type := 3, offset := 0, embedded := false, tag := "", pkgPath := "", byteOffset := 0 } rfl
    have g1 := hx 1 { name := "N", type := 3, offset := 1, embedded := false, tag := "", pkgPath := "", byteOffset := 8 } rfl
    have g2 := hx 2 { name := "Ctx", type := 23, offset := 2, embedded := false, tag := "", pkgPath := "", byteOffset := 16 } rfl
    have g3 := hx 3 { name := "Height", type := 3, offset := 7, embedded := false, tag := "", pkgPath := "", byteOffset := 56 } rfl
    have g4 := hx 4 { name := "Kind", type := 3, offset := 8, embedded := false, tag := "", pkgPath := "", byteOffset := 64 } rfl
    have g5 := hx 5 { name := "Key", type := 9, offset := 9, embedded := false, tag := "", pkgPath := "", byteOffset := 72 } rfl
    have g6 := hx 6 { name := "Label", type := 3, offset := 10, embedded := false, tag := "", pkgPath := "", byteOffset := 88 } rfl
    have g7 := hx 7 { name := "Value", type := 9, offset := 11, embedded := false, tag := "", pkgPath := "", byteOffset := 96 } rfl
    dsimp only at g0 g1 g2 g3 g4 g5 g6 g7
    rw [hI] at g0 g1 g3 g4 g6
    rw [hS] at g5 g7
    rw [hK] at g2
    obtain ⟨n0, e0, w0⟩ := rd_int g0
    obtain ⟨n1, e1, w1⟩ := rd_int g1
    obtain ⟨k, e2, w2⟩ := rd_ck g2
    obtain ⟨n3, e3, w3⟩ := rd_int g3
    obtain ⟨n4, e4, w4⟩ := rd_int g4
    obtain ⟨s5, e5, w5⟩ := rd_string g5
    obtain ⟨n6, e6, w6⟩ := rd_int g6
    obtain ⟨s7, e7, w7⟩ := rd_string g7
    simp at e0 e1 e2 e3 e4 e5 e6 e7
    obtain ⟨rfl, rfl, rfl, rfl, rfl⟩ := e2
    subst e0 e1 e3 e4 e5 e6 e7
    exact ⟨⟨n0, n1, k, n3, n4, s5, n6, s7⟩, rfl, w0, w1, w2, w3, w4, w5, w6, w7⟩
/-- A slice of events that comes. -/
theorem arg_evs {v : Value} {d : DataW H} {ps : List MemPlace} (hv : ∃ a len cap, v = .slice a len cap) (h : DataW.Trod enc Try.prog w 0 (fun _ => true) true 24 v d ps) :
    ∃ (A : Option Addr) (cap : Nat) (l : List Ev), v = .slice A l.length cap ∧ l.length ≤ cap ∧ cap ≤ maxLen ∧ evK.row w A l ∧ ∀ y ∈ l, evWf y := by
  obtain ⟨a, len, cp, rfl⟩ := hv
  obtain ⟨fuel, hf⟩ := h
  obtain ⟨A, cap, l, hcs, h⟩ := rd_row evK evWf Try.underlying24 (by kernel_rfl) (fun _ _ _ h => rd_ev h) hf
  simp [Value.cells] at hcs
  obtain ⟨rfl, rfl, rfl⟩ := hcs
  exact ⟨_, _, l, rfl, h⟩
end
end Go.Proofs.Ytlfhjlkhhaoicaa
