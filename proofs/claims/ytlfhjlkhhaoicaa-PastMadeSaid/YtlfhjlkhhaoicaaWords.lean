/- Words on the program's values: how clocks, marks and events lie in memory. -/
import Derived.Test.YtlfhjlkhhaoicaaBase
import Derived.Test.YtlfhjlkhhaoicaaPlain
namespace Go.Proofs.Ytlfhjlkhhaoicaa
set_option linter.unusedVariables false
set_option linter.unusedSimpArgs false
open Go.RowKit

theorem ck_get (c : Ck) (i : Nat) (h : i < 5) : [Value.int .i64 c.x0, .int .i64 c.x1, .int .i64 c.x2, .int .i64 c.x3, .int .i64 c.x4][i]'h = .int .i64 (c.get i) := by
  rcases lt5 h with rfl | rfl | rfl | rfl | rfl <;> rfl
theorem ck_get? (c : Ck) {i : Nat} (h : i < 5) : [Value.int .i64 c.x0, .int .i64 c.x1, .int .i64 c.x2, .int .i64 c.x3, .int .i64 c.x4][i]? = some (.int .i64 (c.get i)) := by
  rcases lt5 h with rfl | rfl | rfl | rfl | rfl <;> rfl
theorem ck_set (c : Ck) {i : Nat} (h : i < 5) (v : Int) : [Value.int .i64 c.x0, .int .i64 c.x1, .int .i64 c.x2, .int .i64 c.x3, .int .i64 c.x4].set i (.int .i64 v) = [Value.int .i64 (c.set i v).x0, .int .i64 (c.set i v).x1, .int .i64 (c.set i v).x2, .int .i64 (c.set i v).x3, .int .i64 (c.set i v).x4] := by
  rcases lt5 h with rfl | rfl | rfl | rfl | rfl <;> rfl
section
variable {w : World}
theorem blk.setCk {b : Nat} {x : Ck} {t : TypeId} (h : blk w b [Value.int .i64 x.x0, Value.int .i64 x.x1, Value.int .i64 x.x2, Value.int .i64 x.x3, Value.int .i64 x.x4] t) {k : Nat} (hk : k < 5) (v : Int) : blk (w.setCell ⟨b, k, none⟩ (.int .i64 v)) b [Value.int .i64 ((x.set k v)).x0, Value.int .i64 ((x.set k v)).x1, Value.int .i64 ((x.set k v)).x2, Value.int .i64 ((x.set k v)).x3, Value.int .i64 ((x.set k v)).x4] t := by
  have := h.set k (.int .i64 v)
  rw [ck_set x hk v] at this
  exact this
end
/-! Events: 12 cells; marks: 2; numbers: 1. -/
def evK : Kn Ev := ⟨fun e => [.int .i64 e.r, .int .i64 e.n, .int .i64 e.c.x0, .int .i64 e.c.x1, .int .i64 e.c.x2, .int .i64 e.c.x3, .int .i64 e.c.x4, .int .i64 e.h, .int .i64 e.k, .string e.key, .int .i64 e.lab, .string e.val], 12, fun _ => rfl, by decide, fun x u hu => by simp at hu; rcases hu with rfl | rfl | rfl | rfl | rfl | rfl | rfl | rfl | rfl | rfl | rfl | rfl <;> rfl⟩
def mkK : Kn Mk := ⟨fun m => [.int .i64 m.r, .int .i64 m.n], 2, fun _ => rfl, by decide, fun x u hu => by simp at hu; rcases hu with rfl | rfl <;> rfl⟩
def intK : Kn Int := ⟨fun n => [.int .i64 n], 1, fun _ => rfl, by decide, fun x u hu => by simp at hu; subst hu; rfl⟩
abbrev evAt (w : World) (b off : Nat) (l : List Ev) : Prop := evK.at w b off l
abbrev evs (w : World) (A : Option Addr) (l : List Ev) : Prop := evK.row w A l
section
variable {w : World} {b off : Nat}
theorem evAt_get {l : List Ev} (h : evK.at w b off l) {k : Nat} {e : Ev} (he : l[k]? = some e) :
    w.cell? ⟨b, off + k * 12, none⟩ = some (.int .i64 e.r) ∧ w.cell? ⟨b, off + k * 12 + 1, none⟩ = some (.int .i64 e.n) ∧ w.cell? ⟨b, off + k * 12 + 2, none⟩ = some (.int .i64 e.c.x0) ∧
    w.cell? ⟨b, off + k * 12 + 3, none⟩ = some (.int .i64 e.c.x1) ∧ w.cell? ⟨b, off + k * 12 + 4, none⟩ = some (.int .i64 e.c.x2) ∧ w.cell? ⟨b, off + k * 12 + 5, none⟩ = some (.int .i64 e.c.x3) ∧
    w.cell? ⟨b, off + k * 12 + 6, none⟩ = some (.int .i64 e.c.x4) ∧ w.cell? ⟨b, off + k * 12 + 7, none⟩ = some (.int .i64 e.h) ∧ w.cell? ⟨b, off + k * 12 + 8, none⟩ = some (.int .i64 e.k) ∧
    w.cell? ⟨b, off + k * 12 + 9, none⟩ = some (.string e.key) ∧ w.cell? ⟨b, off + k * 12 + 10, none⟩ = some (.int .i64 e.lab) ∧ w.cell? ⟨b, off + k * 12 + 11, none⟩ = some (.string e.val) :=
  have g := h k e he
  ⟨g 0 _ rfl, g 1 _ rfl, g 2 _ rfl, g 3 _ rfl, g 4 _ rfl, g 5 _ rfl, g 6 _ rfl, g 7 _ rfl, g 8 _ rfl, g 9 _ rfl, g 10 _ rfl, g 11 _ rfl⟩
theorem mkAt_get {l : List Mk} (h : mkK.at w b off l) {k : Nat} {e : Mk} (he : l[k]? = some e) :
    w.cell? ⟨b, off + k * 2, none⟩ = some (.int .i64 e.r) ∧ w.cell? ⟨b, off + k * 2 + 1, none⟩ = some (.int .i64 e.n) :=
  have g := h k e he
  ⟨g 0 _ rfl, g 1 _ rfl⟩
theorem intAt_get {l : List Int} (h : intK.at w b off l) {k : Nat} {e : Int} (he : l[k]? = some e) : w.cell? ⟨b, off + k, none⟩ = some (.int .i64 e) := by
  have g := h k e he 0 _ rfl
  simpa [intK] using g
end

theorem infoEv : (Try.prog.info? 31).map (fun i => (i.zero, i.size, i.bytes)) = some (some (.agg #[.int .i64 Ev.zero.r, .int .i64 Ev.zero.n, .int .i64 Ev.zero.c.x0, .int .i64 Ev.zero.c.x1, .int .i64 Ev.zero.c.x2, .int .i64 Ev.zero.c.x3, .int .i64 Ev.zero.c.x4, .int .i64 Ev.zero.h, .int .i64 Ev.zero.k, .string Ev.zero.key, .int .i64 Ev.zero.lab, .string Ev.zero.val]), 12, 112) := by kernel_rfl
theorem infoMk : (Try.prog.info? 70).map (fun i => (i.zero, i.size, i.bytes)) = some (some (.agg #[.int .i64 0, .int .i64 0]), 2, 16) := by kernel_rfl
theorem infoInt : (Try.prog.info? 3).map (fun i => (i.zero, i.size, i.bytes)) = some (some (.int .i64 0), 1, 8) := by kernel_rfl


end Go.Proofs.Ytlfhjlkhhaoicaa
