/- What '==' on clocks, marks and events answers. -/
import Derived.Test.YtlfhjlkhhaoicaaWords
import Derived.Laws.StructEq
namespace Go.Proofs.Ytlfhjlkhhaoicaa
set_option linter.unusedVariables false
set_option linter.unusedSimpArgs false
open Go.RowKit

section
variable {P : Program} {w : World} {d : Nat} {xs ys : Array Value} {f : Field} {fs : List Field} {a b : Value} {r s : Bool}
theorem eqfN : (Op.eqFields d xs ys []).run P w = .ok true w := by simp [Op.eqFields]
theorem eqfC (hn : (f.name == "_") = false) (ha : (part f.type xs f.offset).run P w = .ok a w) (hb : (part f.type ys f.offset).run P w = .ok b w)
    (he : (Op.equalIn d f.type a b).run P w = .ok r w) (hr : (Op.eqFields d xs ys fs).run P w = .ok s w) : (Op.eqFields d xs ys (f :: fs)).run P w = .ok (r && s) w := by
  have hn' : f.name ≠ "_" := by simpa using hn
  rw [Op.eqFields]
  simp only [if_pos hn', Sem.run_bind, ha, hb, he, Result.andThen_ok]
  cases r
  · simp
  · simpa using hr
theorem eqA {t : TypeId} {fs : Array Field} (hu : P.underlying t = some (.struct fs)) (hp : P.stoodInHeld t = false) (h : (Op.eqFields d xs ys fs.toList).run P w = .ok r w) : (Op.equalIn (d + 1) t (.agg xs) (.agg ys)).run P w = .ok r w := by
  have hf : P.fieldsOf t = fs := by simp [Program.fieldsOf, hu]
  rw [run_equalIn_struct (P := P) w d t xs ys (by rw [hf]; exact hu) hp, hf]
  exact h
end

theorem ckEq_and (a b : Ck) : decide (a = b) = (a.x0 == b.x0 && (a.x1 == b.x1 && (a.x2 == b.x2 && (a.x3 == b.x3 && a.x4 == b.x4)))) := by
  rw [Bool.eq_iff_iff]
  simp only [decide_eq_true_iff, Bool.and_eq_true, beq_iff_eq]
  constructor
  · rintro rfl; exact ⟨rfl, rfl, rfl, rfl, rfl⟩
  · rintro ⟨h0, h1, h2, h3, h4⟩; cases a; cases b; simp_all
theorem eqCk (d : Nat) (w : World) (a b : Ck) :
    (Op.equalIn (d + 2) 23 (.agg #[.int .i64 a.x0, .int .i64 a.x1, .int .i64 a.x2, .int .i64 a.x3, .int .i64 a.x4]) (.agg #[.int .i64 b.x0, .int .i64 b.x1, .int .i64 b.x2, .int .i64 b.x3, .int .i64 b.x4])).run Try.prog w = .ok (decide (a = b)) w := by
  rw [ckEq_and]
  unfold Op.equalIn
  go_simp
  simp only [List.range', List.forIn_cons]
  go_simp
  by_cases h0 : a.x0 = b.x0
  · rw [h0]
    go_simp
    by_cases h1 : a.x1 = b.x1
    · rw [h1]
      go_simp
      by_cases h2 : a.x2 = b.x2
      · rw [h2]
        go_simp
        by_cases h3 : a.x3 = b.x3
        · rw [h3]
          go_simp
          by_cases h4 : a.x4 = b.x4
          · rw [h4]; go_simp
          · simp [h4]
        · simp [h3]
      · simp [h2]
    · simp [h1]
  · simp [h0]

theorem mkEq_and (a b : Mk) : decide (a = b) = (a.r == b.r && (a.n == b.n && true)) := by
  rw [Bool.eq_iff_iff]
  simp only [decide_eq_true_iff, Bool.and_eq_true, beq_iff_eq]
  constructor
  · rintro rfl; exact ⟨rfl, rfl, trivial⟩
  · rintro ⟨h0, h1, _⟩; cases a; cases b; simp_all
theorem eqMk (d : Nat) (w : World) (a b : Mk) :
    (Op.equalIn (d + 2) 70 (.agg #[.int .i64 a.r, .int .i64 a.n]) (.agg #[.int .i64 b.r, .int .i64 b.n])).run Try.prog w = .ok (decide (a = b)) w := by
  rw [mkEq_and]
  refine eqA Try.underlying70 (by kernel_rfl) ?_
  refine eqfC (by rfl) (by go_simp; rfl) (by go_simp; rfl) (by go_simp) ?_
  refine eqfC (by rfl) (by go_simp; rfl) (by go_simp; rfl) (by go_simp) ?_
  exact eqfN

theorem bytes_eq {a b : ByteArray} : (a.toList == b.toList) = decide (a = b) := by
  rw [Bool.eq_iff_iff]
  simp only [decide_eq_true_iff, beq_iff_eq, ByteArray.toList_eq]
  constructor
  · intro h; cases a; cases b; simp_all [Array.toList_inj]
  · rintro rfl; rfl
theorem evEq_and (a b : Ev) : decide (a = b) = (a.r == b.r && (a.n == b.n && (decide (a.c = b.c) && (a.h == b.h && (a.k == b.k && (a.key.toList == b.key.toList && (a.lab == b.lab && (a.val.toList == b.val.toList && true)))))))) := by
  rw [bytes_eq, bytes_eq, Bool.eq_iff_iff]
  simp only [decide_eq_true_iff, Bool.and_eq_true, beq_iff_eq]
  constructor
  · rintro rfl; exact ⟨rfl, rfl, rfl, rfl, rfl, rfl, rfl, rfl, trivial⟩
  · rintro ⟨h0, h1, h2, h3, h4, h5, h6, h7, _⟩; cases a; cases b; simp_all
theorem eqEv (d : Nat) (w : World) (a b : Ev) :
    (Op.equalIn (d + 3) 31 (.agg #[.int .i64 a.r, .int .i64 a.n, .int .i64 a.c.x0, .int .i64 a.c.x1, .int .i64 a.c.x2, .int .i64 a.c.x3, .int .i64 a.c.x4, .int .i64 a.h, .int .i64 a.k, .string a.key, .int .i64 a.lab, .string a.val]) (.agg #[.int .i64 b.r, .int .i64 b.n, .int .i64 b.c.x0, .int .i64 b.c.x1, .int .i64 b.c.x2, .int .i64 b.c.x3, .int .i64 b.c.x4, .int .i64 b.h, .int .i64 b.k, .string b.key, .int .i64 b.lab, .string b.val])).run Try.prog w = .ok (decide (a = b)) w := by
  rw [evEq_and]
  refine eqA Try.underlying31 (by kernel_rfl) ?_
  refine eqfC (by rfl) (by go_simp; rfl) (by go_simp; rfl) (by go_simp) ?_
  refine eqfC (by rfl) (by go_simp; rfl) (by go_simp; rfl) (by go_simp) ?_
  refine eqfC (by rfl) (by go_simp) (by go_simp) (eqCk _ _ _ _) ?_
  refine eqfC (by rfl) (by go_simp; rfl) (by go_simp; rfl) (by go_simp) ?_
  refine eqfC (by rfl) (by go_simp; rfl) (by go_simp; rfl) (by go_simp) ?_
  refine eqfC (by rfl) (by go_simp; rfl) (by go_simp; rfl) (by go_simp) ?_
  refine eqfC (by rfl) (by go_simp; rfl) (by go_simp; rfl) (by go_simp) ?_
  refine eqfC (by rfl) (by go_simp; rfl) (by go_simp; rfl) (by go_simp) ?_
  exact eqfN

end Go.Proofs.Ytlfhjlkhhaoicaa
