/- The walks of cmp.Compare, cmp.Or and stamp.Less. -/
import Derived.Test.YtlfhjlkhhaoicaaBase
import Derived.Test.YtlfhjlkhhaoicaaStampP
import Derived.Laws.StructEq
namespace Go.Proofs.Ytlfhjlkhhaoicaa
set_option linter.unusedVariables false
set_option linter.unusedSimpArgs false
open Go.RowKit

def stK : Kn St := ⟨fun m => [Value.int .i64 m.h, .int .i64 m.r], 2, fun _ => rfl, by decide, fun x u hu => by simp at hu; rcases hu with rfl | rfl <;> rfl⟩
def intK' : Kn Int := ⟨fun n => [.int .i64 n], 1, fun _ => rfl, by decide, fun x u hu => by simp at hu; subst hu; rfl⟩
theorem stAt_get {w : World} {b off : Nat} {l : List St} (h : stK.at w b off l) {k : Nat} {e : St} (he : l[k]? = some e) :
    w.cell? ⟨b, off + k * 2, none⟩ = some (.int .i64 e.h) ∧ w.cell? ⟨b, off + k * 2 + 1, none⟩ = some (.int .i64 e.r) :=
  have g := h k e he
  ⟨g 0 _ rfl, g 1 _ rfl⟩
theorem intAt_get' {w : World} {b off : Nat} {l : List Int} (h : intK'.at w b off l) {k : Nat} {e : Int} (he : l[k]? = some e) : w.cell? ⟨b, off + k, none⟩ = some (.int .i64 e) := by
  have g := h k e he 0 _ rfl
  simpa [intK'] using g
theorem infoSt : (Try.prog.info? 58).map (fun i => (i.zero, i.size, i.bytes)) = some (some (.agg #[.int .i64 St.zero.h, .int .i64 St.zero.r]), 2, 16) := by kernel_rfl

section
variable {P : Program} {w : World} {d : Nat} {xs ys : Array Value} {f : Field} {fs : List Field} {a b : Value} {r s : Bool}
theorem eqfN' : (Op.eqFields d xs ys []).run P w = .ok true w := by simp [Op.eqFields]
theorem eqfC' (hn : (f.name == "_") = false) (ha : (part f.type xs f.offset).run P w = .ok a w) (hb : (part f.type ys f.offset).run P w = .ok b w)
    (he : (Op.equalIn d f.type a b).run P w = .ok r w) (hr : (Op.eqFields d xs ys fs).run P w = .ok s w) : (Op.eqFields d xs ys (f :: fs)).run P w = .ok (r && s) w := by
  have hn' : f.name ≠ "_" := by simpa using hn
  rw [Op.eqFields]
  simp only [if_pos hn', Sem.run_bind, ha, hb, he, Result.andThen_ok]
  cases r
  · simp
  · simpa using hr
theorem eqA' {t : TypeId} {fs : Array Field} (hu : P.underlying t = some (.struct fs)) (hp : P.stoodInHeld t = false) (h : (Op.eqFields d xs ys fs.toList).run P w = .ok r w) : (Op.equalIn (d + 1) t (.agg xs) (.agg ys)).run P w = .ok r w := by
  have hf : P.fieldsOf t = fs := by simp [Program.fieldsOf, hu]
  rw [run_equalIn_struct (P := P) w d t xs ys (by rw [hf]; exact hu) hp, hf]
  exact h
end
theorem stEq_and (a b : St) : decide (a = b) = (a.h == b.h && (a.r == b.r && true)) := by
  rw [Bool.eq_iff_iff]
  simp only [decide_eq_true_iff, Bool.and_eq_true, beq_iff_eq]
  constructor
  · rintro rfl; exact ⟨rfl, rfl, trivial⟩
  · rintro ⟨h0, h1, _⟩; cases a; cases b; simp_all
theorem eqSt (d : Nat) (w : World) (a b : St) :
    (Op.equalIn (d + 2) 58 (.agg #[.int .i64 a.h, .int .i64 a.r]) (.agg #[.int .i64 b.h, .int .i64 b.r])).run Try.prog w = .ok (decide (a = b)) w := by
  rw [stEq_and]
  refine eqA' Try.underlying58 (by kernel_rfl) ?_
  refine eqfC' (by rfl) (by go_simp; rfl) (by go_simp; rfl) (by go_simp) ?_
  refine eqfC' (by rfl) (by go_simp; rfl) (by go_simp; rfl) (by go_simp) ?_
  exact eqfN'
attribute [local go_sem high] eqSt

set_option maxRecDepth 100000 in
set_option maxHeartbeats 400000 in
theorem isNaN_any (x : Int) (w : World) : Calls Try.prog 68 #[.int .i64 x] w fun e w' => e = .returned (.bool false) ∧ w = w' := by
  go_enter Try.func68, Try.ntmps68
  go_wp2
  go_ret
  exact ⟨ret_bool (by simp), rfl⟩
set_option maxRecDepth 100000 in
set_option maxHeartbeats 400000 in
theorem compare_any (x y : Int) (w : World) : Calls Try.prog 60 #[.int .i64 x, .int .i64 y] w fun e w' => e = .returned (.int .i64 (cmpI x y)) ∧ w = w' := by
  go_enter Try.func60, Try.ntmps60
  go_wp2_with (go_at_call 68; refine (isNaN_any _ _).mono ?_; rintro e w' ⟨rfl, rfl⟩)
  all_goals go_ret
  all_goals refine ⟨ret_int ?_, rfl⟩
  all_goals unfold cmpI
  · rw [if_pos (by assumption)]
  · rw [if_neg (by omega), if_pos (by omega)]
  · rw [if_neg (by omega), if_neg (by omega)]
set_option maxRecDepth 100000 in
set_option maxHeartbeats 400000 in
theorem or2_any (g : Nat) (x y : Int) (w : World) (h : blk w g [.int .i64 x, .int .i64 y] 3) : Calls Try.prog 59 #[.slice (some ⟨g, 0, none⟩) 2 2] w fun e w' => e = .returned (.int .i64 (orI [x, y])) ∧ w = w' := by
  have hc := h.cell
  go_enter Try.func59, Try.ntmps59
  go_wp2
  go_loopg [8] 3 (fun f v8 wr => wr = w ∧ ∃ k : Nat, v8 = .int .i64 k ∧ k ≤ 2 ∧ 3 - k ≤ f ∧ Hid (1 ≤ k → x = 0) ∧ Hid (2 ≤ k → y = 0))
  case atStart => exact ⟨rfl, 0, rfl, by omega, by omega, fun h => by omega, fun h => by omega⟩
  case round =>
    obtain ⟨rfl, k, rfl, hk, hf, h1, h2⟩ := hrel
    obtain ⟨f, rfl⟩ : ∃ f, gk = f + 1 := ⟨gk - 1, by omega⟩
    by_cases hk0 : k = 0
    · subst hk0
      by_cases hx : x = 0
      · have HX := Lib.hid hx
        have hb : (x == 0) = true := beq_iff_eq.2 hx
        have hb' : (x != 0) = false := by rw [hx]; rfl
        clear hx
        go_wp2
        go_roundg f
        case measure => omega
        case rel => exact ⟨rfl, 1, rfl, by omega, by omega, fun _ => HX.out, fun h => by omega⟩
      · have HX := Lib.hid hx
        have hb' : (x != 0) = true := bne_iff_ne.2 hx
        clear hx
        go_wp2
        go_ret
        exact ⟨ret_int (by simp [orI, HX.out]), rfl⟩
    · by_cases hk1 : k = 1
      · subst hk1
        have HX := Lib.hid (h1 (by omega))
        by_cases hy : y = 0
        · have HY := Lib.hid hy
          have hb' : (y != 0) = false := by rw [hy]; rfl
          clear hy
          go_wp2
          go_roundg f
          case measure => omega
          case rel => exact ⟨rfl, 2, rfl, by omega, by omega, fun _ => HX.out, fun _ => HY.out⟩
        · have HY := Lib.hid hy
          have hb' : (y != 0) = true := bne_iff_ne.2 hy
          clear hy
          go_wp2
          go_ret
          exact ⟨ret_int (by simp [orI, HX.out, HY.out]), rfl⟩
      · obtain rfl : k = 2 := by omega
        have HX := Lib.hid (h1 (by omega)); have HY := Lib.hid (h2 (by omega))
        go_wp2
        go_ret
        exact ⟨ret_int (by simp [orI, HX.out, HY.out]), rfl⟩
theorem less_or (a b : St) (h : a ≠ b) : decide (orI [cmpI a.h b.h, cmpI a.r b.r] < 0) = lessS a b := by
  have hne : ¬ (a.h = b.h ∧ a.r = b.r) := fun hc => h (st_ext.2 hc)
  unfold lessS
  rw [decide_eq_decide]
  by_cases h1 : a.h < b.h
  · have e : cmpI a.h b.h = -1 := if_pos h1
    simp [orI, e, h1]
  · by_cases h2 : b.h < a.h
    · have e : cmpI a.h b.h = 1 := by unfold cmpI; rw [if_neg h1, if_pos h2]
      simp [orI, e]
      omega
    · have e : cmpI a.h b.h = 0 := by unfold cmpI; rw [if_neg h1, if_neg h2]
      by_cases h3 : a.r < b.r
      · have e' : cmpI a.r b.r = -1 := if_pos h3
        simp [orI, e, e']
        omega
      · have e' : cmpI a.r b.r = 1 := by unfold cmpI; rw [if_neg h3, if_pos (by omega)]
        simp [orI, e, e']
        omega
set_option maxRecDepth 100000 in
set_option maxHeartbeats 1000000 in
theorem less_any (a b : St) (w : World) : Calls Try.prog 40 #[.agg #[.int .i64 a.h, .int .i64 a.r], .agg #[.int .i64 b.h, .int .i64 b.r]] w fun e w' => e = .returned (.bool (lessS a b)) ∧ Below w.heap.size w w' := by
  by_cases h : a = b
  · have hd : decide (a = b) = true := decide_eq_true h
    have HL := Lib.hid (show lessS a b = false by subst h; exact lessS_false.2 (by omega))
    clear h
    go_enter Try.func40, Try.ntmps40
    go_wp2
    go_quiet (fail)
    go_wp2
    go_ret
    exact ⟨ret_bool HL.out.symm, bdN (((Below.refl _ _).alloc (Nat.le_refl _) _).alloc (by simp) _) _⟩
  · have hd : decide (a = b) = false := decide_eq_false h
    have HL := Lib.hid (less_or a b h)
    clear h
    have hor : blk ((((w.alloc (Obj.cells #[.int .i64 a.h, .int .i64 a.r] 58)).alloc (Obj.cells #[.int .i64 b.h, .int .i64 b.r] 58)).alloc (Obj.cells #[.int .i64 (cmpI a.h b.h), .int .i64 (cmpI a.r b.r)] 3)).drew) (w.heap.size + 1 + 1) [.int .i64 (cmpI a.h b.h), .int .i64 (cmpI a.r b.r)] 3 := (blk_at (by simp) _ _).drew
    have hk1 := (((blk_new w [Value.int .i64 a.h, .int .i64 a.r] 58).alloc (Obj.cells #[.int .i64 b.h, .int .i64 b.r] 58)).alloc (Obj.cells #[.int .i64 (cmpI a.h b.h), .int .i64 (cmpI a.r b.r)] 3)).drew.cell
    have hk2 := ((blk_at (w := w.alloc (Obj.cells #[.int .i64 a.h, .int .i64 a.r] 58)) (b := w.heap.size + 1) (by simp) [Value.int .i64 b.h, .int .i64 b.r] 58).alloc (Obj.cells #[.int .i64 (cmpI a.h b.h), .int .i64 (cmpI a.r b.r)] 3)).drew.cell
    go_enter Try.func40, Try.ntmps40
    go_wp2
    go_region_held3 (fun w' => (∀ o, w'.cell? ⟨w.heap.size, o, none⟩ = [Value.int .i64 a.h, .int .i64 a.r][o]?) ∧ ∀ o, w'.cell? ⟨w.heap.size + 1, o, none⟩ = [Value.int .i64 b.h, .int .i64 b.r][o]?) (first | exact ⟨((blk_new _ _ _).alloc _).drew.cell, (blk_at (by simp) _ _).drew.cell⟩ | exact ⟨hk1, hk2⟩) (first | (go_at_call 60; refine (compare_any _ _ _).mono ?_; rintro e w1 ⟨rfl, rfl⟩) | (go_at_call 59; refine (or2_any _ _ _ _ hor).mono ?_; rintro e w1 ⟨rfl, rfl⟩))
    go_wp2
    go_ret
    exact ⟨ret_bool HL.out, (((Below.refl _ _).alloc (Nat.le_refl _) _).alloc (by simp) _).alloc (by first | omega | (simp; done) | (simp; omega)) _ |>.drew⟩
end Go.Proofs.Ytlfhjlkhhaoicaa
