/- append(s, xs...), and where the new row lies. -/
import Derived.Test.YtlfhjlkhhaoicaaBase
import Derived.Maps.AppendAt
namespace Go.Proofs.Ytlfhjlkhhaoicaa
set_option linter.unusedVariables false
set_option linter.unusedSimpArgs false
open Go.RowKit
section
variable {α : Type} (K : Kn α) (w : World) {ops : Array Oper} {rest : List Oper} {o : Oper} {a : Act} {Q : Exit → Act → World → Prop}
theorem wpL_appr_at (hgd : o.guard = none) (s x : Operand) (t : TypeId) (ho : o.op = .call { callee := .builtin .append, args := #[s, x], argTypes := #[t, t] })
    (base : Nat) (e : TypeId) (bytes : Nat) (z : Value) (ht : Try.prog.underlying t = some (.slice e)) (hi : (Try.prog.info? e).map (fun i => (i.zero, i.size, i.bytes)) = some (some z, K.sz, bytes)) (hzs : z.cells.size = K.sz)
    (v : Value) (l : List α) (hs : a.eval s = v) (hown : K.own e w base v l) (A : Option Addr) (c : Nat) (m : List α) (hx : a.eval x = .slice A m.length c) (hrow : K.row w A m)
    (hlen : l.length + m.length ≤ 1000000) (hby : bytes ≤ 1000) (hbase : base ≤ w.heap.size)
    (h : ∀ v' w', K.own e w' base v' (l ++ m) → w.grownBy w' v.ownBlock → (v'.ownBlock = v.ownBlock ∨ v'.ownBlock = some w.heap.size) → wpList Try.prog ops Q rest (a.put o.dst v') w') : wpList Try.prog ops Q (o :: rest) a w := by
  cases A with
  | none =>
    obtain rfl : m = [] := by
      rcases hrow with h0 | ⟨_, _, hA, _⟩
      · exact h0
      · cases hA
    refine wpList_plain hgd fun K' hK => ?_
    obtain ⟨i, hi1, hi2, hi3, hi4⟩ := info_parts hi
    have hrun := run_app_none w base t o.type e i K.sz c ht hi1 v l.length _ hown
    unfold Oper.wp
    simp [execOp, ho, resolve, invoke, builtin, hs, hx, hrun, Result.andThen]
    exact hK _ _ (h v w (by simpa using hown) (World.grownBy.refl w _) (.inl rfl))
  | some ad =>
    obtain ⟨i, hi1, hi2, hi3, hi4⟩ := info_parts hi
    rcases hrow with rfl | ⟨b, off, hA, hb, hat⟩
    · refine wpList_append_own_at w hgd s x t ho base e i z K.sz bytes ht hi1 hi2 hi3 hi4 hzs K.pos v l.length _ hs hown ad 0 c [] hx (by simp) (fun j u hu => by simp at hu) (fun u hu => by simp at hu) (by unfold maxLen; simp at hlen; omega)
        (Nat.le_trans (Nat.mul_le_mul hlen hby) (by decide)) hbase fun v' w' h1 h2 _ h4 => h v' w' ?_ h2 h4
      unfold Kn.own
      simpa using h1
    · cases hA
      refine wpList_append_own_at w hgd s x t ho base e i z K.sz bytes ht hi1 hi2 hi3 hi4 hzs K.pos v l.length _ hs hown ⟨b, off, none⟩ m.length c (m.flatMap K.enc) hx (K.flat_len m) (Kn.news_row hat) (K.one_flat m) (by unfold maxLen; omega)
        (Nat.le_trans (Nat.mul_le_mul hlen hby) (by decide)) hbase fun v' w' h1 h2 _ h4 => h v' w' ?_ h2 h4
      unfold Kn.own
      rw [List.flatMap_append, List.length_append]
      exact h1
end
end Go.Proofs.Ytlfhjlkhhaoicaa
