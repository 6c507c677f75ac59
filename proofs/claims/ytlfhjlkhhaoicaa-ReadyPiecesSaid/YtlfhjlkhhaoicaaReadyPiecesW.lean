/- Words for the walk of kithlaw12.ReadyPieces. -/
import Derived.Test.YtlfhjlkhhaoicaaDrain2
import Derived.Test.YtlfhjlkhhaoicaaL12S
namespace Go.Proofs.Ytlfhjlkhhaoicaa
set_option linter.unusedVariables false
set_option linter.unusedSimpArgs false
open Go.RowKit
theorem own_lit2 (w : World) (o o' : Obj) : evK.own 31 (((w.alloc o).alloc o').alloc (Obj.cells #[] 31)) w.heap.size (.slice (some ⟨w.heap.size + 1 + 1, 0, none⟩) 0 0) [] := by
  have := World.ownsRow_lit (base := w.heap.size) (e := 31) (size := 12) ((w.alloc o).alloc o') #[] 0 (by simp; omega) (by decide) rfl
  unfold Kn.own
  simp [evK] at this ⊢
  exact this
/-- Where the loop stands. -/
structure RpSt (w2 : World) (p : List Ev) (g : Nat) (v10 v11 : Value) (wr : World) (log left : List Ev) (c : Ck) : Prop where
  hlog : evK.own 31 wr w2.heap.size v10 log
  hleft : evK.own 31 wr w2.heap.size v11 left
  apart : apartV v11 v10
  cb : blk wr g [Value.int .i64 c.x0, Value.int .i64 c.x1, Value.int .i64 c.x2, Value.int .i64 c.x3, Value.int .i64 c.x4] 23
  got : Got p log left c
  few : left.length ≤ p.length
  bel : Below w2.heap.size w2 wr
section
variable {w2 : World} {p : List Ev} {g : Nat} {v10 v11 : Value} {wr : World} {log left : List Ev} {c : Ck}
theorem RpSt.below {w' : World} (h : RpSt w2 p g v10 v11 wr log left c) (hb : Below wr.heap.size wr w') : RpSt w2 p g v10 v11 w' log left c :=
  ⟨h.hlog.below hb (Nat.le_refl _), h.hleft.below hb (Nat.le_refl _), h.apart, h.cb.below hb h.cb.lt, h.got, h.few, h.bel.trans (hb.mono h.bel.size)⟩
theorem Got.drain_few (h : Got p log left c) (hp : Past p) {l : List Ev} (hl : ∀ e ∈ l, e ∈ p) : (Go.Proofs.Ytlfhjlkhhaoicaa.drain c l).2.1.length ≤ p.length :=
  (nodup_of_map (drain_drained c (h.wf hp) l fun e he => hp.nwf (hl e he)).nodup).length_le_of_subset fun e he => hl e ((drain_drained c (h.wf hp) l fun e he => hp.nwf (hl e he)).bmem e he)
/-- Drain was called on what was left and more; what it did is put behind the log. -/
structure RpMid (w2 : World) (p : List Ev) (g g' : Nat) (v10' v17 : Value) (w6 : World) (log' dl : List Ev) (c dn : Ck) : Prop where
  hlog : evK.own 31 w6 w2.heap.size v10' log'
  hleft : evK.own 31 w6 w2.heap.size v17 dl
  apart : apartV v17 v10'
  cb : blk w6 g [Value.int .i64 c.x0, Value.int .i64 c.x1, Value.int .i64 c.x2, Value.int .i64 c.x3, Value.int .i64 c.x4] 23
  nb : blk w6 g' [Value.int .i64 dn.x0, Value.int .i64 dn.x1, Value.int .i64 dn.x2, Value.int .i64 dn.x3, Value.int .i64 dn.x4] 23
  bel : Below w2.heap.size w2 w6
theorem RpSt.mid (h : RpSt w2 p g v10 v11 wr log left c) {da dl : List Ev} {dn : Ck} {v16 v17 v10' : Value} {g' : Nat} {w5 w6 : World} (hd : D2 wr da dl dn v16 v17 g' w5)
    (ho : evK.own 31 w6 w2.heap.size v10' (log ++ da)) (hg : w5.grownBy w6 v10.ownBlock) (hv : v10'.ownBlock = v10.ownBlock ∨ v10'.ownBlock = some w5.heap.size) : RpMid w2 p g g' v10' v17 w6 (log ++ da) dl c dn := by
  obtain ⟨h1, h2, h3, h4, h5⟩ := hd
  have h5' := h.hlog.below h5 (Nat.le_refl _)
  have hne : v17.ownBlock = none ∨ v17.ownBlock ≠ v10.ownBlock := by
    cases hk : v17.ownBlock with
    | none => exact .inl rfl
    | some k =>
      right
      intro hc
      have a := h2.base_le k hk
      have b := h.hlog.lt_size k hc.symm
      omega
  refine ⟨ho, (h2.kept hg (hne.elim .inr .inl)).mono h.bel.size, ?_, (h.cb.below h5 h.cb.lt).grown hg (h5'.ne_blk (h.cb.below h5 h.cb.lt) (by decide)), h4.grown hg (h5'.ne_blk h4 (by decide)), (h.bel.trans (h5.mono h.bel.size)).grown hg (Nat.le_trans h.bel.size h5.size) h.hlog.base_le⟩
  rcases hne with hx | hx
  · exact .inl hx
  · rcases hv with hv | hv
    · right; rw [hv]; exact hx
    · cases hk : v17.ownBlock with
      | none => exact .inl hk
      | some k =>
        right
        rw [hk, hv]
        have := h2.lt_size k hk
        intro hc
        simp at hc
        omega
theorem RpMid.next {g' : Nat} {v10' v17 : Value} {w6 : World} {log' dl : List Ev} {dn : Ck} (h : RpMid w2 p g g' v10' v17 w6 log' dl c dn) (hG : Got p log' dl dn) (hf : dl.length ≤ p.length) (hg : w2.heap.size ≤ g) :
    RpSt w2 p g v10' v17 (((((w6.setCell ⟨g, 0, none⟩ (.int .i64 dn.x0)).setCell ⟨g, 1, none⟩ (.int .i64 dn.x1)).setCell ⟨g, 2, none⟩ (.int .i64 dn.x2)).setCell ⟨g, 3, none⟩ (.int .i64 dn.x3)).setCell ⟨g, 4, none⟩ (.int .i64 dn.x4)) log' dl dn :=
  ⟨own_set5c h.hlog (h.hlog.ne_blk h.cb (by decide)), own_set5c h.hleft (h.hleft.ne_blk h.cb (by decide)), h.apart, set5 (c' := dn) h.cb, hG, hf, below_set5c h.bel hg⟩
end
end Go.Proofs.Ytlfhjlkhhaoicaa
