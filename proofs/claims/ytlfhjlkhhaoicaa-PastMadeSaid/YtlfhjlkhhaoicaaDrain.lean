/- The walk of ready.Drain. -/
import Derived.Test.YtlfhjlkhhaoicaaSame
import Derived.Test.YtlfhjlkhhaoicaaMapM
import Derived.Test.YtlfhjlkhhaoicaaDrainP
namespace Go.Proofs.Ytlfhjlkhhaoicaa
set_option linter.unusedVariables false
set_option linter.unusedSimpArgs false
open Go.RowKit Go.Maps Go.ChangeMaps
attribute [local go_sem] ck_get ck_get? q_le0 q_le1 q_le2 q_le3 q_le4 q_le5 q_lt1 q_lt2 q_lt3 q_lt4 q_lt5

def evW (W : List (Mk × Ev)) : List (Mk × Value) := W.map fun p => (p.1, .agg #[.int .i64 p.2.r, .int .i64 p.2.n, .int .i64 p.2.c.x0, .int .i64 p.2.c.x1, .int .i64 p.2.c.x2, .int .i64 p.2.c.x3, .int .i64 p.2.c.x4, .int .i64 p.2.h, .int .i64 p.2.k, .string p.2.key, .int .i64 p.2.lab, .string p.2.val])
theorem look_evW (W : List (Mk × Ev)) (m : Mk) : lookM (evW W) m = (lookE W m).map fun e => Value.agg #[.int .i64 e.r, .int .i64 e.n, .int .i64 e.c.x0, .int .i64 e.c.x1, .int .i64 e.c.x2, .int .i64 e.c.x3, .int .i64 e.c.x4, .int .i64 e.h, .int .i64 e.k, .string e.key, .int .i64 e.lab, .string e.val] := by
  unfold lookM lookE evW
  rw [List.find?_map]
  have e : ((fun p : Mk × Value => decide (m = p.1)) ∘ fun p : Mk × Ev => (p.1, Value.agg #[.int .i64 p.2.r, .int .i64 p.2.n, .int .i64 p.2.c.x0, .int .i64 p.2.c.x1, .int .i64 p.2.c.x2, .int .i64 p.2.c.x3, .int .i64 p.2.c.x4, .int .i64 p.2.h, .int .i64 p.2.k, .string p.2.key, .int .i64 p.2.lab, .string p.2.val])) = fun p => decide (m = p.1) := rfl
  rw [e]
  cases W.find? (fun p => decide (m = p.1)) <;> rfl
theorem del_evW (W : List (Mk × Ev)) (m : Mk) : delM (evW W) m = evW (delE W m) := by
  unfold delM delE evW
  rw [List.eraseP_map]
  rfl
theorem zeroEv (w : World) : (zeroValue 31).run Try.prog w = .ok (.agg #[.int .i64 Ev.zero.r, .int .i64 Ev.zero.n, .int .i64 Ev.zero.c.x0, .int .i64 Ev.zero.c.x1, .int .i64 Ev.zero.c.x2, .int .i64 Ev.zero.c.x3, .int .i64 Ev.zero.c.x4, .int .i64 Ev.zero.h, .int .i64 Ev.zero.k, .string Ev.zero.key, .int .i64 Ev.zero.lab, .string Ev.zero.val]) w := by kernel_rfl

/-- What holds at the head of the first loop, k rounds done. -/
def Dr1 (c : Ck) (l : List Ev) (w : World) (k : Nat) (v7 : Value) (wr : World) : Prop :=
  blk wr w.heap.size [Value.int .i64 c.x0, Value.int .i64 c.x1, Value.int .i64 c.x2, Value.int .i64 c.x3, Value.int .i64 c.x4] 23 ∧ blk wr (w.heap.size + 1) [Value.int .i64 0, .int .i64 0, .int .i64 0, .int .i64 0, .int .i64 0] 23 ∧ mapAt wr (w.heap.size + 1 + 1) (evW (freshW c (l.take k))) ∧
  mkK.own 70 wr (w.heap.size + 3) v7 ((freshW c (l.take k)).map (·.1)) ∧ Below w.heap.size w wr

theorem nextM_mk (c : Ck) (r : Nat) : nextM c r = ⟨r, wrap64 (c.get r + 1)⟩ := by unfold nextM w64 wrap64; rfl
/-- What holds at the head of the second loop: f rounds are left. -/
def Dr2 (c : Ck) (l : List Ev) (w wS : World) (v7 : Value) (f : Nat) (v4 : Value) (r : Nat) (cc : Ck) (Wc : List (Mk × Ev)) (dc : List Ev) (wr : World) : Prop :=
  drainL f cc Wc dc r = drainL (drainM (freshW c l) 0) c (freshW c l) [] 0 ∧ drainM Wc r ≤ f ∧ r ≤ 5 ∧ dc.length + Wc.length ≤ 100000 ∧
  blk wr w.heap.size [Value.int .i64 cc.x0, Value.int .i64 cc.x1, Value.int .i64 cc.x2, Value.int .i64 cc.x3, Value.int .i64 cc.x4] 23 ∧ blk wr (w.heap.size + 1) [Value.int .i64 0, .int .i64 0, .int .i64 0, .int .i64 0, .int .i64 0] 23 ∧ mapAt wr (w.heap.size + 1 + 1) (evW Wc) ∧
  mkK.own 70 wr (w.heap.size + 3) v7 ((freshW c l).map (·.1)) ∧ evK.own 31 wr wS.heap.size v4 dc ∧ wS.heap.size ≤ wr.heap.size ∧ Below w.heap.size w wr

/-- What holds at the head of the third loop, k rounds done. -/
def Dr3 (w wS wT : World) (W0 : List (Mk × Ev)) (cc : Ck) (Wc : List (Mk × Ev)) (dc : List Ev) (A7 : Option Addr) (cap7 : Nat) (v4 : Value) (k f : Nat) (v5 : Value) (wr : World) : Prop :=
  k ≤ W0.length ∧ W0.length - k + 1 ≤ f ∧ blk wr w.heap.size [Value.int .i64 cc.x0, Value.int .i64 cc.x1, Value.int .i64 cc.x2, Value.int .i64 cc.x3, Value.int .i64 cc.x4] 23 ∧ blk wr (w.heap.size + 1) [Value.int .i64 0, .int .i64 0, .int .i64 0, .int .i64 0, .int .i64 0] 23 ∧ mapAt wr (w.heap.size + 1 + 1) (evW Wc) ∧
  mkK.own 70 wr (w.heap.size + 3) (.slice A7 W0.length cap7) (W0.map (·.1)) ∧ evK.own 31 wr wS.heap.size v4 dc ∧
  evK.own 31 wr wT.heap.size v5 ((W0.take k).filterMap fun p => lookE Wc p.1) ∧ wT.heap.size ≤ wr.heap.size ∧ Below w.heap.size w wr

set_option maxRecDepth 100000 in
set_option maxHeartbeats 1000000 in
theorem drain_any (c : Ck) (A : Option Addr) (ca : Nat) (l : List Ev) (w : World) (hl : evs w A l) (hlen : l.length ≤ 100000) :
    Calls Try.prog 19 #[.agg #[.int .i64 c.x0, .int .i64 c.x1, .int .i64 c.x2, .int .i64 c.x3, .int .i64 c.x4], .slice A l.length ca] w fun e w' => ∃ v1 v2, e = .returned (.tuple #[v1, v2, .agg #[.int .i64 ((drain c l).2.2).x0, .int .i64 ((drain c l).2.2).x1, .int .i64 ((drain c l).2.2).x2, .int .i64 ((drain c l).2.2).x3, .int .i64 ((drain c l).2.2).x4]]) ∧ evK.own 31 w' w.heap.size v1 (drain c l).1 ∧ evK.own 31 w' w.heap.size v2 (drain c l).2.1 ∧ Below w.heap.size w w' := by
  generalize hn : l.length = n at *
  have HN := Lib.hid hn
  clear hn
  have hmm := @run_makeMap Try.prog
  go_enter Try.func19, Try.ntmps19
  go_wp2
  go_loopw [7, 25] (fun v7 i wr => ∃ k : Nat, k ≤ n ∧ i = .int .i64 k ∧ Dr1 c l w k v7 wr) (fun _ i _ => n - (intOf i).toNat)
  case atStart => exact ⟨0, by omega, rfl, ((blk_new _ _ _).alloc _).alloc _, (blk_at (by simp) _ _).alloc _, mapAt_new (by simp), Kn.own_nil, (((Below.refl _ _).alloc (Nat.le_refl _) _).alloc (by simp) _).alloc (by first | omega | (simp; done) | (simp; omega)) _⟩
  case round =>
    obtain ⟨k, hk, rfl, hD⟩ := hrel
    by_cases hlt : k < n
    ·
      obtain ⟨e, he⟩ : ∃ e, l[k]? = some e := ⟨_, List.getElem?_eq_getElem (by rw [HN.out]; exact hlt)⟩
      obtain ⟨h0, h1, h2, h7, hB⟩ := hD
      obtain ⟨b, off, rfl, hb, hat⟩ := hl.get he
      obtain ⟨c0, c1, c2, c3, c4, c5, c6, c7, c8, c9, c10, c11⟩ := evAt_get (hat.below hB hb) he
      have HE := Lib.hid he
      clear he
      have hlt0 := h0.lt; have hlt1 := h1.lt; have hlt2 := h2.lt
      have k0 := h0.cell; have k1 := h1.cell
      generalize hW : freshW c (l.take k) = W at *
      have HW := Lib.hid hW
      clear hW
      by_cases hc : (lookE W e.mk').isSome = true ∨ hasB c e.r e.n = true
      · have hst : freshStep c W e = W := by unfold freshStep; rw [if_pos (by simpa using hc)]
        have HST := Lib.hid hst
        clear hst
        cases hx : lookE W e.mk' with
        | some x =>
          have HLK := Lib.hid (show lookM (evW W) e.mk' = some (.agg #[.int .i64 x.r, .int .i64 x.n, .int .i64 x.c.x0, .int .i64 x.c.x1, .int .i64 x.c.x2, .int .i64 x.c.x3, .int .i64 x.c.x4, .int .i64 x.h, .int .i64 x.k, .string x.key, .int .i64 x.lab, .string x.val]) by rw [look_evW, hx]; rfl)
          clear hx hc
          go_wp2_with (first | (at_lookup; refine wpL_look _ rfl _ _ 68 31 rfl Try.underlying68 (.agg #[.int .i64 Ev.zero.r, .int .i64 Ev.zero.n, .int .i64 Ev.zero.c.x0, .int .i64 Ev.zero.c.x1, .int .i64 Ev.zero.c.x2, .int .i64 Ev.zero.c.x3, .int .i64 Ev.zero.c.x4, .int .i64 Ev.zero.h, .int .i64 Ev.zero.k, .string Ev.zero.key, .int .i64 Ev.zero.lab, .string Ev.zero.val]) (zeroEv _) _ (evW W) rfl ((h2.alloc _).alloc _) e.mk' rfl ?_; rw [HLK.out]))
          go_roundw
          case rel =>
            have hs := freshW_succ c l HE.out
            rw [HW.out, HST.out] at hs
            refine ⟨k + 1, by omega, by go_num, ?_⟩
            unfold Dr1
            rw [hs]
            exact ⟨((h0.alloc _).alloc _).alloc _, ((h1.alloc _).alloc _).alloc _, ((h2.alloc _).alloc _).alloc _, ((h7.alloc _).alloc _).alloc _, ((hB.alloc hB.size _).alloc (by first | omega | (simp; done) | (simp; omega)) _).alloc (by first | omega | (simp; done) | (simp; omega)) _⟩
          case measure => simp [intOf]; omega
        | none =>
          have HLK := Lib.hid (show lookM (evW W) e.mk' = none by rw [look_evW, hx]; rfl)
          have HHA := Lib.hid (hc.resolve_left (by rw [hx]; simp))
          clear hx hc
          go_wp2_with (first | (at_lookup; refine wpL_look _ rfl _ _ 68 31 rfl Try.underlying68 (.agg #[.int .i64 Ev.zero.r, .int .i64 Ev.zero.n, .int .i64 Ev.zero.c.x0, .int .i64 Ev.zero.c.x1, .int .i64 Ev.zero.c.x2, .int .i64 Ev.zero.c.x3, .int .i64 Ev.zero.c.x4, .int .i64 Ev.zero.h, .int .i64 Ev.zero.k, .string Ev.zero.key, .int .i64 Ev.zero.lab, .string Ev.zero.val]) (zeroEv _) _ (evW W) rfl ((h2.alloc _).alloc _) e.mk' rfl ?_; rw [HLK.out]))
          refine (has_any c e.r e.n _).mono ?_
          rintro e' w1 ⟨rfl, hb1⟩
          rw [HHA.out]
          go_wp2
          go_roundw
          case rel =>
            have hs := freshW_succ c l HE.out
            rw [HW.out, HST.out] at hs
            refine ⟨k + 1, by omega, by go_num, ?_⟩
            unfold Dr1
            rw [hs]
            exact ⟨(((h0.alloc _).alloc _).alloc _).below hb1 (by first | omega | (simp; done) | (simp; omega)), (((h1.alloc _).alloc _).alloc _).below hb1 (by first | omega | (simp; done) | (simp; omega)), (((h2.alloc _).alloc _).alloc _).below hb1 (by first | omega | (simp; done) | (simp; omega)), (((h7.alloc _).alloc _).alloc _).below hb1 (by first | omega | (simp; done) | (simp; omega)), (((hB.alloc hB.size _).alloc (by first | omega | (simp; done) | (simp; omega)) _).alloc (by first | omega | (simp; done) | (simp; omega)) _).trans (hb1.mono (by first | omega | (simp; done) | (simp; omega)))⟩
          case measure => simp [intOf]; omega
      · have hst : freshStep c W e = W ++ [(e.mk', e)] := by unfold freshStep; rw [if_neg (by simpa using hc)]
        have hno : lookE W e.mk' = none := by
          cases hx : lookE W e.mk' with
          | none => rfl
          | some x => exact absurd (.inl (by rw [hx]; rfl)) hc
        have hha : hasB c e.r e.n = false := by
          cases hx : hasB c e.r e.n with
          | false => rfl
          | true => exact absurd (.inr hx) hc
        have hlk : lookM (evW W) e.mk' = none := by rw [look_evW, hno]; rfl
        have HST := Lib.hid hst
        have HLK := Lib.hid hlk
        have HHA := Lib.hid hha
        clear hst hno hha hlk hc
        go_wp2_with (first | (at_lookup; refine wpL_look _ rfl _ _ 68 31 rfl Try.underlying68 (.agg #[.int .i64 Ev.zero.r, .int .i64 Ev.zero.n, .int .i64 Ev.zero.c.x0, .int .i64 Ev.zero.c.x1, .int .i64 Ev.zero.c.x2, .int .i64 Ev.zero.c.x3, .int .i64 Ev.zero.c.x4, .int .i64 Ev.zero.h, .int .i64 Ev.zero.k, .string Ev.zero.key, .int .i64 Ev.zero.lab, .string Ev.zero.val]) (zeroEv _) _ (evW W) rfl ((h2.alloc _).alloc _) e.mk' rfl ?_; rw [HLK.out]))
        refine (has_any c e.r e.n _).mono ?_
        rintro e' w1 ⟨rfl, hb1⟩
        rw [HHA.out]
        have hz := hb1.size
        simp at hz
        have z0 : w.heap.size < w1.heap.size := by omega
        have z1 : w.heap.size + 1 < w1.heap.size := by omega
        have z2 : w.heap.size + 1 + 1 < w1.heap.size := by omega
        have h0' := (((h0.alloc _).alloc _).alloc _).below hb1 (by first | omega | (simp; done) | (simp; omega))
        have h1' := (((h1.alloc _).alloc _).alloc _).below hb1 (by first | omega | (simp; done) | (simp; omega))
        have h2' := (((h2.alloc _).alloc _).alloc _).below hb1 (by first | omega | (simp; done) | (simp; omega))
        have h7' := (((h7.alloc _).alloc _).alloc _).below hb1 (by simp)
        have bE' := (((blk_new wr [.int .i64 e.r, .int .i64 e.n, .int .i64 e.c.x0, .int .i64 e.c.x1, .int .i64 e.c.x2, .int .i64 e.c.x3, .int .i64 e.c.x4, .int .i64 e.h, .int .i64 e.k, .string e.key, .int .i64 e.lab, .string e.val] 31).alloc _).alloc _).below hb1 (by first | omega | (simp; done) | (simp; omega))
        have bM' := ((blk_at (w := wr.alloc _) (b := wr.heap.size + 1) (by simp) [.int .i64 e.r, .int .i64 e.n] 70).alloc _).below hb1 (by simp)
        have kE := bE'.cell; have kM := bM'.cell
        have hB' := (((hB.alloc hB.size _).alloc (by first | omega | (simp; done) | (simp; omega)) _).alloc (by first | omega | (simp; done) | (simp; omega)) _).trans (hb1.mono (by first | omega | (simp; done) | (simp; omega)))
        clear hb1 h0 h1 h2 k0 k1
        have hlW : (W.map (·.1)).length + 1 ≤ 1000000 := by
          rw [← HW.out, List.length_map]
          have := freshW_len c (l.take k)
          have := List.length_take_le k l
          have := HN.out
          omega
        go_wp2_with (first | (at_mapUpdate; refine wpL_put _ rfl _ _ _ 68 31 rfl Try.underlying68 _ (evW W) rfl h2' e.mk' rfl (.agg #[.int .i64 e.r, .int .i64 e.n, .int .i64 e.c.x0, .int .i64 e.c.x1, .int .i64 e.c.x2, .int .i64 e.c.x3, .int .i64 e.c.x4, .int .i64 e.h, .int .i64 e.k, .string e.key, .int .i64 e.lab, .string e.val]) rfl HLK.out ?_; intro w2 h22 ht2; have kM2 := (bM'.grown ht2.grown (by first | omega | (simp; done) | (simp; omega))).cell; have hz2 := ht2.grown.size; have ho2 := (h7'.kept_lt ht2.grown (by omega)).alloc (Obj.cells #[.int .i64 e.r, .int .i64 e.n] 70)) | (at_builtin; refine wpL_app1 mkK _ rfl _ _ _ rfl (w.heap.size + 3) 70 16 _ Try.underlying67 infoMk rfl u7 (W.map (·.1)) rfl ho2 w2.heap.size e.mk' rfl (blk_new w2 [.int .i64 e.r, .int .i64 e.n] 70) hlW (by decide) ?_ ?_; (simp; omega); intro v7 w3 h73 hg3))
        go_roundw
        case rel =>
          have hb := ho2.base_le
          have hs := freshW_succ c l HE.out
          rw [HW.out, HST.out] at hs
          refine ⟨k + 1, by omega, by go_num, ?_⟩
          unfold Dr1
          rw [hs]
          refine ⟨((h0'.grown ht2.grown (by first | omega | (simp; done) | (simp; omega))).alloc _).grown hg3 (ho2.ne (by omega)), ((h1'.grown ht2.grown (by first | omega | (simp; done) | (simp; omega))).alloc _).grown hg3 (ho2.ne (by omega)), ?_, ?_, ?_⟩
          · have := (h22.alloc (Obj.cells #[.int .i64 e.r, .int .i64 e.n] 70)).grown hg3 (ho2.ne (by omega))
            simpa [evW] using this
          · simpa using h73
          · exact (((hB'.grown ht2.grown hB'.size (fun x hx => by cases hx; omega)).alloc (by omega) _).grown hg3 (by first | omega | (simp; done) | (simp; omega)) (fun x hx => by have := hb x hx; omega))
        case measure => simp [intOf]; omega
    · obtain rfl : k = n := by omega
      have hD' : Dr1 c l w l.length u7 wr := by rw [HN.out]; exact hD
      clear hD
      obtain ⟨h0, h1, h2, h7, hB⟩ := hD'
      rw [List.take_length] at h2 h7
      obtain ⟨wS, rfl⟩ : ∃ wS : World, wS = wr := ⟨_, rfl⟩
      have hs0 := h0.lt; have hs1 := h1.lt; have hs2 := h2.lt
      have hS7 := h7.lt_size
      go_wp2
      go_loopg [4, 14] (drainM (freshW c l) 0) (fun f v4 v14 wr => ∃ (cc : Ck) (Wc : List (Mk × Ev)) (dc : List Ev) (r : Nat), v14 = .int .i64 r ∧ Dr2 c l w wS u7 f v4 r cc Wc dc wr)
      case atStart => exact ⟨c, freshW c l, [], 0, rfl, rfl, Nat.le_refl _, by omega, by have := freshW_len c l; have := HN.out; simp; omega, h0, h1, h2, h7, Kn.own_nil, Nat.le_refl _, hB⟩
      case round =>
        clear h0 h1 h2 h7 hB
        obtain ⟨cc, Wc, dc, r, rfl, hE, hf, hr, hln, h0, h1, h2, h7, h4, hsz, hB⟩ := hrel
        obtain ⟨f, rfl⟩ : ∃ f, gk = f + 1 := ⟨gk - 1, by unfold drainM at hf; omega⟩
        by_cases hr5 : r < 5
        ·
          rw [drainL, if_pos hr5] at hE
          have k0 := h0.cell; have f0 := h0.free
          have hlt0 := h0.lt; have hlt1 := h1.lt; have hlt2 := h2.lt
          have hm := nextM_mk cc r
          obtain ⟨nn, hnn⟩ : ∃ nn, wrap64 (cc.get r + 1) = nn := ⟨_, rfl⟩
          rw [hnn] at hm
          cases hready : readyAt cc Wc r with
          | none =>
            rw [hready] at hE
            have HE := Lib.hid hE
            clear hE
            cases hlk : lookE Wc (nextM cc r) with
            | none =>
              have HLK := Lib.hid (show lookM (evW Wc) ⟨r, nn⟩ = none by rw [look_evW, ← hm, hlk]; rfl)
              clear hlk hready hm
              go_wp2_with (first | (at_lookup; refine wpL_look _ rfl _ _ 68 31 rfl Try.underlying68 (.agg #[.int .i64 Ev.zero.r, .int .i64 Ev.zero.n, .int .i64 Ev.zero.c.x0, .int .i64 Ev.zero.c.x1, .int .i64 Ev.zero.c.x2, .int .i64 Ev.zero.c.x3, .int .i64 Ev.zero.c.x4, .int .i64 Ev.zero.h, .int .i64 Ev.zero.k, .string Ev.zero.key, .int .i64 Ev.zero.lab, .string Ev.zero.val]) (zeroEv _) _ (evW Wc) rfl (h2.alloc _) ⟨r, nn⟩ rfl ?_; rw [HLK.out]))
              go_roundg f
              case measure => omega
              case rel => exact ⟨cc, Wc, dc, r + 1, by go_num, HE.out, by unfold drainM at hf ⊢; omega, by omega, hln, (h0.alloc _).alloc _, (h1.alloc _).alloc _, (h2.alloc _).alloc _, (h7.alloc _).alloc _, (h4.alloc _).alloc _, (by first | omega | (simp; done) | (simp; omega)), (hB.alloc hB.size _).alloc (by first | omega | (simp; done) | (simp; omega)) _⟩
            | some e =>
              have HLK := Lib.hid (show lookM (evW Wc) ⟨r, nn⟩ = some (.agg #[.int .i64 e.r, .int .i64 e.n, .int .i64 e.c.x0, .int .i64 e.c.x1, .int .i64 e.c.x2, .int .i64 e.c.x3, .int .i64 e.c.x4, .int .i64 e.h, .int .i64 e.k, .string e.key, .int .i64 e.lab, .string e.val]) by rw [look_evW, ← hm, hlk]; rfl)
              have hcase : nn < 1 ∨ leB e.c cc = false := by
                unfold readyAt at hready
                rw [hlk] at hready
                simp only [hm] at hready
                split at hready
                · assumption
                · simp at hready
              clear hlk hready hm
              by_cases h1n : nn < 1
              · clear hcase
                go_wp2_with (first | (at_lookup; refine wpL_look _ rfl _ _ 68 31 rfl Try.underlying68 (.agg #[.int .i64 Ev.zero.r, .int .i64 Ev.zero.n, .int .i64 Ev.zero.c.x0, .int .i64 Ev.zero.c.x1, .int .i64 Ev.zero.c.x2, .int .i64 Ev.zero.c.x3, .int .i64 Ev.zero.c.x4, .int .i64 Ev.zero.h, .int .i64 Ev.zero.k, .string Ev.zero.key, .int .i64 Ev.zero.lab, .string Ev.zero.val]) (zeroEv _) _ (evW Wc) rfl (h2.alloc _) ⟨r, nn⟩ rfl ?_; rw [HLK.out]))
                go_roundg f
                case measure => omega
                case rel => exact ⟨cc, Wc, dc, r + 1, by go_num, HE.out, by unfold drainM at hf ⊢; omega, by omega, hln, (h0.alloc _).alloc _, (h1.alloc _).alloc _, (h2.alloc _).alloc _, (h7.alloc _).alloc _, (h4.alloc _).alloc _, (by first | omega | (simp; done) | (simp; omega)), (hB.alloc hB.size _).alloc (by first | omega | (simp; done) | (simp; omega)) _⟩
              · have HLE := Lib.hid (hcase.resolve_left h1n)
                clear hcase
                go_wp2_with (first | (at_lookup; refine wpL_look _ rfl _ _ 68 31 rfl Try.underlying68 (.agg #[.int .i64 Ev.zero.r, .int .i64 Ev.zero.n, .int .i64 Ev.zero.c.x0, .int .i64 Ev.zero.c.x1, .int .i64 Ev.zero.c.x2, .int .i64 Ev.zero.c.x3, .int .i64 Ev.zero.c.x4, .int .i64 Ev.zero.h, .int .i64 Ev.zero.k, .string Ev.zero.key, .int .i64 Ev.zero.lab, .string Ev.zero.val]) (zeroEv _) _ (evW Wc) rfl (h2.alloc _) ⟨r, nn⟩ rfl ?_; rw [HLK.out]))
                refine (lessEq_any e.c cc _).mono ?_
                rintro e' w1 ⟨rfl, hb1⟩
                rw [HLE.out]
                go_wp2
                go_roundg f
                case measure => omega
                case rel => exact ⟨cc, Wc, dc, r + 1, by go_num, HE.out, by unfold drainM at hf ⊢; omega, by omega, hln, ((h0.alloc _).alloc _).below hb1 (by first | omega | (simp; done) | (simp; omega)), ((h1.alloc _).alloc _).below hb1 (by first | omega | (simp; done) | (simp; omega)), ((h2.alloc _).alloc _).below hb1 (by first | omega | (simp; done) | (simp; omega)), ((h7.alloc _).alloc _).below hb1 (by first | omega | (simp; done) | (simp; omega)), ((h4.alloc _).alloc _).below hb1 (by first | omega | (simp; done) | (simp; omega)), by have := hb1.size; simp at this; omega, ((hB.alloc hB.size _).alloc (by first | omega | (simp; done) | (simp; omega)) _).trans (hb1.mono (by first | omega | (simp; done) | (simp; omega)))⟩
          | some e =>
            rw [hready] at hE
            obtain ⟨hlk, hn1, hle⟩ := readyAt_look hready
            have hdl := delE_len hlk
            rw [hm] at hlk hn1 hE hdl
            have HE := Lib.hid hE
            have HLK := Lib.hid (show lookM (evW Wc) ⟨r, nn⟩ = some (.agg #[.int .i64 e.r, .int .i64 e.n, .int .i64 e.c.x0, .int .i64 e.c.x1, .int .i64 e.c.x2, .int .i64 e.c.x3, .int .i64 e.c.x4, .int .i64 e.h, .int .i64 e.k, .string e.key, .int .i64 e.lab, .string e.val]) by rw [look_evW, hlk]; rfl)
            have HLE := Lib.hid hle
            have HDL := Lib.hid hdl
            simp only at hn1
            clear hlk hready hm hE hle hdl
            have h1n : ¬ nn < 1 := by omega
            go_wp2_with (first | (at_lookup; refine wpL_look _ rfl _ _ 68 31 rfl Try.underlying68 (.agg #[.int .i64 Ev.zero.r, .int .i64 Ev.zero.n, .int .i64 Ev.zero.c.x0, .int .i64 Ev.zero.c.x1, .int .i64 Ev.zero.c.x2, .int .i64 Ev.zero.c.x3, .int .i64 Ev.zero.c.x4, .int .i64 Ev.zero.h, .int .i64 Ev.zero.k, .string Ev.zero.key, .int .i64 Ev.zero.lab, .string Ev.zero.val]) (zeroEv _) _ (evW Wc) rfl (h2.alloc _) ⟨r, nn⟩ rfl ?_; rw [HLK.out]))
            refine (lessEq_any e.c cc _).mono ?_
            rintro e' w1 ⟨rfl, hb1⟩
            rw [HLE.out]
            have hz := hb1.size
            simp at hz
            have h0' := ((h0.alloc _).alloc _).below hb1 (by first | omega | (simp; done) | (simp; omega))
            have h1' := ((h1.alloc _).alloc _).below hb1 (by first | omega | (simp; done) | (simp; omega))
            have h2' := ((h2.alloc _).alloc _).below hb1 (by first | omega | (simp; done) | (simp; omega))
            have h7' := ((h7.alloc _).alloc _).below hb1 (by first | omega | (simp; done) | (simp; omega))
            have h4' := ((h4.alloc _).alloc _).below hb1 (by first | omega | (simp; done) | (simp; omega))
            have bM' := ((blk_new wr [.int .i64 r, .int .i64 nn] 70).alloc _).below hb1 (by first | omega | (simp; done) | (simp; omega))
            have bE' := (blk_at (w := wr.alloc _) (b := wr.heap.size + 1) (by simp) [.int .i64 e.r, .int .i64 e.n, .int .i64 e.c.x0, .int .i64 e.c.x1, .int .i64 e.c.x2, .int .i64 e.c.x3, .int .i64 e.c.x4, .int .i64 e.h, .int .i64 e.k, .string e.key, .int .i64 e.lab, .string e.val] 31).below hb1 (by first | omega | (simp; done) | (simp; omega))
            have kE := bE'.cell
            have hB' := ((hB.alloc hB.size _).alloc (by first | omega | (simp; done) | (simp; omega)) _).trans (hb1.mono (by first | omega | (simp; done) | (simp; omega)))
            have ho4 := h4'.alloc (Obj.cells #[.int .i64 e.r, .int .i64 e.n, .int .i64 e.c.x0, .int .i64 e.c.x1, .int .i64 e.c.x2, .int .i64 e.c.x3, .int .i64 e.c.x4, .int .i64 e.h, .int .i64 e.k, .string e.key, .int .i64 e.lab, .string e.val] 31)
            have hne4 := h4.ne_ge (b := wr.heap.size) (Nat.le_refl _)
            have hdc : dc.length + 1 ≤ 1000000 := by omega
            have hbs : wS.heap.size ≤ (w1.alloc (Obj.cells #[.int .i64 e.r, .int .i64 e.n, .int .i64 e.c.x0, .int .i64 e.c.x1, .int .i64 e.c.x2, .int .i64 e.c.x3, .int .i64 e.c.x4, .int .i64 e.h, .int .i64 e.k, .string e.key, .int .i64 e.lab, .string e.val] 31)).heap.size := by simp; omega
            clear hb1 k0 f0
            go_wp2_with (first | (at_builtin; refine wpL_app1 evK _ rfl _ _ _ rfl wS.heap.size 31 112 _ Try.underlying24 infoEv rfl u4 dc rfl ho4 w1.heap.size e rfl (blk_new w1 [.int .i64 e.r, .int .i64 e.n, .int .i64 e.c.x0, .int .i64 e.c.x1, .int .i64 e.c.x2, .int .i64 e.c.x3, .int .i64 e.c.x4, .int .i64 e.h, .int .i64 e.k, .string e.key, .int .i64 e.lab, .string e.val] 31) hdc (by decide) hbs ?_; intro v4 w2 h42 hg2; have kM2 := ((bM'.alloc _).grown hg2 hne4).cell; have h22 := (h2'.alloc _).grown hg2 (h4.ne (by first | omega | (simp; done) | (simp; omega)))) | (at_delete; refine wpL_del _ rfl _ _ 68 31 rfl Try.underlying68 _ (evW Wc) rfl h22 ⟨r, nn⟩ rfl ?_; intro w3 h23 ht3; have h03 := ((h0'.alloc _).grown hg2 (h4.ne (by first | omega | (simp; done) | (simp; omega)))).grown ht3.grown (by first | omega | (simp; done) | (simp; omega)); have k03 := h03.cell; have f03 := h03.free))
            go_roundg f
            case measure => omega
            case rel =>
              have hd := HDL.out
              have hg3 := ht3.grown
              refine ⟨cc.set r nn, delE Wc ⟨r, nn⟩, dc ++ [e], 0, rfl, HE.out, by unfold drainM at hf ⊢; omega, by omega, by simp; omega, h03.setCk hr5 nn, ?_, ?_, ?_, ?_, ?_, ?_⟩
              · exact (((h1'.alloc _).grown hg2 (h4.ne (by first | omega | (simp; done) | (simp; omega)))).grown hg3 (by first | omega | (simp; done) | (simp; omega))).set_ne (by first | omega | (simp; done) | (simp; omega)) _
              · rw [← del_evW]
                exact h23.set_ne (by first | omega | (simp; done) | (simp; omega)) _
              · exact (((h7'.alloc _).kept_apart hg2 hS7 h4.base_le).kept_lt hg3 (by first | omega | (simp; done) | (simp; omega))).set_lt (by first | omega | (simp; done) | (simp; omega)) _
              · exact (h42.kept_lt hg3 (by first | omega | (simp; done) | (simp; omega))).set_lt (by first | omega | (simp; done) | (simp; omega)) _
              · have := hg2.size
                have := hg3.size
                simp at *
                omega
              · exact (((hB'.alloc (by first | omega | (simp; done) | (simp; omega)) _).grown hg2 (by simp; omega) (fun x hx => by have := h4.base_le x hx; omega)).grown hg3 (by have := hg2.size; simp at this; omega) (fun x hx => by cases hx; omega)).setCell (by first | omega | (simp; done) | (simp; omega)) _
        · obtain rfl : r = 5 := by omega
          rw [drainL, if_neg (by omega)] at hE
          have HE := Lib.hid hE
          clear hE
          have hlt0 := h0.lt; have hlt1 := h1.lt; have hlt2 := h2.lt
          obtain ⟨wT, rfl⟩ : ∃ wT : World, wT = wr := ⟨_, rfl⟩
          have hT7 := h7.lt_size; have hT4 := h4.lt_size
          obtain ⟨A7, cap7, hu7, hrow7, _, hb7⟩ := h7.form
          rw [List.length_map] at hu7
          subst hu7
          generalize hW0 : freshW c l = W0 at *
          have HW0 := Lib.hid hW0
          clear hW0
          have hW0n : W0.length ≤ 100000 := by rw [← HW0.out]; have := freshW_len c l; have := HN.out; omega
          go_wp2
          go_loopg [5, 100] (W0.length + 1) (fun f v5 v100 wr => ∃ k : Nat, v100 = .int .i64 k ∧ Dr3 w wS wT W0 cc Wc dc A7 cap7 u4 k f v5 wr)
          case atStart => exact ⟨0, rfl, by omega, by omega, h0, h1, h2, h7, h4, Kn.own_nil, Nat.le_refl _, hB⟩
          case round =>
            clear h0 h1 h2 h7 h4 hB
            obtain ⟨q, rfl, hq, hgq, h0, h1, h2, h7, h4, h5, hsz3, hB⟩ := hrel
            obtain ⟨g, rfl⟩ : ∃ g, gk = g + 1 := ⟨gk - 1, by omega⟩
            have k0 := h0.cell; have f0 := h0.free
            have k1 := h1.cell; have f1 := h1.free
            have hlt0 := h0.lt; have hlt1 := h1.lt; have hlt2 := h2.lt
            by_cases hqn : q < W0.length
            ·
              obtain ⟨p, hp⟩ : ∃ p, W0[q]? = some p := ⟨_, List.getElem?_eq_getElem hqn⟩
              have hp1 : (W0.map (·.1))[q]? = some p.1 := by simp [hp]
              obtain ⟨b7, o7, hA7, hb7', hat7⟩ := h7.row.get hp1
              subst hA7
              obtain ⟨m0, m1⟩ := mkAt_get hat7 hp1
              have hst : (W0.take (q + 1)).filterMap (fun p => lookE Wc p.1) = (W0.take q).filterMap (fun p => lookE Wc p.1) ++ (lookE Wc p.1).toList := by
                rw [List.take_add_one, hp]
                cases hx : lookE Wc p.1 <;> simp [List.filterMap_append, hx]
              have hll : ((W0.take q).filterMap fun p => lookE Wc p.1).length ≤ 100000 := Nat.le_trans (List.length_filterMap_le _ _) (Nat.le_trans (List.length_take_le' _ _) (by omega))
              have HP := Lib.hid hp
              clear hp hp1
              cases hlk : lookE Wc p.1 with
              | none =>
                have HLK := Lib.hid (show lookM (evW Wc) p.1 = none by rw [look_evW, hlk]; rfl)
                rw [hlk] at hst
                have HST := Lib.hid hst
                clear hlk hst
                go_wp2_with (first | (at_lookup; refine wpL_look _ rfl _ _ 68 31 rfl Try.underlying68 (.agg #[.int .i64 Ev.zero.r, .int .i64 Ev.zero.n, .int .i64 Ev.zero.c.x0, .int .i64 Ev.zero.c.x1, .int .i64 Ev.zero.c.x2, .int .i64 Ev.zero.c.x3, .int .i64 Ev.zero.c.x4, .int .i64 Ev.zero.h, .int .i64 Ev.zero.k, .string Ev.zero.key, .int .i64 Ev.zero.lab, .string Ev.zero.val]) (zeroEv _) _ (evW Wc) rfl (h2.alloc _) p.1 rfl ?_; rw [HLK.out]))
                go_roundg g
                case measure => omega
                case rel => exact ⟨q + 1, by go_num, by omega, by omega, (h0.alloc _).alloc _, (h1.alloc _).alloc _, (h2.alloc _).alloc _, (h7.alloc _).alloc _, (h4.alloc _).alloc _, by rw [HST.out, Option.toList_none, List.append_nil]; exact (h5.alloc _).alloc _, (by first | omega | (simp; done) | (simp; omega)), (hB.alloc hB.size _).alloc (by first | omega | (simp; done) | (simp; omega)) _⟩
              | some e =>
                have HLK := Lib.hid (show lookM (evW Wc) p.1 = some (.agg #[.int .i64 e.r, .int .i64 e.n, .int .i64 e.c.x0, .int .i64 e.c.x1, .int .i64 e.c.x2, .int .i64 e.c.x3, .int .i64 e.c.x4, .int .i64 e.h, .int .i64 e.k, .string e.key, .int .i64 e.lab, .string e.val]) by rw [look_evW, hlk]; rfl)
                rw [hlk] at hst
                have HST := Lib.hid hst
                clear hlk hst
                generalize hL : (W0.take q).filterMap (fun p => lookE Wc p.1) = L at *
                have HL := Lib.hid hL
                clear hL
                have ho5 := ((h5.alloc (Obj.cells #[.int .i64 p.1.r, .int .i64 p.1.n] 70)).alloc (Obj.cells #[.int .i64 e.r, .int .i64 e.n, .int .i64 e.c.x0, .int .i64 e.c.x1, .int .i64 e.c.x2, .int .i64 e.c.x3, .int .i64 e.c.x4, .int .i64 e.h, .int .i64 e.k, .string e.key, .int .i64 e.lab, .string e.val] 31)).alloc (Obj.cells #[.int .i64 e.r, .int .i64 e.n, .int .i64 e.c.x0, .int .i64 e.c.x1, .int .i64 e.c.x2, .int .i64 e.c.x3, .int .i64 e.c.x4, .int .i64 e.h, .int .i64 e.k, .string e.key, .int .i64 e.lab, .string e.val] 31)
                have hdc : L.length + 1 ≤ 1000000 := by omega
                have hbs : wT.heap.size ≤ (((wr.alloc (Obj.cells #[.int .i64 p.1.r, .int .i64 p.1.n] 70)).alloc (Obj.cells #[.int .i64 e.r, .int .i64 e.n, .int .i64 e.c.x0, .int .i64 e.c.x1, .int .i64 e.c.x2, .int .i64 e.c.x3, .int .i64 e.c.x4, .int .i64 e.h, .int .i64 e.k, .string e.key, .int .i64 e.lab, .string e.val] 31)).alloc (Obj.cells #[.int .i64 e.r, .int .i64 e.n, .int .i64 e.c.x0, .int .i64 e.c.x1, .int .i64 e.c.x2, .int .i64 e.c.x3, .int .i64 e.c.x4, .int .i64 e.h, .int .i64 e.k, .string e.key, .int .i64 e.lab, .string e.val] 31)).heap.size := by simp; omega
                go_wp2_with (first | (at_lookup; refine wpL_look _ rfl _ _ 68 31 rfl Try.underlying68 (.agg #[.int .i64 Ev.zero.r, .int .i64 Ev.zero.n, .int .i64 Ev.zero.c.x0, .int .i64 Ev.zero.c.x1, .int .i64 Ev.zero.c.x2, .int .i64 Ev.zero.c.x3, .int .i64 Ev.zero.c.x4, .int .i64 Ev.zero.h, .int .i64 Ev.zero.k, .string Ev.zero.key, .int .i64 Ev.zero.lab, .string Ev.zero.val]) (zeroEv _) _ (evW Wc) rfl (h2.alloc _) p.1 rfl ?_; rw [HLK.out]) | (at_builtin; refine wpL_app1 evK _ rfl _ _ _ rfl wT.heap.size 31 112 _ Try.underlying24 infoEv rfl u5 L rfl ho5 (wr.heap.size + 1 + 1) e rfl (blk_at (by simp) [.int .i64 e.r, .int .i64 e.n, .int .i64 e.c.x0, .int .i64 e.c.x1, .int .i64 e.c.x2, .int .i64 e.c.x3, .int .i64 e.c.x4, .int .i64 e.h, .int .i64 e.k, .string e.key, .int .i64 e.lab, .string e.val] 31) hdc (by decide) hbs ?_; intro v5 w2 h52 hg2))
                go_roundg g
                case measure => omega
                case rel =>
                  have hb5 := h5.base_le
                  refine ⟨q + 1, by go_num, by omega, by omega, (((h0.alloc _).alloc _).alloc _).grown hg2 (h5.ne (by first | omega | (simp; done) | (simp; omega))), (((h1.alloc _).alloc _).alloc _).grown hg2 (h5.ne (by first | omega | (simp; done) | (simp; omega))), (((h2.alloc _).alloc _).alloc _).grown hg2 (h5.ne (by first | omega | (simp; done) | (simp; omega))), (((h7.alloc _).alloc _).alloc _).kept_apart hg2 hT7 hb5, (((h4.alloc _).alloc _).alloc _).kept_apart hg2 hT4 hb5, by rw [HST.out]; exact h52, by have := hg2.size; simp at this; omega, ((((hB.alloc hB.size _).alloc (by first | omega | (simp; done) | (simp; omega)) _).alloc (by first | omega | (simp; done) | (simp; omega)) _).grown hg2 (by first | omega | (simp; done) | (simp; omega)) (fun x hx => by have := hb5 x hx; omega))⟩
            · obtain rfl : q = W0.length := by omega
              rw [List.take_length] at h5
              go_wp2
              go_region
              go_wp2
              have hdr : drain c l = (dc, W0.filterMap fun p => lookE Wc p.1, cc) := by
                unfold drain
                rw [HW0.out, ← HE.out]
              rw [hdr]
              refine bodyPost_ret (v := .tuple #[u4, u5, .agg #[.int .i64 cc.x0, .int .i64 cc.x1, .int .i64 cc.x2, .int .i64 cc.x3, .int .i64 cc.x4]]) (by simp [results, Try.results19, go_sem, k1]) rfl ⟨u4, u5, rfl, ?_, ?_, ?_⟩
              · exact (((((((h4.set_lt (by first | omega | (simp; done) | (simp; omega)) _).set_lt (by first | omega | (simp; done) | (simp; omega)) _).set_lt (by first | omega | (simp; done) | (simp; omega)) _).set_lt (by first | omega | (simp; done) | (simp; omega)) _).set_lt (by first | omega | (simp; done) | (simp; omega)) _).drew).mono (by first | omega | (simp; done) | (simp; omega)))
              · exact (((((((h5.set_lt (by first | omega | (simp; done) | (simp; omega)) _).set_lt (by first | omega | (simp; done) | (simp; omega)) _).set_lt (by first | omega | (simp; done) | (simp; omega)) _).set_lt (by first | omega | (simp; done) | (simp; omega)) _).set_lt (by first | omega | (simp; done) | (simp; omega)) _).drew).mono (by first | omega | (simp; done) | (simp; omega)))
              · exact (((((hB.setCell (by first | omega | (simp; done) | (simp; omega)) _).setCell (by first | omega | (simp; done) | (simp; omega)) _).setCell (by first | omega | (simp; done) | (simp; omega)) _).setCell (by first | omega | (simp; done) | (simp; omega)) _).setCell (by first | omega | (simp; done) | (simp; omega)) _).drew
end Go.Proofs.Ytlfhjlkhhaoicaa
