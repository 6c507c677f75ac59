/- The walk of kithlaw13.InboxOwn. -/
import Derived.Test.YtlfhjlkhhaoicaaInboxLoses
import Derived.Test.YtlfhjlkhhaoicaaOwnP
import Derived.Test.YtlfhjlkhhaoicaaOwnW
import Derived.Deep.CutRange
namespace Go.Proofs.Ytlfhjlkhhaoicaa
set_option linter.unusedVariables false
set_option linter.unusedSimpArgs false
open Go.RowKit
attribute [local go_sem] ck_get ck_get? q_le0 q_le1 q_le2 q_le3 q_le4 q_le5 q_lt1 q_lt2 q_lt3 q_lt4 q_lt5
attribute [local go_sem high] eqCk eqMk eqEv

set_option maxRecDepth 100000 in
set_option maxHeartbeats 4000000 in
theorem inboxOwn_any (A : Option Addr) (ca : Nat) (l : List Ch) (w : World) (hl : chK.row w A l) (hc : l.length ≤ ca) (hm : ca ≤ maxLen) (hwf : ∀ c ∈ l, c.wf) :
    Calls Try.prog 12 #[.slice A l.length ca] w fun e w' => e = .returned (.bool true) ∧ Below w.heap.size w w' := by
  have H40 := Lib.hid (show min l.length 40 = (l.take 40).length by rw [List.length_take]; omega)
  have HL40 := Lib.hid (show (l.take 40).length ≤ 40 by rw [List.length_take]; omega)
  have HWF := Lib.hid (fun c (h : c ∈ l.take 40) => hwf c ((List.take_sublist _ _).subset h))
  have hl4 := hl.take 40
  clear hwf hl
  generalize l.take 40 = L4 at *
  go_enter Try.func12, Try.ntmps12
  go_wp2_with fail
  refine (shown13_any _).mono ?_
  rintro e w1 ⟨rfl, hb1⟩
  have hl4' := hl4.below hb1 (Nat.le_refl _)
  go_wp2_with fail
  refine (short13_any A l.length ca _ hc hm).mono ?_
  rintro e w1' ⟨rfl, rfl⟩
  rw [H40.out]
  go_wp2_with fail
  refine (make_any A ca L4 _ hl4' HL40.out HWF.out).mono ?_
  rintro e w2 ⟨v, p, rfl, hP, hp40, hop, hb2⟩
  obtain ⟨A2, c2, rfl, _, hcc, _⟩ := hop.form
  have hB2 := hb1.trans (hb2.mono hb1.size)
  have HP := Lib.hid hP
  clear hP hl4' hl4 hb1 hb2
  generalize hnn : p.length = n at *
  have HN := Lib.hid hnn
  clear hnn
  go_wp2_with fail
  refine (new_st 20 Ck.zero _).mono ?_
  rintro e w4 ⟨bx, rfl, hbx, hIx, hb4⟩
  have hop4 := hop.below hb4 (Nat.le_refl _)
  have hB4 := hB2.trans (hb4.mono hB2.size)
  have hs2 := hB2.size
  have hlx : w.heap.size ≤ bx := by omega
  have hs4 := hb4.size
  obtain ⟨vl4, hIb, hIo⟩ := hIx
  have HPN := Lib.hid (hop4.ne_blk hIb (by decide))
  clear hb4 hB2 hop
  go_wp2_with fail
  go_loopw [6] (fun v6 wr => ∃ (i : Nat) (c : Ck), i ≤ n ∧ v6 = .int .i64 i ∧ InbAt wr bx w2.heap.size 20 c [] ∧ Hid (Got p (p.take i) [] c) ∧ w4.grownBy wr (some bx)) (fun v6 _ => n - (intOf v6).toNat)
  case atStart => exact ⟨0, Ck.zero, by omega, rfl, ⟨vl4, hIb, hIo⟩, Got.start p, World.grownBy.refl w4 _⟩
  case round =>
    clear hIb hIo
    obtain ⟨i, c, hi, rfl, hI, hG, hgb⟩ := hrel
    have hBr := hB4.trans (gb_below hgb hlx hB4.size)
    by_cases hlt : i < n
    · skip
      have hopr := (hop4.kept hgb (.inl (Ne.symm HPN.out))).row
      obtain ⟨k, rfl⟩ : ∃ k, n = k + 1 := ⟨n - 1, by omega⟩
      obtain ⟨z, hz⟩ : ∃ z, p[k]? = some z := ⟨_, List.getElem?_eq_getElem (by rw [HN.out]; omega)⟩
      obtain ⟨x, hx⟩ : ∃ x, p[i]? = some x := ⟨_, List.getElem?_eq_getElem (by rw [HN.out]; exact hlt)⟩
      obtain ⟨b, off, rfl, hb, hat⟩ := hopr.get hz
      obtain ⟨e0, e1, e2, e3, e4, e5, e6, e7, e8, e9, e10, e11⟩ := evAt_get hat hz
      have HZ := Lib.hid hz
      have HX := Lib.hid hx
      clear hz hx
      by_cases hik : i = k
      · skip
        obtain rfl : k = i := hik.symm
        obtain rfl : x = z := Option.some.inj (HX.out.symm.trans HZ.out)
        have HNX := Lib.hid (hG.out.next HP.out HX.out)
        have HD := Lib.hid (drain_rdy (hG.out.wf HP.out) (HP.out.nwf (List.mem_of_getElem? HX.out)) HNX.out.1)
        have HCL := Lib.hid (show isClock p (bump c x) by
          have h1 := hG.out.more HP.out (List.mem_of_getElem? HX.out) HNX.out.1
          rw [take_snoc HX.out, List.take_of_length_le (by rw [HN.out]; omega)] at h1
          exact h1.clock)
        clear hik
        go_wp2_with fail
        refine (own_took x hI HD.out).mono ?_
        rintro e w5 ⟨rfl, hI5, hg5⟩
        have hop5 := (hop4.kept (gb_trans hgb hg5 (fun k hk => .inl (by cases hk; rfl))) (.inl (Ne.symm HPN.out))).row
        have hB5 := hBr.trans (gb_below hg5 hlx hBr.size)
        clear e0 e1 e2 e3 e4 e5 e6 e7 e8 e9 e10 e11 hat hI hgb hg5 hB4
        go_wp2_with fail
        refine (clock_st bx _ 20 _ [] _ hI5).mono ?_
        rintro e w6 ⟨rfl, hb6⟩
        have hB6 := (hB5.trans (hb6.mono hB5.size)).alloc (by have := hB5.size; have := hb6.size; omega) (Obj.cells #[.int .i64 (bump c x).x0, .int .i64 (bump c x).x1, .int .i64 (bump c x).x2, .int .i64 (bump c x).x3, .int .i64 (bump c x).x4] 23)
        have hop6 := (hop5.below hb6 (Nat.le_refl _)).alloc (Obj.cells #[.int .i64 (bump c x).x0, .int .i64 (bump c x).x1, .int .i64 (bump c x).x2, .int .i64 (bump c x).x3, .int .i64 (bump c x).x4] 23)
        have hz6 := blk_new w6 [Value.int .i64 (bump c x).x0, Value.int .i64 (bump c x).x1, Value.int .i64 (bump c x).x2, Value.int .i64 (bump c x).x3, Value.int .i64 (bump c x).x4] 23
        have hgs : w6.heap.size < (w6.alloc (Obj.cells #[.int .i64 (bump c x).x0, .int .i64 (bump c x).x1, .int .i64 (bump c x).x2, .int .i64 (bump c x).x3, .int .i64 (bump c x).x4] 23)).heap.size := hz6.lt
        clear hI5 hop5 hB5 hb6
        have hpc := fun wq (hq : evK.row wq (some ⟨b, off, none⟩) p) => pclock_any (some ⟨b, off, none⟩) c2 p wq hq (by rw [HN.out]; omega)
        simp only [HN.out] at hpc
        have HPC := Lib.hid hpc
        clear hpc
        go_wp2_with fail
        generalize w6.alloc (Obj.cells #[.int .i64 (bump c x).x0, .int .i64 (bump c x).x1, .int .i64 (bump c x).x2, .int .i64 (bump c x).x3, .int .i64 (bump c x).x4] 23) = w7 at *
        have hop7 := hop6.below (Below.refl w7.heap.size w7).drew (Nat.le_refl _)
        first | (go_region_held3 (fun w' => (∀ o, w'.cell? ⟨w6.heap.size, o, none⟩ = ([Value.int .i64 (bump c x).x0, Value.int .i64 (bump c x).x1, Value.int .i64 (bump c x).x2, Value.int .i64 (bump c x).x3, Value.int .i64 (bump c x).x4] : List Value)[o]?) ∧ Below w7.heap.size w7 w')
          (first | with_reducible exact keepE hz6 hB8 | with_reducible exact keepE hz6 (Below.refl _ _).drew)
          (first
            | (go_at_call 25; refine (HPC.out _ hop7).mono ?_; rintro e8 w8 ⟨c', rfl, hc', hb8⟩; obtain rfl := HCL.out.uniq hc'; have hB8 : Below w7.heap.size w7 w8 := (Below.refl _ _).drew.trans hb8))) | fail
        go_wp2
        go_ret
        exact ⟨rfl, hB6.trans (hB8.mono hB6.size)⟩
      · skip
        have hik2 : i < k := by omega
        have hki : ((i : Int) == (k : Int)) = false := by simp; omega
        have hki2 : decide ((i : Int) = (k : Int)) = false := decide_eq_false (by omega)
        have HNZ := Lib.hid (show z ∉ p.take i from (HP.out.nodup_at HZ.out HX.out hik2))
        have hZn := hG.out.new HP.out (List.mem_of_getElem? HZ.out) HNZ.out
        have hM := HP.out.may z (List.mem_of_getElem? HZ.out)
        have hzr := hM.r0
        have hzr5 := hM.r5
        by_cases hR : rdy c z
        · skip
          have HD := Lib.hid (drain_rdy (hG.out.wf HP.out) (HP.out.nwf (List.mem_of_getElem? HZ.out)) hR)
          have HPZ := Lib.hid (show Past (p.take i ++ [z]) from (hG.out.more HP.out (List.mem_of_getElem? HZ.out) hR).past HP.out (take_sub (mem_drop HZ.out (by omega))))
          have HGZ := Lib.hid (show (bump c z).get z.r.toNat = z.n by unfold bump; rw [Ck.get_set_same _ (by omega)])
          clear hZn hM hR
          obtain ⟨q, hq⟩ : ∃ q : Nat, z.r = q := ⟨z.r.toNat, by omega⟩
          have hq5 : q < 5 := by omega
          have hgz := HGZ.out
          rw [hq, Int.toNat_natCast] at hgz
          have hgz2 : decide ((bump c z).get q = z.n) = true := decide_eq_true hgz
          have hgz3 : ((bump c z).get q == z.n) = true := by simp [hgz]
          have HQ := Lib.hid hq
          clear hgz HGZ hzr hzr5 hq
          go_wp2_with fail
          refine (own_took z hI HD.out).mono ?_
          rintro e w5 ⟨rfl, hI5, hg5⟩
          have hop5 := (hop4.kept (gb_trans hgb hg5 (fun k hk => .inl (by cases hk; rfl))) (.inl (Ne.symm HPN.out))).row
          have hB5 := hBr.trans (gb_below hg5 hlx hBr.size)
          clear e0 e1 e2 e3 e4 e5 e6 e7 e8 e9 e10 e11 hat hI hgb hg5 hB4
          go_wp2_with fail
          refine (clock_st bx _ 20 _ [] _ hI5).mono ?_
          rintro e w6 ⟨rfl, hb6⟩
          have hB6 := (hB5.trans (hb6.mono hB5.size)).alloc (by have := hB5.size; have := hb6.size; omega) (Obj.cells #[.int .i64 (bump c z).x0, .int .i64 (bump c z).x1, .int .i64 (bump c z).x2, .int .i64 (bump c z).x3, .int .i64 (bump c z).x4] 23)
          have hop6 := (hop5.below hb6 (Nat.le_refl _)).alloc (Obj.cells #[.int .i64 (bump c z).x0, .int .i64 (bump c z).x1, .int .i64 (bump c z).x2, .int .i64 (bump c z).x3, .int .i64 (bump c z).x4] 23)
          have hz6 := blk_new w6 [Value.int .i64 (bump c z).x0, Value.int .i64 (bump c z).x1, Value.int .i64 (bump c z).x2, Value.int .i64 (bump c z).x3, Value.int .i64 (bump c z).x4] 23
          have hgs : w6.heap.size < (w6.alloc (Obj.cells #[.int .i64 (bump c z).x0, .int .i64 (bump c z).x1, .int .i64 (bump c z).x2, .int .i64 (bump c z).x3, .int .i64 (bump c z).x4] 23)).heap.size := hz6.lt
          clear hI5 hop5 hB5 hb6
          go_wp2_with fail
          generalize w6.alloc (Obj.cells #[.int .i64 (bump c z).x0, .int .i64 (bump c z).x1, .int .i64 (bump c z).x2, .int .i64 (bump c z).x3, .int .i64 (bump c z).x4] 23) = w7 at *
          obtain ⟨_, _, hA7, hbl7, hat7⟩ := hop6.get HZ.out
          cases hA7
          obtain ⟨e0, e1, e2, e3, e4, e5, e6, e7, e8, e9, e10, e11⟩ := evAt_get hat7 HZ.out
          rw [HQ.out] at e0
          have cz := hz6.cell
          clear hz6
          go_quiet (fail)
          go_wp2_with fail
          have hB8 := bdN hB6 nq
          have hrt : evK.row (w7.drewN nq) (some ⟨b, off, none⟩) (p.take i) := Kn.row.take (Kn.row.below hop6 (bdN (Below.refl w7.heap.size w7) nq) (Nat.le_refl _)) i
          have hat8 : evK.at (w7.drewN nq) b off p := hat7.below (bdN (Below.refl w7.heap.size w7) nq) hbl7
          have hbl8 : b < (w7.drewN nq).heap.size := hbl7
          clear e0 e1 e2 e3 e4 e5 e6 e7 e8 e9 e10 e11 hat7 hbl7 hB6 hop6 cz
          generalize w7.drewN nq = W at *
          have HTL := Lib.hid (show (p.take i).length = i by rw [List.length_take, HN.out]; omega)
          have HBD := Lib.hid (show (p.take i).length + 1 ≤ 1000000 by rw [HTL.out]; omega)
          obtain ⟨R, hR⟩ : ∃ R, R = p.take i ++ [z] := ⟨_, rfl⟩
          have HRE := Lib.hid hR
          have HRP := Lib.hid (show Past R by rw [hR]; exact HPZ.out)
          have HRL := Lib.hid (show R.length ≤ 1000 by rw [hR, List.length_append, HTL.out]; simp; omega)
          have hi0 : (0 : Int) ≤ (i : Int) := by omega
          have hk0 : (0 : Int) ≤ (k : Int) := by omega
          have hk1 : (k : Int) < (k : Int) + 1 := by omega
          have hw1 : IntKind.i64.wrap ((k : Int) + 1 - 1) = (k : Int) := by rw [Int.add_sub_cancel]; exact IntWalk.i64_in _ (by omega)
          have hw2 : IntKind.i64.wrap (k : Int) = (k : Int) := IntWalk.i64_in _ (by omega)
          have hic : (i : Int) ≤ (c2 : Int) := by omega
          clear hR HPZ
          have hoa : evK.own 31 (W.drew.alloc (Obj.cells #[] 31)) W.heap.size (.slice (some ⟨W.heap.size, 0, none⟩) 0 0) [] := World.ownsRow_lit W.drew #[] 0 (Nat.le_refl _) (by decide) rfl
          have hob := hoa.alloc (Obj.cells #[.int .i64 z.r, .int .i64 z.n, .int .i64 z.c.x0, .int .i64 z.c.x1, .int .i64 z.c.x2, .int .i64 z.c.x3, .int .i64 z.c.x4, .int .i64 z.h, .int .i64 z.k, .string z.key, .int .i64 z.lab, .string z.val] 31)
          have hoc : evK.own 31 ((W.drew.alloc (Obj.cells #[.int .i64 z.r, .int .i64 z.n, .int .i64 z.c.x0, .int .i64 z.c.x1, .int .i64 z.c.x2, .int .i64 z.c.x3, .int .i64 z.c.x4, .int .i64 z.h, .int .i64 z.k, .string z.key, .int .i64 z.lab, .string z.val] 31)).alloc (Obj.cells #[] 31)) W.heap.size (.slice (some ⟨W.heap.size + 1, 0, none⟩) 0 0) [] := own_lit1 W.drew _
          first | (go_region_held3 (fun w' => (w'.cell? ⟨b, off + k * 12, none⟩ = some (.int .i64 z.r) ∧ w'.cell? ⟨b, off + k * 12 + 1, none⟩ = some (.int .i64 z.n) ∧ w'.cell? ⟨b, off + k * 12 + 2, none⟩ = some (.int .i64 z.c.x0) ∧ w'.cell? ⟨b, off + k * 12 + 3, none⟩ = some (.int .i64 z.c.x1) ∧ w'.cell? ⟨b, off + k * 12 + 4, none⟩ = some (.int .i64 z.c.x2) ∧ w'.cell? ⟨b, off + k * 12 + 5, none⟩ = some (.int .i64 z.c.x3) ∧ w'.cell? ⟨b, off + k * 12 + 6, none⟩ = some (.int .i64 z.c.x4) ∧ w'.cell? ⟨b, off + k * 12 + 7, none⟩ = some (.int .i64 z.h) ∧ w'.cell? ⟨b, off + k * 12 + 8, none⟩ = some (.int .i64 z.k) ∧ w'.cell? ⟨b, off + k * 12 + 9, none⟩ = some (.string z.key) ∧ w'.cell? ⟨b, off + k * 12 + 10, none⟩ = some (.int .i64 z.lab) ∧ w'.cell? ⟨b, off + k * 12 + 11, none⟩ = some (.string z.val)) ∧ Below W.heap.size W w')
            (first | with_reducible exact keepZ hat8 hbl8 HZ.out hB9 | with_reducible exact keepZ hat8 hbl8 HZ.out hB7 | with_reducible exact keepZ hat8 hbl8 HZ.out hB5 | with_reducible assumption | (go_split_ands; with_reducible exact keepZ hat8 hbl8 HZ.out (Below.alloc (by with_reducible assumption) (bsz (by with_reducible assumption)) _)) | with_reducible exact keepZ hat8 hbl8 HZ.out (Below.refl _ _).drew)
            (first
              | (go_split_ands; (refine step_appr evK _ (by rfl) _ _ _ (by rfl) W.heap.size 31 112 _ Try.underlying24 infoEv (by rfl) _ [] (by rfl) hoa (some ⟨b, off, none⟩) c2 (p.take i) (by rw [HTL.out]; rfl) (hrt.below (by assumption) (Nat.le_refl _)) (by have := HBD.out; simp; omega) (by decide) (by simp <;> omega) ?_); intro v5 w5 ho5 hg5; have hB5 : Below W.heap.size W w5 := Below.grown (by assumption) hg5 (bsz (by assumption)) hoa.base_le; rw [List.nil_append] at ho5)
              | (go_split_ands; (refine step_appr evK _ (by rfl) _ _ _ (by rfl) W.heap.size 31 112 _ Try.underlying24 infoEv (by rfl) _ [] (by rfl) hob (some ⟨b, off, none⟩) c2 (p.take i) (by rw [HTL.out]; rfl) (hrt.below (by assumption) (Nat.le_refl _)) (by have := HBD.out; simp; omega) (by decide) (by simp <;> omega) ?_); intro v5 w5 ho5 hg5; have hB5 : Below W.heap.size W w5 := Below.grown (by assumption) hg5 (bsz (by assumption)) hob.base_le; rw [List.nil_append] at ho5; have he5 := (blk_at (w := W.drew.alloc (Obj.cells #[] 31)) (b := W.heap.size + 1) (by simp) [.int .i64 z.r, .int .i64 z.n, .int .i64 z.c.x0, .int .i64 z.c.x1, .int .i64 z.c.x2, .int .i64 z.c.x3, .int .i64 z.c.x4, .int .i64 z.h, .int .i64 z.k, .string z.key, .int .i64 z.lab, .string z.val] 31).grown hg5 (by simp [Value.ownBlock]))
              | (go_split_ands; (refine step_appr evK _ (by rfl) _ _ _ (by rfl) W.heap.size 31 112 _ Try.underlying24 infoEv (by rfl) _ [] (by rfl) hoc (some ⟨b, off, none⟩) c2 (p.take i) (by rw [HTL.out]; rfl) (hrt.below (by assumption) (Nat.le_refl _)) (by have := HBD.out; simp; omega) (by decide) (by simp <;> omega) ?_); intro v5 w5 ho5 hg5; have hB5 : Below W.heap.size W w5 := Below.grown (by assumption) hg5 (bsz (by assumption)) hoc.base_le; rw [List.nil_append] at ho5; have he5 := ((blk_at (w := W.drew) (b := W.heap.size) rfl [.int .i64 z.r, .int .i64 z.n, .int .i64 z.c.x0, .int .i64 z.c.x1, .int .i64 z.c.x2, .int .i64 z.c.x3, .int .i64 z.c.x4, .int .i64 z.h, .int .i64 z.k, .string z.key, .int .i64 z.lab, .string z.val] 31).alloc (Obj.cells #[] 31)).grown hg5 (by simp [Value.ownBlock]))
              | (go_split_ands; (refine step_appr evK _ (by rfl) _ _ _ (by rfl) W.heap.size 31 112 _ Try.underlying24 infoEv (by rfl) _ (p.take i) (by rfl) (ho5.alloc (Obj.cells #[.int .i64 z.r, .int .i64 z.n, .int .i64 z.c.x0, .int .i64 z.c.x1, .int .i64 z.c.x2, .int .i64 z.c.x3, .int .i64 z.c.x4, .int .i64 z.h, .int .i64 z.k, .string z.key, .int .i64 z.lab, .string z.val] 31)) (some ⟨w5.heap.size, 0, none⟩) 1 [z] (by rfl) (row_oneA rfl) (by have := HBD.out; simp; omega) (by decide) (by have := hB5.size; simp; omega) ?_); intro v7 w7 ho7 hg7; have hB7 : Below W.heap.size W w7 := (hB5.alloc hB5.size _).grown hg7 (by have := hB5.size; simp; omega) (ho5.alloc (Obj.cells #[.int .i64 z.r, .int .i64 z.n, .int .i64 z.c.x0, .int .i64 z.c.x1, .int .i64 z.c.x2, .int .i64 z.c.x3, .int .i64 z.c.x4, .int .i64 z.h, .int .i64 z.k, .string z.key, .int .i64 z.lab, .string z.val] 31)).base_le; rw [← HRE.out] at ho7; obtain ⟨A7, c7, rfl, hr7, hc7, _⟩ := ho7.form)
              | (go_split_ands; (refine step_appr evK _ (by rfl) _ _ _ (by rfl) W.heap.size 31 112 _ Try.underlying24 infoEv (by rfl) _ (p.take i) (by rfl) ho5 (some ⟨_, 0, none⟩) 1 [z] (by rfl) (Kn.row_of (l := [z]) he5) (by have := HBD.out; simp; omega) (by decide) hB5.size ?_); intro v7 w7 ho7 hg7; have hB7 : Below W.heap.size W w7 := hB5.grown hg7 hB5.size ho5.base_le; rw [← HRE.out] at ho7; obtain ⟨A7, c7, rfl, hr7, hc7, _⟩ := ho7.form)
              | (go_at_call 38; refine (right_any A7 c7 R _ hr7 HRL.out HRP.out.evOk).mono ?_; rintro e9 w9 ⟨rfl, hb9⟩; rw [pB_true HRP.out.right]; have hB9 : Below W.heap.size W w9 := hB7.trans (hb9.mono hB7.size)))) | fail
          all_goals go_wp2
          all_goals go_ret
          all_goals exact ⟨rfl, hB8.trans (hB9.mono hB8.size)⟩
        · skip
          have HD := Lib.hid (drain_not (hG.out.wf HP.out) (HP.out.nwf (List.mem_of_getElem? HZ.out)) hR hZn)
          have HNX := Lib.hid (hG.out.next HP.out HX.out)
          have HDX := Lib.hid (drain_rdy (hG.out.wf HP.out) (HP.out.nwf (List.mem_of_getElem? HX.out)) HNX.out.1)
          have HGM := Lib.hid (show Got p (p.take (i + 1)) [] (bump c x) by
            have h1 := hG.out.more HP.out (List.mem_of_getElem? HX.out) HNX.out.1
            rw [take_snoc HX.out] at h1
            exact h1)
          have HDH := Lib.hid (drain_had (HGM.out.wf HP.out) (HP.out.nwf (List.mem_of_getElem? HX.out)) (bump_has HNX.out.1))
          obtain ⟨q, hq⟩ : ∃ q : Nat, z.r = q := ⟨z.r.toNat, by omega⟩
          have hq5 : q < 5 := by omega
          have HQ := Lib.hid hq
          have hgz : c.get q ≠ z.n := fun hc => by
            rw [← Int.toNat_natCast (n := q), ← hq] at hc
            have h1 := hM.n1
            have h2 : hasB c z.r z.n = true := hasB_iff.2 ⟨hzr, hzr5, h1, by omega⟩
            rw [hZn] at h2
            simp at h2
          have hgz2 : decide (c.get q = z.n) = false := decide_eq_false hgz
          have hgz3 : (c.get q == z.n) = false := by simp [hgz]
          clear hgz hzr hzr5 hq hZn hM hR
          go_wp2_with fail
          refine (own_gap z hI HD.out).mono ?_
          rintro e w5 ⟨rfl, hI5, hb5⟩
          have hgb5 := gb_bel hgb hb5
          clear e0 e1 e2 e3 e4 e5 e6 e7 e8 e9 e10 e11 hat hI hgb hb5
          go_wp2_with fail
          refine (clock_st bx _ 20 _ [] _ hI5).mono ?_
          rintro e w6 ⟨rfl, hb6⟩
          have hb6' := hb6.alloc hb6.size (Obj.cells #[.int .i64 c.x0, .int .i64 c.x1, .int .i64 c.x2, .int .i64 c.x3, .int .i64 c.x4] 23)
          have hI6 := hI5.below hb6'
          have hgb6 := gb_bel hgb5 hb6'
          have hz6 := blk_new w6 [Value.int .i64 c.x0, Value.int .i64 c.x1, Value.int .i64 c.x2, Value.int .i64 c.x3, Value.int .i64 c.x4] 23
          have hgs : w6.heap.size < (w6.alloc (Obj.cells #[.int .i64 c.x0, .int .i64 c.x1, .int .i64 c.x2, .int .i64 c.x3, .int .i64 c.x4] 23)).heap.size := hz6.lt
          clear hI5 hgb5 hb6 hb6'
          go_wp2_with fail
          generalize w6.alloc (Obj.cells #[.int .i64 c.x0, .int .i64 c.x1, .int .i64 c.x2, .int .i64 c.x3, .int .i64 c.x4] 23) = w7 at *
          have hop6 := (hop4.kept hgb6 (.inl (Ne.symm HPN.out))).row
          obtain ⟨_, _, hA7, hbl7, hat7⟩ := hop6.get HZ.out
          cases hA7
          obtain ⟨e0, e1, e2, e3, e4, e5, e6, e7, e8, e9, e10, e11⟩ := evAt_get hat7 HZ.out
          rw [HQ.out] at e0
          have cz := hz6.cell
          clear hz6
          go_quiet (fail)
          have hI8 := hI6.below (bdN (Below.refl w7.heap.size w7) nq)
          have hgb8 := gb_bel hgb6 (bdN (Below.refl w7.heap.size w7) nq)
          have hat8 : evK.at (w7.drewN nq) b off p := hat7.below (bdN (Below.refl w7.heap.size w7) nq) hbl7
          clear e0 e1 e2 e3 e4 e5 e6 e7 e8 e9 e10 e11 hat7 hbl7 hop6 cz hI6 hgb6
          obtain ⟨e0, e1, e2, e3, e4, e5, e6, e7, e8, e9, e10, e11⟩ := evAt_get hat8 HX.out
          generalize w7.drewN nq = W at *
          go_wp2_with fail
          refine (own_took x hI8 HDX.out).mono ?_
          rintro e w9 ⟨rfl, hI9, hg9⟩
          have hgb9 := gb_trans hgb8 hg9 (fun k hk => .inl (by cases hk; rfl))
          have hop9 := (hop4.kept hgb9 (.inl (Ne.symm HPN.out))).row
          clear e0 e1 e2 e3 e4 e5 e6 e7 e8 e9 e10 e11 hat8 hI8 hgb8 hg9
          obtain ⟨_, _, hA9, hbl9, hat9⟩ := hop9.get HX.out
          cases hA9
          obtain ⟨e0, e1, e2, e3, e4, e5, e6, e7, e8, e9, e10, e11⟩ := evAt_get hat9 HX.out
          go_wp2_with fail
          refine (own_gap x hI9 HDH.out).mono ?_
          rintro e w10 ⟨rfl, hI10, hb10⟩
          have hgb10 := gb_bel hgb9 hb10
          clear e0 e1 e2 e3 e4 e5 e6 e7 e8 e9 e10 e11 hat9 hI9 hgb9 hb10 hop9
          go_wp2
          go_roundw
          case measure => simp [intOf]; omega
          case rel => exact ⟨i + 1, bump c x, by omega, by go_num, hI10, HGM, hgb10⟩
    · go_wp2
      go_ret
      exact ⟨rfl, hBr⟩
end Go.Proofs.Ytlfhjlkhhaoicaa
