/- The walk of kithlaw13.InboxLoses. -/
import Derived.Test.YtlfhjlkhhaoicaaInboxFull
import Derived.Test.YtlfhjlkhhaoicaaInboxD
import Derived.Test.YtlfhjlkhhaoicaaDrainR
import Derived.Test.YtlfhjlkhhaoicaaOpenC
import Derived.Deep.CutBlock
namespace Go.Proofs.Ytlfhjlkhhaoicaa
set_option linter.unusedVariables false
set_option linter.unusedSimpArgs false
open Go.RowKit
attribute [local go_sem] ck_get ck_get? q_le0 q_le1 q_le2 q_le3 q_le4 q_le5 q_lt1 q_lt2 q_lt3 q_lt4 q_lt5
attribute [local go_sem high] eqCk eqMk eqEv

theorem keepE {w w' : World} {g : Nat} {cs : List Value} {t : TypeId} (hx : blk w g cs t) (h : Below w.heap.size w w') : (∀ o, w'.cell? ⟨g, o, none⟩ = cs[o]?) ∧ Below w.heap.size w w' := ⟨(hx.below h hx.lt).cell, h⟩
set_option maxRecDepth 100000 in
set_option maxHeartbeats 4000000 in
theorem inboxLoses_any (A : Option Addr) (ca : Nat) (l : List Ch) (A1 : Option Addr) (ca1 : Nat) (L : List Nat) (w : World) (hl : chK.row w A l) (hc : l.length ≤ ca) (hm : ca ≤ maxLen) (hwf : ∀ c ∈ l, c.wf)
    (hl1 : byK.row w A1 L) (hc1 : L.length ≤ ca1) (hm1 : ca1 ≤ maxLen) (hby : ∀ y ∈ L, y ≤ 255) :
    Calls Try.prog 6 #[.slice A l.length ca, .slice A1 L.length ca1] w fun e w' => e = .returned (.bool true) ∧ Below w.heap.size w w' := by
  have H40 := Lib.hid (show min l.length 40 = (l.take 40).length by rw [List.length_take]; omega)
  have HL40 := Lib.hid (show (l.take 40).length ≤ 40 by rw [List.length_take]; omega)
  have HWF := Lib.hid (fun c (h : c ∈ l.take 40) => hwf c ((List.take_sublist _ _).subset h))
  have HBY := Lib.hid hby
  have hl4 := hl.take 40
  clear hwf hl hby
  generalize l.take 40 = L4 at *
  have hm1' : L.length ≤ 9223372036854775807 := by unfold maxLen at hm1; omega
  generalize hn1 : L.length = n1 at *
  have HN1 := Lib.hid hn1
  clear hn1
  go_enter Try.func6, Try.ntmps6
  go_wp2_with fail
  refine (shown13_any _).mono ?_
  rintro e w1 ⟨rfl, hb1⟩
  have hl4' := hl4.below hb1 (Nat.le_refl _)
  go_wp2_with fail
  refine (short13_any A l.length ca _ hc hm).mono ?_
  rintro e w1' ⟨rfl, rfl⟩
  rw [H40.out]
  go_wp2_with fail
  refine (make_any A ca L4 _ hl4' HL40.out HWF.out).mono ?_
  rintro e w2 ⟨v, p, rfl, hP, hp40, ho, hb2⟩
  obtain ⟨A2, c2, rfl, hr2, hcc, hA2⟩ := ho.form
  have hB2 := hb1.trans (hb2.mono hb1.size)
  have HP := Lib.hid hP
  clear hP hl4' hl4 hb1 hb2 ho hA2
  go_wp2_with fail
  refine (new_st 40 Ck.zero _).mono ?_
  rintro e w3 ⟨bx, rfl, hbx, hIx, hb3⟩
  go_wp2_with fail
  refine (new_st 40 Ck.zero _).mono ?_
  rintro e w4 ⟨by', rfl, hby', hIy, hb4⟩
  have hxy : by' ≠ bx := by have := hIx.lt; omega
  have hIx4 := hIx.below hb4
  have hB4 := (hB2.trans (hb3.mono hB2.size)).trans (hb4.mono (by have := hB2.size; have := hb3.size; omega))
  have hr4 := (hr2.below hb3 (Nat.le_refl _)).below hb4 (Nat.le_refl _)
  have hl14 := hl1.below hB4 (Nat.le_refl _)
  have hs2 := hB2.size
  have hs3 := hb3.size
  have hs34 := hb4.size
  have hB24 := hb3.trans (hb4.mono hb3.size)
  clear hIx hb3 hb4 hr2 hB2
  generalize hnn : p.length = n at *
  have HN := Lib.hid hnn
  clear hnn
  have ho0 : evK.own 31 (w4.alloc (Obj.cells #[] 31)) w4.heap.size (.slice (some ⟨w4.heap.size, 0, none⟩) 0 0) [] := World.ownsRow_lit w4 #[] 0 (Nat.le_refl _) (by decide) rfl
  have hBs := (Below.refl w4.heap.size w4).alloc (Nat.le_refl _) (Obj.cells #[] 31)
  go_upto_block 0 with fail
  go_cut [9, 10] (fun s9 s10 wx => ∃ S : List Ev, evK.own 31 wx w4.heap.size s9 S ∧ Hid (∀ e ∈ S, e ∈ p) ∧ S.length ≤ 30 ∧ Below w4.heap.size w4 wx)
  case first =>
    go_wp2_with fail
    go_loopw [9, 10] (fun v9 v10 wr => ∃ (i : Nat) (S : List Ev), i ≤ n1 ∧ i ≤ 30 ∧ v10 = .int .i64 i ∧ evK.own 31 wr w4.heap.size v9 S ∧ Hid (∀ e ∈ S, e ∈ p) ∧ S.length ≤ i ∧ Below w4.heap.size w4 wr) (fun _ v10 _ => n1 - (intOf v10).toNat)
    case atStart => exact ⟨0, [], by omega, by omega, rfl, ho0, fun e he => by simp at he, by simp, hBs⟩
    case round =>
      clear ho0 hBs
      obtain ⟨i, S, hi1, hi30, rfl, ho, hS, hSl, hB⟩ := hrel
      by_cases h1 : i < n1
      · by_cases h2 : i < 30
        · by_cases h3 : 0 < n
          · obtain ⟨y, hy⟩ : ∃ y, L[i]? = some y := ⟨_, List.getElem?_eq_getElem (by rw [HN1.out]; exact h1)⟩
            obtain ⟨b1, o1, rfl, hbl1, hat1⟩ := hl14.get hy
            have cy := byAt_get (hat1.below hB hbl1) hy
            have hy255 := HBY.out y (List.mem_of_getElem? hy)
            obtain ⟨k, hk, hkl⟩ : ∃ k, y % n = k ∧ k < n := ⟨_, rfl, Nat.mod_lt _ h3⟩
            have hmod : ((y : Int) % (n : Int)) = (k : Int) := by rw [← hk]; exact (Int.natCast_emod y n).symm
            have hmodt : ((y : Int).tmod (n : Int)) = (k : Int) := by rw [Int.tmod_eq_emod_of_nonneg (by omega)]; exact hmod
            obtain ⟨x, hx⟩ : ∃ x, p[k]? = some x := ⟨_, List.getElem?_eq_getElem (by rw [HN.out]; exact hkl)⟩
            obtain ⟨b, off, rfl, hb, hat⟩ := hr4.get hx
            obtain ⟨c0, c1, c2', c3, c4, c5, c6, c7, c8, c9, c10, c11⟩ := evAt_get (hat.below hB hb) hx
            have HXM := Lib.hid (List.mem_of_getElem? hx)
            have hne : (n : Int) ≠ 0 := by omega
            have hne2 : ((n : Int) == 0) = false := by simpa using hne
            have hcv : IntKind.i64.wrap (y : Int) = (y : Int) := IntWalk.i64_in _ (by omega)
            have HLN := Lib.hid (show S.length + 1 ≤ 1000000 by omega)
            have ho2 := ho.alloc (Obj.cells #[.int .i64 x.r, .int .i64 x.n, .int .i64 x.c.x0, .int .i64 x.c.x1, .int .i64 x.c.x2, .int .i64 x.c.x3, .int .i64 x.c.x4, .int .i64 x.h, .int .i64 x.k, .string x.key, .int .i64 x.lab, .string x.val] 31)
            have hsz := hB.size
            have hbs : w4.heap.size ≤ (wr.alloc (Obj.cells #[.int .i64 x.r, .int .i64 x.n, .int .i64 x.c.x0, .int .i64 x.c.x1, .int .i64 x.c.x2, .int .i64 x.c.x3, .int .i64 x.c.x4, .int .i64 x.h, .int .i64 x.k, .string x.key, .int .i64 x.lab, .string x.val] 31)).heap.size := by simp; omega
            clear hk hx hy
            go_wp2_with (first | (at_builtin; refine wpL_app1 evK _ rfl _ _ _ rfl w4.heap.size 31 112 _ Try.underlying24 infoEv rfl u9 S rfl ho2 wr.heap.size x rfl (blk_new wr [.int .i64 x.r, .int .i64 x.n, .int .i64 x.c.x0, .int .i64 x.c.x1, .int .i64 x.c.x2, .int .i64 x.c.x3, .int .i64 x.c.x4, .int .i64 x.h, .int .i64 x.k, .string x.key, .int .i64 x.lab, .string x.val] 31) HLN.out (by decide) hbs ?_; intro v9 w5 ho5 hg5))
            go_roundw
            case measure => simp [intOf]; omega
            case rel => exact ⟨i + 1, S ++ [x], by omega, by omega, by go_num, ho5, fun e he => by rcases List.mem_append.1 he with he | he; exact hS.out e he; simp at he; subst he; exact HXM.out, by simp; omega, (hB.alloc hsz _).grown hg5 hbs ho2.base_le⟩
          · have h30 : n = 0 := by omega
            subst h30
            go_wp2_with fail
            go_meet
            exact ⟨S, ho, hS, by omega, hB⟩
        · go_wp2_with fail
          go_meet
          exact ⟨S, ho, hS, by omega, hB⟩
      · go_wp2_with fail
        go_meet
        exact ⟨S, ho, hS, by omega, hB⟩
  case rest =>
    obtain ⟨S, hoS, hS, hSl, hBL⟩ := hcut
    clear ho0 hBs hl14
    have hfix := drain_fix Ck.zero zero_wf S
    have hlen := (drain_closed Ck.zero zero_wf S).len
    generalize hdr : drain Ck.zero S = dr at *
    obtain ⟨a, bl, nn⟩ := dr
    simp only at hfix hlen
    have HDR := Lib.hid (drain_eq hdr)
    have HFIX := Lib.hid (drain_eq hfix)
    have HSM := Lib.hid (show sameB a a = true from decide_eq_true rfl)
    have HSB := Lib.hid (show sameB bl bl = true from decide_eq_true rfl)
    clear hfix hdr
    have hIxc := hIx4.below hBL
    have hIyc := hIy.below hBL
    have hBc := hB4.trans (hBL.mono hB4.size)
    obtain ⟨A9, c9, rfl, hr9, _⟩ := hoS.form
    have hsc := hBc.size
    have hlx : w.heap.size ≤ bx := by omega
    have hly : w.heap.size ≤ by' := by omega
    have hs4 := hB24.size
    have hsL := hBL.size
    clear hIx4 hIy hBL hB4 hr4
    go_wp2_with fail
    refine (take_st bx w2.heap.size 40 Ck.zero [] A9 c9 S _ hIxc hr9 (by simp) (by omega) (by omega) (by omega) (by omega)).mono ?_
    rw [List.nil_append, HDR.out.1, HDR.out.2.1, HDR.out.2.2]
    rintro e w5 (⟨hg, _⟩ | ⟨_, v, rfl, hoa, hIx5, hg5⟩)
    · omega
    have hIy5 := hIyc.other hIxc hxy hg5
    have hoS5 := own_inb hoS hIxc hg5 (by decide)
    have hB5 := hBc.trans (gb_below hg5 hlx hsc)
    have hs5 := hg5.size
    clear hg5 hIxc hIyc hoS hr9 hBc
    have hr5 := hoS5.row
    go_wp2_with fail
    refine (take_st by' w3.heap.size 40 Ck.zero [] A9 c9 S _ hIy5 hr5 (by simp) (by omega) (by omega) (by omega) (by omega)).mono ?_
    rw [List.nil_append, HDR.out.1, HDR.out.2.1, HDR.out.2.2]
    rintro e w6 (⟨hg, _⟩ | ⟨_, v', rfl, hoa', hIy6, hg6⟩)
    · omega
    have hIx6 := hIx5.other hIy5 (Ne.symm hxy) hg6
    have hoS6 := own_inb hoS5 hIy5 hg6 (by decide)
    have hoa6 := own_inb hoa hIy5 hg6 (by decide)
    have hB6 := hB5.trans (gb_below hg6 hly (by have := hB5.size; omega))
    have hs6 := hg6.size
    obtain ⟨A11, c11, rfl, _, _⟩ := hoa6.form
    obtain ⟨A13, c13, rfl, _, _⟩ := hoa'.form
    clear hg6 hIx5 hIy5 hoS5 hoa hB5 hr5
    go_wp2_with fail
    refine (clock_st bx _ 40 nn bl _ hIx6).mono ?_
    rintro e w7 ⟨rfl, hb7⟩
    have hIx7 := (hIx6.below hb7).alloc (Obj.cells #[.int .i64 nn.x0, .int .i64 nn.x1, .int .i64 nn.x2, .int .i64 nn.x3, .int .i64 nn.x4] 23)
    have hIy7 := (hIy6.below hb7).alloc (Obj.cells #[.int .i64 nn.x0, .int .i64 nn.x1, .int .i64 nn.x2, .int .i64 nn.x3, .int .i64 nn.x4] 23)
    have hoS7 := (hoS6.below hb7 (Nat.le_refl _)).alloc (Obj.cells #[.int .i64 nn.x0, .int .i64 nn.x1, .int .i64 nn.x2, .int .i64 nn.x3, .int .i64 nn.x4] 23)
    have hoa7 := (hoa6.below hb7 (Nat.le_refl _)).alloc (Obj.cells #[.int .i64 nn.x0, .int .i64 nn.x1, .int .i64 nn.x2, .int .i64 nn.x3, .int .i64 nn.x4] 23)
    have hoa7' := (hoa'.below hb7 (Nat.le_refl _)).alloc (Obj.cells #[.int .i64 nn.x0, .int .i64 nn.x1, .int .i64 nn.x2, .int .i64 nn.x3, .int .i64 nn.x4] 23)
    have hz7 := blk_new w7 [Value.int .i64 nn.x0, Value.int .i64 nn.x1, Value.int .i64 nn.x2, Value.int .i64 nn.x3, Value.int .i64 nn.x4] 23
    have hgx : w7.heap.size ≠ bx := by have := (hIx6.below hb7).lt; omega
    have hB7 := (hB6.trans (hb7.mono hB6.size)).alloc (by have := hB6.size; have := hb7.size; omega) (Obj.cells #[.int .i64 nn.x0, .int .i64 nn.x1, .int .i64 nn.x2, .int .i64 nn.x3, .int .i64 nn.x4] 23)
    clear hb7 hIx6 hIy6 hoS6 hoa6 hoa' hB6
    go_wp2_with fail
    refine (lose_st hIx7).mono ?_
    rintro e w8 ⟨⟨r, rfl⟩, hIx8, hg8⟩
    have hIy8 := hIy7.other hIx7 hxy hg8
    have hoS8 := own_inb hoS7 hIx7 hg8 (by decide)
    have hoa8 := own_inb hoa7 hIx7 hg8 (by decide)
    have hoa8' := own_inb hoa7' hIx7 hg8 (by decide)
    have hz8 := blk_inb hz7 hgx hg8
    have hB8 := hB7.trans (gb_below hg8 hlx (by have := hB7.size; omega))
    clear hg8 hIx7 hIy7 hoS7 hoa7 hoa7' hz7 hB7
    have hra := hoa8.row
    have hra' := hoa8'.row
    go_wp2
    first | (go_region_held3 (fun w' => (∀ o, w'.cell? ⟨w7.heap.size, o, none⟩ = ([Value.int .i64 nn.x0, Value.int .i64 nn.x1, Value.int .i64 nn.x2, Value.int .i64 nn.x3, Value.int .i64 nn.x4] : List Value)[o]?) ∧ Below w8.heap.size w8 w')
      (first | with_reducible exact keepE hz8 hB11 | with_reducible exact keepE hz8 hB10 | with_reducible exact keepE hz8 hB9 | with_reducible exact keepE hz8 (Below.refl _ _).drew)
      (first
        | (go_at_call 32; refine (clock_st bx _ 40 nn [] _ hIx8.drew).mono ?_; rintro e9 w9 ⟨rfl, hb9⟩; have hB9 : Below w8.heap.size w8 w9 := (Below.refl _ _).drew.trans hb9)
        | (go_at_call 31; refine (held_st bx _ 40 nn [] _ (hIx8.below hB9) (by simp)).mono ?_; rintro e10 w10 ⟨v10, rfl, ho10, hb10⟩; obtain ⟨A10, c10, rfl, _, _⟩ := ho10.form; have hB10 : Below w8.heap.size w8 w10 := hB9.trans (hb10.mono hB9.size))
        | (go_at_call 20; refine (same_any A11 A13 c11 c13 a a _ (hra.below hB10 (Nat.le_refl _)) (hra'.below hB10 (Nat.le_refl _)) (by unfold maxLen; omega)).mono ?_; rintro e11 w11 ⟨rfl, hb11⟩; rw [HSM.out]; have hB11 : Below w8.heap.size w8 w11 := hB10.trans (hb11.mono hB10.size)))) | fail
    have hIx11 := hIx8.below hB11
    have hIy11 := hIy8.below hB11
    have hoS11 := hoS8.below hB11 (Nat.le_refl _)
    have hB11W := hB8.trans (hB11.mono hB8.size)
    have hr11 := hoS11.row
    clear hIx8 hIy8 hoS8 hoa8 hoa8' hz8 hB8 hra hra' hB9 hB10 hB11 hb9 hb10 hb11 ho10
    go_wp2_with fail
    refine (take_st bx w2.heap.size 40 nn [] A9 c9 S _ hIx11 hr11 (by simp) (by omega) (by omega) (by omega) (by have := hB11W.size; have := hIx11.lt; omega)).mono ?_
    rw [List.nil_append, HFIX.out.1, HFIX.out.2.1, HFIX.out.2.2]
    rintro e w12 (⟨hg, _⟩ | ⟨_, v12, rfl, ho12, hIx12, hg12⟩)
    · omega
    have hIy12 := hIy11.other hIx11 hxy hg12
    have hB12 := hB11W.trans (gb_below hg12 hlx hB11W.size)
    obtain ⟨A12, c12, rfl, _, _⟩ := ho12.form
    clear hg12 hIx11 hIy11 hoS11 hB11W hr11 ho12
    go_wp2_with fail
    refine (held_st bx _ 40 nn bl _ hIx12 (by omega)).mono ?_
    rintro e w13 ⟨v13, rfl, ho13, hb13⟩
    obtain ⟨A14, c14, rfl, _, _⟩ := ho13.form
    have hIx13 := hIx12.below hb13
    have hIy13 := hIy12.below hb13
    have hB13 := hB12.trans (hb13.mono hB12.size)
    clear hIx12 hIy12 hB12 hb13
    go_wp2_with fail
    refine (held_st by' _ 40 nn bl _ hIy13 (by omega)).mono ?_
    rintro e w14 ⟨v14, rfl, ho14, hb14⟩
    obtain ⟨A15, c15, rfl, _, _⟩ := ho14.form
    have hIx14 := hIx13.below hb14
    have hIy14 := hIy13.below hb14
    have hB14 := hB13.trans (hb14.mono hB13.size)
    have hr13 := (ho13.below hb14 (Nat.le_refl _)).row
    have hr14 := ho14.row
    clear hIx13 hIy13 hB13 hb14 ho13 ho14
    go_wp2_with fail
    refine (same_any A14 A15 c14 c15 bl bl _ hr13 hr14 (by unfold maxLen; omega)).mono ?_
    rintro e w15 ⟨rfl, hb15⟩
    rw [HSB.out]
    have hIx15 := hIx14.below hb15
    have hIy15 := hIy14.below hb15
    have hB15 := hB14.trans (hb15.mono hB14.size)
    clear hIx14 hIy14 hB14 hb15 hr13 hr14
    go_wp2_with fail
    refine (clock_st bx _ 40 nn bl _ hIx15).mono ?_
    rintro e w16 ⟨rfl, hb16⟩
    have hIy16 := hIy15.below hb16
    have hB16 := hB15.trans (hb16.mono hB15.size)
    go_wp2_with fail
    refine (clock_st by' _ 40 nn bl _ hIy16).mono ?_
    rintro e w17 ⟨rfl, hb17⟩
    have hB17 := hB16.trans (hb17.mono hB16.size)
    go_wp2
    go_ret
    exact ⟨rfl, hB17⟩
end Go.Proofs.Ytlfhjlkhhaoicaa
