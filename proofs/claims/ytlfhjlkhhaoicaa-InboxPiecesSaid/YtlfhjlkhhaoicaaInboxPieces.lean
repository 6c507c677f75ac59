/- The walk of kithlaw13.InboxPieces. -/
import Derived.Test.YtlfhjlkhhaoicaaPiecesW
import Derived.Deep.CutBlock
import Derived.Deep.CutRange
namespace Go.Proofs.Ytlfhjlkhhaoicaa
set_option linter.unusedVariables false
set_option linter.unusedSimpArgs false
open Go.RowKit
attribute [local go_sem] ck_get ck_get? q_le0 q_le1 q_le2 q_le3 q_le4 q_le5 q_lt1 q_lt2 q_lt3 q_lt4 q_lt5
attribute [local go_sem high] eqCk eqMk eqEv

def AnyW (w : World) : Prop := 0 ≤ w.heap.size
theorem anyW (w : World) : AnyW w := Nat.zero_le _
set_option maxRecDepth 100000 in
set_option maxHeartbeats 8000000 in
theorem inboxPieces_any (A : Option Addr) (ca : Nat) (l : List Ch) (A1 : Option Addr) (ca1 : Nat) (L : List Nat) (n0 nm : Nat) (w : World) (hl : chK.row w A l) (hc : l.length ≤ ca) (hm : ca ≤ maxLen) (hwf : ∀ c ∈ l, c.wf)
    (hl1 : byK.row w A1 L) (hc1 : L.length ≤ ca1) (hm1 : ca1 ≤ maxLen) (hby : ∀ y ∈ L, y ≤ 255) (hn0 : n0 ≤ 255) (hnm : nm ≤ 255) :
    Calls Try.prog 14 #[.slice A l.length ca, .slice A1 L.length ca1, .agg #[.int .u8 n0, .int .u8 nm]] w fun e w' => e = .returned (.bool true) ∧ Below w.heap.size w w' := by
  have H40 := Lib.hid (show min l.length 40 = (l.take 40).length by rw [List.length_take]; omega)
  have HL40 := Lib.hid (show (l.take 40).length ≤ 40 by rw [List.length_take]; omega)
  have HWF := Lib.hid (fun c (h : c ∈ l.take 40) => hwf c ((List.take_sublist _ _).subset h))
  have HBY := Lib.hid hby
  have hl4 := hl.take 40
  clear hwf hl hby
  generalize l.take 40 = L4 at *
  have hm1' : L.length ≤ 9223372036854775807 := by unfold maxLen at hm1; omega
  generalize hn1 : L.length = n1 at *
  have HN1 := Lib.hid hn1
  clear hn1
  obtain ⟨m, hmm, hm16⟩ : ∃ m, nm % 16 = m ∧ m < 16 := ⟨_, rfl, Nat.mod_lt _ (by omega)⟩
  have hmod : ((nm : Int) % 16) = (m : Int) := by omega
  have hmodt : ((nm : Int).tmod 16) = (m : Int) := by rw [Int.tmod_eq_emod_of_nonneg (by omega)]; exact hmod
  obtain ⟨kk, hkk, hkk7⟩ : ∃ kk, n0 % 7 = kk ∧ kk < 7 := ⟨_, rfl, Nat.mod_lt _ (by omega)⟩
  have hkod : ((n0 : Int) % 7) = (kk : Int) := by omega
  have hkodt : ((n0 : Int).tmod 7) = (kk : Int) := by rw [Int.tmod_eq_emod_of_nonneg (by omega)]; exact hkod
  have hB0 := (Below.refl w.heap.size w).alloc (Nat.le_refl _) (Obj.cells #[.int .u8 n0, .int .u8 nm] 64)
  have hbx0 := blk_new w [.int .u8 n0, .int .u8 nm] 64
  obtain ⟨K, hK1, hK7⟩ : ∃ K : Nat, (1 + (kk : Int)) = (K : Int) ∧ K ≤ 7 := ⟨1 + kk, by push_cast; rfl, by omega⟩
  clear hmm hkk
  go_enter Try.func14, Try.ntmps14
  go_wp2_with fail
  refine (shown13_any _).mono ?_
  rintro e w1 ⟨rfl, hb1⟩
  have hB1 := hB0.trans (hb1.mono hB0.size)
  have hbx1 := hbx0.below hb1 hbx0.lt
  have hl4' := hl4.below hB1 (Nat.le_refl _)
  go_wp2_with fail
  refine (short13_any A l.length ca _ hc hm).mono ?_
  rintro e w1' ⟨rfl, rfl⟩
  rw [H40.out]
  go_wp2_with fail
  refine (make_any A ca L4 _ hl4' HL40.out HWF.out).mono ?_
  rintro e w2 ⟨v, p, rfl, hP, hp40, hop, hb2⟩
  obtain ⟨A2, c2, rfl, _, hcc, _⟩ := hop.form
  have hB2 := hB1.trans (hb2.mono hB1.size)
  have hbx2 := hbx1.below hb2 hbx1.lt
  have cbx := hbx2.cell
  have HP := Lib.hid hP
  clear hP hl4' hl4 hb1 hb2 hB1 hbx0 hbx1 hB0
  generalize hnn : p.length = n at *
  have HN := Lib.hid hnn
  clear hnn
  go_wp2_with fail
  refine (new_st m Ck.zero _).mono ?_
  rintro e w4 ⟨bx, rfl, hbx, hIx, hb4⟩
  obtain ⟨vl4, hIb, hIo⟩ := hIx
  have hB4 := hB2.trans (hb4.mono hB2.size)
  have hop4 := hop.below hb4 (Nat.le_refl _)
  have HPN := Lib.hid (hop4.ne_blk hIb (by decide))
  have hlx : w.heap.size ≤ bx := by have := hB2.size; omega
  have hbx4 := hbx2.below hb4 hbx2.lt
  have cbx4 := hbx4.cell
  have ltbx := hbx4.lt
  have hs2 := hB2.size
  have hs4 := hb4.size
  have hltx := hIb.lt
  clear hb4 hB2 hbx2 cbx hop
  have ho0 : evK.own 31 (w4.alloc (Obj.cells #[] 31)) w4.heap.size (.slice (some ⟨w4.heap.size, 0, none⟩) 0 0) [] := World.ownsRow_lit w4 #[] 0 (Nat.le_refl _) (by decide) rfl
  have hBs := (Below.refl w4.heap.size w4).alloc (Nat.le_refl _) (Obj.cells #[] 31)
  have hst0 : ∃ log left c vl, PcSt w4 p bx w2.heap.size m (.slice (some ⟨w4.heap.size, 0, none⟩) 0 0) (w4.alloc (Obj.cells #[] 31)) log left c vl := by
    refine ⟨[], [], Ck.zero, vl4, ho0, ⟨hIb.below hBs hIb.lt, hIo.below hBs (Nat.le_refl _)⟩, Got.start p, by simp, gb_of hBs bx, ?_⟩
    cases hv : vl4.ownBlock with
    | none => exact .inl hv
    | some k =>
      right
      rw [hv]
      have := hIo.lt_size k hv
      simp [Value.ownBlock]
      omega
  clear hIb hIo ho0 hBs
  go_upto_block 0 with fail
  go_cut [11, 13, 14, 15, 16, 17, 18, 19, 20] (fun s11 s13 s14 s15 s16 s17 s18 s19 s20 wx => ∃ log left c vl, PcSt w4 p bx w2.heap.size m s11 wx log left c vl)
  case first =>
    go_wp2_with fail
    go_loopw [11, 13] (fun v11 v13 wr => ∃ (i : Nat) (log left : List Ev) (c : Ck) (vl : Value), i ≤ n1 ∧ i ≤ 60 ∧ v13 = .int .i64 i ∧ PcSt w4 p bx w2.heap.size m v11 wr log left c vl) (fun _ v13 _ => n1 - (intOf v13).toNat)
    case atStart =>
      obtain ⟨log, left, c, vl, hst⟩ := hst0
      exact ⟨0, log, left, c, vl, by omega, by omega, rfl, hst⟩
    case round =>
      clear hst0
      obtain ⟨i, log, left, c, vl, hi1, hi60, rfl, hst⟩ := hrel
      by_cases h1 : i < n1
      · by_cases h2 : i < 60
        · by_cases h3 : 0 < n
          · obtain ⟨y, hy⟩ : ∃ y, L[i]? = some y := ⟨_, List.getElem?_eq_getElem (by rw [HN1.out]; exact h1)⟩
            obtain ⟨b1, o1, rfl, hbl1, hat1⟩ := hl1.get hy
            have hBr := hB4.trans (gb_below hst.gb hlx hB4.size)
            have hopr := (hop4.kept hst.gb (.inl (Ne.symm HPN.out))).row
            have HST := Lib.hid hst
            have HY := Lib.hid hy
            have hy255 := HBY.out y (List.mem_of_getElem? hy)
            clear hy hst
            go_wp2_with fail
            obtain ⟨W0, rfl⟩ : ∃ W0 : World, W0 = wr := ⟨_, rfl⟩
            go_loopw [14, 15] (fun v14 v15 wX => ∃ (j : Nat) (S : List Ev), j ≤ K ∧ v15 = .int .i64 j ∧ evK.own 31 wX W0.heap.size v14 S ∧ Hid (∀ e ∈ S, e ∈ p) ∧ S.length ≤ j ∧ Below W0.heap.size W0 wX) (fun _ v15 _ => K - (intOf v15).toNat)
            case atStart => exact ⟨0, [], by omega, rfl, World.ownsRow_lit W0 #[] 0 (Nat.le_refl _) (by decide) rfl, fun e he => by simp at he, by simp, (Below.refl _ _).alloc (Nat.le_refl _) _⟩
            case round =>
              obtain ⟨j, S, hj, rfl, ho, hS, hSl, hB⟩ := hrel
              by_cases hjk : j < K
              · skip
                have cy := byAt_get ((hat1.below hBr hbl1).below hB (Nat.lt_of_lt_of_le hbl1 hBr.size)) HY.out
                obtain ⟨k, hk, hkl⟩ : ∃ k, (y + 5 * j) % n = k ∧ k < n := ⟨_, rfl, Nat.mod_lt _ h3⟩
                have hmod : (((y : Int) + 5 * (j : Int)) % (n : Int)) = (k : Int) := by rw [← hk]; push_cast; rfl
                have hmodt : (((y : Int) + 5 * (j : Int)).tmod (n : Int)) = (k : Int) := by rw [Int.tmod_eq_emod_of_nonneg (by omega)]; exact hmod
                obtain ⟨x, hx⟩ : ∃ x, p[k]? = some x := ⟨_, List.getElem?_eq_getElem (by rw [HN.out]; exact hkl)⟩
                obtain ⟨b, off, rfl, hb, hat⟩ := hopr.get hx
                obtain ⟨c0, c1, c2', c3, c4, c5, c6, c7, c8, c9, c10, c11⟩ := evAt_get (hat.below hB hb) hx
                have HXM := Lib.hid (List.mem_of_getElem? hx)
                have hne : (n : Int) ≠ 0 := by omega
                have hne2 : ((n : Int) == 0) = false := by simpa using hne
                have hcv : IntKind.i64.wrap (y : Int) = (y : Int) := IntWalk.i64_in _ (by omega)
                have HLN := Lib.hid (show S.length + 1 ≤ 1000000 by omega)
                have ho2 := ho.alloc (Obj.cells #[.int .i64 x.r, .int .i64 x.n, .int .i64 x.c.x0, .int .i64 x.c.x1, .int .i64 x.c.x2, .int .i64 x.c.x3, .int .i64 x.c.x4, .int .i64 x.h, .int .i64 x.k, .string x.key, .int .i64 x.lab, .string x.val] 31)
                have hsz := hB.size
                have hbs : W0.heap.size ≤ (wr.alloc (Obj.cells #[.int .i64 x.r, .int .i64 x.n, .int .i64 x.c.x0, .int .i64 x.c.x1, .int .i64 x.c.x2, .int .i64 x.c.x3, .int .i64 x.c.x4, .int .i64 x.h, .int .i64 x.k, .string x.key, .int .i64 x.lab, .string x.val] 31)).heap.size := by simp; omega
                clear hk hx
                go_wp2_with (first | (at_builtin; refine wpL_app1 evK _ rfl _ _ _ rfl W0.heap.size 31 112 _ Try.underlying24 infoEv rfl u14 S rfl ho2 wr.heap.size x rfl (blk_new wr [.int .i64 x.r, .int .i64 x.n, .int .i64 x.c.x0, .int .i64 x.c.x1, .int .i64 x.c.x2, .int .i64 x.c.x3, .int .i64 x.c.x4, .int .i64 x.h, .int .i64 x.k, .string x.key, .int .i64 x.lab, .string x.val] 31) HLN.out (by decide) hbs ?_; intro v9 w5 ho5 hg5))
                go_roundw
                case measure => simp [intOf]; omega
                case rel => exact ⟨j + 1, S ++ [x], by omega, by go_num, ho5, fun e he => by rcases List.mem_append.1 he with he | he; exact hS.out e he; simp at he; subst he; exact HXM.out, by simp; omega, (hB.alloc hsz _).grown hg5 hbs ho2.base_le⟩
              · skip
                have hBq := hBr.trans (hB.mono hBr.size)
                have hst := HST.out.below hB
                obtain ⟨A14, c14, rfl, _, _⟩ := ho.form
                have hfl := hst.few
                clear hB HST hopr
                go_wp2_with fail
                refine (held_st bx _ m c left _ hst.inb.at (by omega)).mono ?_
                rintro e w5 ⟨v5, rfl, ho5, hb5⟩
                obtain ⟨A5, c5, rfl, hr5, _⟩ := ho5.form
                have hst5 := hst.below hb5
                have hB5 := hBq.trans (hb5.mono hBq.size)
                have hoS5 := ho.below hb5 (Nat.le_refl _)
                clear hst hBq ho hb5 hr5
                go_wp2_with fail
                refine (clock_st bx _ m c left _ hst5.inb.at).mono ?_
                rintro e w6 ⟨rfl, hb6⟩
                have hb6' := hb6.alloc hb6.size (Obj.cells #[.int .i64 c.x0, .int .i64 c.x1, .int .i64 c.x2, .int .i64 c.x3, .int .i64 c.x4] 23)
                have hst6 := hst5.below hb6'
                have hB6 := hB5.trans (hb6'.mono hB5.size)
                have hoS6 := (hoS5.below hb6' (Nat.le_refl _)).row
                have ho56 := ho5.below hb6' (Nat.le_refl _)
                have hz6 := blk_new w6 [Value.int .i64 c.x0, Value.int .i64 c.x1, Value.int .i64 c.x2, Value.int .i64 c.x3, Value.int .i64 c.x4] 23
                have hgx : w6.heap.size ≠ bx := by have := (hst5.inb.below hb6).blk.lt; omega
                have hs6 := hb6'.size
                clear hst5 hB5 hoS5 ho5 hb6 hb6'
                go_wp2_with fail
                refine (take_v bx w2.heap.size m c left vl A14 c14 S _ hst6.inb hoS6 (by omega) (by omega) (by omega) (by omega) (by have := hB6.size; have := hst6.inb.blk.lt; omega)).mono ?_
                rintro e w7 (⟨hgt, rfl, hi7, hb7⟩ | ⟨hgt, v7, vl7, rfl, hov7, hi7, hovl7, hg7⟩)
                · skip
                  have hst7 := hst6.below hb7
                  have hB7 := hB6.trans (hb7.mono hB6.size)
                  have ho57 := ho56.below hb7 (Nat.le_refl _)
                  have hz7 := hz6.below hb7 hz6.lt
                  clear hi7 hst6 hB6 ho56 hz6 hb7 hoS6 hgt
                  go_wp2_with fail
                  refine (held_st bx _ m c left _ hst7.inb.at (by omega)).mono ?_
                  rintro e w8 ⟨v8, rfl, ho8, hb8⟩
                  obtain ⟨A8, c8, rfl, hr8, _⟩ := ho8.form
                  have hst8 := hst7.below hb8
                  have hr58 := (ho57.below hb8 (Nat.le_refl _)).row
                  have hz8 := hz7.below hb8 hz7.lt
                  clear hst7 hB7 ho57 hz7 hb8 ho8
                  go_wp2_with fail
                  refine (same_any A5 A8 c5 c8 left left _ hr58 hr8 (by unfold maxLen; omega)).mono ?_
                  rintro e w9 ⟨rfl, hb9⟩
                  rw [show sameB left left = true from decide_eq_true rfl]
                  have hst9 := hst8.below hb9
                  have hz9 := hz8.below hb9 hz8.lt
                  clear hst8 hz8 hb9 hr58 hr8
                  have hlm : decide ((left.length : Int) > (m : Int)) = false := decide_eq_false (by omega)
                  go_wp2
                  first | (go_region_held3 (fun w' => (∀ o, w'.cell? ⟨w6.heap.size, o, none⟩ = ([Value.int .i64 c.x0, Value.int .i64 c.x1, Value.int .i64 c.x2, Value.int .i64 c.x3, Value.int .i64 c.x4] : List Value)[o]?) ∧ Below w9.heap.size w9 w')
                    (first | with_reducible exact keepE hz9 hB11 | with_reducible exact keepE hz9 hB10 | with_reducible exact keepE hz9 (Below.refl _ _).drew)
                    (first
                      | (go_at_call 32; refine (clock_st bx _ m c left _ hst9.inb.at.drew).mono ?_; rintro e10 w10 ⟨rfl, hb10⟩; have hB10 : Below w9.heap.size w9 w10 := (Below.refl _ _).drew.trans hb10)
                      | (go_at_call 31; refine (held_st bx _ m c left _ (hst9.inb.at.below hB10) (by omega)).mono ?_; rintro e11 w11 ⟨v10, rfl, ho11, hb11⟩; obtain ⟨A11, c11, rfl, _, _⟩ := ho11.form; have hB11 : Below w9.heap.size w9 w11 := hB10.trans (hb11.mono hB10.size)))) | fail
                  have hpre := (hst9.below hB11).pre
                  clear hst9 hz9 hB10 hB11 hb10 hb11 ho11
                  have HLN := Lib.hid (hpre.logLen (by rw [HN.out]; exact hp40))
                  have hbase := hpre.gb.size
                  by_cases hy2 : y > 200
                  · have hy3 : decide ((y : Int) > 200) = true := decide_eq_true (by omega)
                    go_wp2_with (first | (at_builtin; refine wpL_appr_at evK _ rfl _ _ _ rfl w4.heap.size 31 112 _ Try.underlying24 infoEv rfl u11 log rfl hpre.hlog none 0 [] rfl (.inl rfl) HLN.out (by decide) hbase ?_; intro v12 w12 ho12 hg12 hv12; have hst12 := hpre.app ho12 hg12 hv12; have cy12 := byAt_get (hat1.below (hB4.trans (gb_below hst12.gb hlx hB4.size)) hbl1) HY.out))
                    refine (lose_v hst12.inb).mono ?_
                    rintro e w13 ⟨⟨r, rfl⟩, hi13, hg13⟩
                    have hst13 := hst12.lose hi13 hg13
                    clear hpre hst12 hi13 hg13 ho12 hg12
                    go_wp2_with fail
                    go_roundw
                    case measure => simp [intOf]; omega
                    case rel => exact ⟨i + 1, _, _, _, _, by omega, by omega, by go_num, hst13⟩
                  · have hy3 : decide ((y : Int) > 200) = false := decide_eq_false (by omega)
                    go_wp2_with (first | (at_builtin; refine wpL_appr_at evK _ rfl _ _ _ rfl w4.heap.size 31 112 _ Try.underlying24 infoEv rfl u11 log rfl hpre.hlog none 0 [] rfl (.inl rfl) HLN.out (by decide) hbase ?_; intro v12 w12 ho12 hg12 hv12; have hst12 := hpre.app ho12 hg12 hv12; have cy12 := byAt_get (hat1.below (hB4.trans (gb_below hst12.gb hlx hB4.size)) hbl1) HY.out))
                    go_roundw
                    case measure => simp [intOf]; omega
                    case rel => exact ⟨i + 1, _, _, _, _, by omega, by omega, by go_num, hst12⟩
                · skip
                  have hpre7 := hst6.took HP.out hS.out hi7 hovl7 hg7 hgt
                  have hB7 := hB6.trans (gb_below hg7 hlx hB6.size)
                  have ho57 := own_inb ho56 hst6.inb.at hg7 (by decide)
                  have hz7 := blk_inb hz6 hgx hg7
                  obtain ⟨A7, c7, rfl, _, _⟩ := hov7.form
                  clear hi7 hovl7 hst6 hB6 ho56 hz6 hoS6 hgt
                  generalize (Go.Proofs.Ytlfhjlkhhaoicaa.drain c (left ++ S)).1 = d at *
                  generalize (Go.Proofs.Ytlfhjlkhhaoicaa.drain c (left ++ S)).2.1 = dl at *
                  generalize (Go.Proofs.Ytlfhjlkhhaoicaa.drain c (left ++ S)).2.2 = dn at *
                  have hfl' := hpre7.few
                  go_wp2_with fail
                  refine (held_st bx _ m dn dl _ hpre7.inb.at (by omega)).mono ?_
                  rintro e w8 ⟨v8, rfl, ho8, hb8⟩
                  obtain ⟨A8, c8, rfl, hr8, _⟩ := ho8.form
                  have hpre8 := hpre7.below hb8
                  have hod8 := hov7.below hb8 (Nat.le_refl _)
                  have hr58 := (ho57.below hb8 (Nat.le_refl _)).row
                  have hz8 := hz7.below hb8 hz7.lt
                  clear hpre7 hB7 ho57 hz7 hb8 ho8 hov7 hg7
                  go_wp2_with fail
                  refine (same_any A5 A8 c5 c8 left dl _ hr58 hr8 (by unfold maxLen; omega)).mono ?_
                  rintro e w9 ⟨rfl, hb9⟩
                  generalize sameB left dl = sm
                  have hpre9 := hpre8.below hb9
                  have hod9 := hod8.below hb9 (Nat.le_refl _)
                  have hz9 := hz8.below hb9 hz8.lt
                  clear hpre8 hz8 hb9 hr58 hr8 hod8
                  have hlm : decide ((dl.length : Int) > (m : Int)) = false := decide_eq_false (by omega)
                  go_wp2
                  refine wp_region_held_drew (S := AnyW) (by kernel_rfl) (anyW _) (fun hHeld => ?_)
                  (refine wpAnyH_take (i := 0) (oi := ?z1o) (v := ?z1v) ?z11 ?z12 ?z13 ?z14 ?z15 ?z16 ?z18 ?_; (case z11 => rfl); (case z12 => kernel_rfl); (case z13 => kernel_rfl); (case z14 => kernel_rfl); (case z15 => exact fun _ _ _ h => h); (case z16 => refine Or.inl ⟨rfl, ?_⟩; intro w hSw; (try dsimp only at hSw); go_simp; try with_reducible rfl); (case z18 => assumption); try simp only [Act.put, List.getElem_toArray, List.getElem_cons_zero, List.getElem_cons_succ, List.setIfInBounds_toArray, List.set_cons_zero, List.set_cons_succ])
                  (refine wpAnyH_take (i := 1) (oi := ?z2o) (v := ?z2v) ?z21 ?z22 ?z23 ?z24 ?z25 ?z26 ?z28 ?_; (case z21 => rfl); (case z22 => kernel_rfl); (case z23 => kernel_rfl); (case z24 => kernel_rfl); (case z25 => exact fun _ _ _ h => h); (case z26 => refine Or.inl ⟨rfl, ?_⟩; intro w hSw; (try dsimp only at hSw); go_simp; try with_reducible rfl); (case z28 => assumption); try simp only [Act.put, List.getElem_toArray, List.getElem_cons_zero, List.getElem_cons_succ, List.setIfInBounds_toArray, List.set_cons_zero, List.set_cons_succ])
                  (refine wpAnyH_take (i := 2) (oi := ?z3o) (v := ?z3v) ?z31 ?z32 ?z33 ?z34 ?z35 ?z36 ?z38 ?_; (case z31 => rfl); (case z32 => kernel_rfl); (case z33 => kernel_rfl); (case z34 => kernel_rfl); (case z35 => exact fun _ _ _ h => h); (case z36 => refine Or.inl ⟨rfl, ?_⟩; intro w hSw; (try dsimp only at hSw); go_simp; try with_reducible rfl); (case z38 => assumption); try simp only [Act.put, List.getElem_toArray, List.getElem_cons_zero, List.getElem_cons_succ, List.setIfInBounds_toArray, List.set_cons_zero, List.set_cons_succ])
                  (refine wpAnyH_take (i := 3) (oi := ?z4o) (v := undef) ?z41 ?z42 ?z43 ?z44 ?z45 ?z46 ?z48 ?_; (case z41 => rfl); (case z42 => kernel_rfl); (case z43 => kernel_rfl); (case z44 => kernel_rfl); (case z45 => exact fun _ _ _ h => h); (case z46 => exact Or.inr ⟨rfl, rfl⟩); (case z48 => assumption); try simp only [Act.put, List.getElem_toArray, List.getElem_cons_zero, List.getElem_cons_succ, List.setIfInBounds_toArray, List.set_cons_zero, List.set_cons_succ])
                  (refine wpAnyH_take (i := 4) (oi := ?z5o) (v := undef) ?z51 ?z52 ?z53 ?z54 ?z55 ?z56 ?z58 ?_; (case z51 => rfl); (case z52 => kernel_rfl); (case z53 => kernel_rfl); (case z54 => kernel_rfl); (case z55 => exact fun _ _ _ h => h); (case z56 => exact Or.inr ⟨rfl, rfl⟩); (case z58 => assumption); try simp only [Act.put, List.getElem_toArray, List.getElem_cons_zero, List.getElem_cons_succ, List.setIfInBounds_toArray, List.set_cons_zero, List.set_cons_succ])
                  (refine wpAnyH_take (i := 5) (oi := ?z6o) (v := undef) ?z61 ?z62 ?z63 ?z64 ?z65 ?z66 ?z68 ?_; (case z61 => rfl); (case z62 => kernel_rfl); (case z63 => kernel_rfl); (case z64 => kernel_rfl); (case z65 => exact fun _ _ _ h => h); (case z66 => exact Or.inr ⟨rfl, rfl⟩); (case z68 => assumption); try simp only [Act.put, List.getElem_toArray, List.getElem_cons_zero, List.getElem_cons_succ, List.setIfInBounds_toArray, List.set_cons_zero, List.set_cons_succ])
                  (refine wpAnyH_take (i := 6) (oi := ?z7o) (v := undef) ?z71 ?z72 ?z73 ?z74 ?z75 ?z76 ?z78 ?_; (case z71 => rfl); (case z72 => kernel_rfl); (case z73 => kernel_rfl); (case z74 => kernel_rfl); (case z75 => exact fun _ _ _ h => h); (case z76 => exact Or.inr ⟨rfl, rfl⟩); (case z78 => assumption); try simp only [Act.put, List.getElem_toArray, List.getElem_cons_zero, List.getElem_cons_succ, List.setIfInBounds_toArray, List.set_cons_zero, List.set_cons_succ])
                  (refine wpAnyH_take (i := 7) (oi := ?z8o) (v := undef) ?z81 ?z82 ?z83 ?z84 ?z85 ?z86 ?z88 ?_; (case z81 => rfl); (case z82 => kernel_rfl); (case z83 => kernel_rfl); (case z84 => kernel_rfl); (case z85 => exact fun _ _ _ h => h); (case z86 => exact Or.inr ⟨rfl, rfl⟩); (case z88 => assumption); try simp only [Act.put, List.getElem_toArray, List.getElem_cons_zero, List.getElem_cons_succ, List.setIfInBounds_toArray, List.set_cons_zero, List.set_cons_succ])
                  (refine wpAnyH_take (i := 8) (oi := ?z9o) (v := undef) ?z91 ?z92 ?z93 ?z94 ?z95 ?z96 ?z98 ?_; (case z91 => rfl); (case z92 => kernel_rfl); (case z93 => kernel_rfl); (case z94 => kernel_rfl); (case z95 => exact fun _ _ _ h => h); (case z96 => exact Or.inr ⟨rfl, rfl⟩); (case z98 => assumption); try simp only [Act.put, List.getElem_toArray, List.getElem_cons_zero, List.getElem_cons_succ, List.setIfInBounds_toArray, List.set_cons_zero, List.set_cons_succ])
                  (refine wpAnyH_take (i := 9) (oi := ?z10o) (v := undef) ?z101 ?z102 ?z103 ?z104 ?z105 ?z106 ?z108 ?_; (case z101 => rfl); (case z102 => kernel_rfl); (case z103 => kernel_rfl); (case z104 => kernel_rfl); (case z105 => exact fun _ _ _ h => h); (case z106 => exact Or.inr ⟨rfl, rfl⟩); (case z108 => assumption); try simp only [Act.put, List.getElem_toArray, List.getElem_cons_zero, List.getElem_cons_succ, List.setIfInBounds_toArray, List.set_cons_zero, List.set_cons_succ])
                  (refine wpAnyH_take (i := 10) (oi := ?z11o) (v := undef) ?z111 ?z112 ?z113 ?z114 ?z115 ?z116 ?z118 ?_; (case z111 => rfl); (case z112 => kernel_rfl); (case z113 => kernel_rfl); (case z114 => kernel_rfl); (case z115 => exact fun _ _ _ h => h); (case z116 => exact Or.inr ⟨rfl, rfl⟩); (case z118 => assumption); try simp only [Act.put, List.getElem_toArray, List.getElem_cons_zero, List.getElem_cons_succ, List.setIfInBounds_toArray, List.set_cons_zero, List.set_cons_succ])
                  (refine wpAnyH_take (i := 11) (oi := ?z12o) (v := undef) ?z121 ?z122 ?z123 ?z124 ?z125 ?z126 ?z128 ?_; (case z121 => rfl); (case z122 => kernel_rfl); (case z123 => kernel_rfl); (case z124 => kernel_rfl); (case z125 => exact fun _ _ _ h => h); (case z126 => exact Or.inr ⟨rfl, rfl⟩); (case z128 => assumption); try simp only [Act.put, List.getElem_toArray, List.getElem_cons_zero, List.getElem_cons_succ, List.setIfInBounds_toArray, List.set_cons_zero, List.set_cons_succ])
                  (refine wpAnyH_take (i := 12) (oi := ?z13o) (v := undef) ?z131 ?z132 ?z133 ?z134 ?z135 ?z136 ?z138 ?_; (case z131 => rfl); (case z132 => kernel_rfl); (case z133 => kernel_rfl); (case z134 => kernel_rfl); (case z135 => exact fun _ _ _ h => h); (case z136 => exact Or.inr ⟨rfl, rfl⟩); (case z138 => assumption); try simp only [Act.put, List.getElem_toArray, List.getElem_cons_zero, List.getElem_cons_succ, List.setIfInBounds_toArray, List.set_cons_zero, List.set_cons_succ])
                  (refine wpAnyH_take (i := 13) (oi := ?z14o) (v := undef) ?z141 ?z142 ?z143 ?z144 ?z145 ?z146 ?z148 ?_; (case z141 => rfl); (case z142 => kernel_rfl); (case z143 => kernel_rfl); (case z144 => kernel_rfl); (case z145 => exact fun _ _ _ h => h); (case z146 => exact Or.inr ⟨rfl, rfl⟩); (case z148 => assumption); try simp only [Act.put, List.getElem_toArray, List.getElem_cons_zero, List.getElem_cons_succ, List.setIfInBounds_toArray, List.set_cons_zero, List.set_cons_succ])
                  (refine wpAnyH_take (i := 14) (oi := ?z15o) (v := undef) ?z151 ?z152 ?z153 ?z154 ?z155 ?z156 ?z158 ?_; (case z151 => rfl); (case z152 => kernel_rfl); (case z153 => kernel_rfl); (case z154 => kernel_rfl); (case z155 => exact fun _ _ _ h => h); (case z156 => exact Or.inr ⟨rfl, rfl⟩); (case z158 => assumption); try simp only [Act.put, List.getElem_toArray, List.getElem_cons_zero, List.getElem_cons_succ, List.setIfInBounds_toArray, List.set_cons_zero, List.set_cons_succ])
                  (refine wpAnyH_take (i := 15) (oi := ?z16o) (v := undef) ?z161 ?z162 ?z163 ?z164 ?z165 ?z166 ?z168 ?_; (case z161 => rfl); (case z162 => kernel_rfl); (case z163 => kernel_rfl); (case z164 => kernel_rfl); (case z165 => exact fun _ _ _ h => h); (case z166 => exact Or.inr ⟨rfl, rfl⟩); (case z168 => assumption); try simp only [Act.put, List.getElem_toArray, List.getElem_cons_zero, List.getElem_cons_succ, List.setIfInBounds_toArray, List.set_cons_zero, List.set_cons_succ])
                  (refine wpAnyH_take (i := 16) (oi := ?z17o) (v := undef) ?z171 ?z172 ?z173 ?z174 ?z175 ?z176 ?z178 ?_; (case z171 => rfl); (case z172 => kernel_rfl); (case z173 => kernel_rfl); (case z174 => kernel_rfl); (case z175 => exact fun _ _ _ h => h); (case z176 => exact Or.inr ⟨rfl, rfl⟩); (case z178 => assumption); try simp only [Act.put, List.getElem_toArray, List.getElem_cons_zero, List.getElem_cons_succ, List.setIfInBounds_toArray, List.set_cons_zero, List.set_cons_succ])
                  (refine wpAnyH_take (i := 17) (oi := ?z18o) (v := undef) ?z181 ?z182 ?z183 ?z184 ?z185 ?z186 ?z188 ?_; (case z181 => rfl); (case z182 => kernel_rfl); (case z183 => kernel_rfl); (case z184 => kernel_rfl); (case z185 => exact fun _ _ _ h => h); (case z186 => exact Or.inr ⟨rfl, rfl⟩); (case z188 => assumption); try simp only [Act.put, List.getElem_toArray, List.getElem_cons_zero, List.getElem_cons_succ, List.setIfInBounds_toArray, List.set_cons_zero, List.set_cons_succ])
                  (refine wpAnyH_take (i := 18) (oi := ?z19o) (v := undef) ?z191 ?z192 ?z193 ?z194 ?z195 ?z196 ?z198 ?_; (case z191 => rfl); (case z192 => kernel_rfl); (case z193 => kernel_rfl); (case z194 => kernel_rfl); (case z195 => exact fun _ _ _ h => h); (case z196 => exact Or.inr ⟨rfl, rfl⟩); (case z198 => assumption); try simp only [Act.put, List.getElem_toArray, List.getElem_cons_zero, List.getElem_cons_succ, List.setIfInBounds_toArray, List.set_cons_zero, List.set_cons_succ])
                  (refine wpAnyH_take (i := 19) (oi := ?z20o) (v := undef) ?z201 ?z202 ?z203 ?z204 ?z205 ?z206 ?z208 ?_; (case z201 => rfl); (case z202 => kernel_rfl); (case z203 => kernel_rfl); (case z204 => kernel_rfl); (case z205 => exact fun _ _ _ h => h); (case z206 => exact Or.inr ⟨rfl, rfl⟩); (case z208 => assumption); try simp only [Act.put, List.getElem_toArray, List.getElem_cons_zero, List.getElem_cons_succ, List.setIfInBounds_toArray, List.set_cons_zero, List.set_cons_succ])
                  (refine wpAnyH_take (i := 20) (oi := ?z21o) (v := ?z21v) ?z211 ?z212 ?z213 ?z214 ?z215 ?z216 ?z218 ?_; (case z211 => rfl); (case z212 => kernel_rfl); (case z213 => kernel_rfl); (case z214 => kernel_rfl); (case z215 => exact fun _ _ _ h => h); (case z216 => refine Or.inl ⟨rfl, ?_⟩; intro w hSw; (try dsimp only at hSw); go_simp; try with_reducible rfl); (case z218 => assumption); try simp only [Act.put, List.getElem_toArray, List.getElem_cons_zero, List.getElem_cons_succ, List.setIfInBounds_toArray, List.set_cons_zero, List.set_cons_succ])
                  (refine wpAnyH_take (i := 21) (oi := ?z22o) (v := ?z22v) ?z221 ?z222 ?z223 ?z224 ?z225 ?z226 ?z228 ?_; (case z221 => rfl); (case z222 => kernel_rfl); (case z223 => kernel_rfl); (case z224 => kernel_rfl); (case z225 => exact fun _ _ _ h => h); (case z226 => refine Or.inl ⟨rfl, ?_⟩; intro w hSw; (try dsimp only at hSw); go_simp; try with_reducible rfl); (case z228 => assumption); try simp only [Act.put, List.getElem_toArray, List.getElem_cons_zero, List.getElem_cons_succ, List.setIfInBounds_toArray, List.set_cons_zero, List.set_cons_succ])
                  (refine wpAnyH_take (i := 22) (oi := ?z23o) (v := ?z23v) ?z231 ?z232 ?z233 ?z234 ?z235 ?z236 ?z238 ?_; (case z231 => rfl); (case z232 => kernel_rfl); (case z233 => kernel_rfl); (case z234 => kernel_rfl); (case z235 => exact fun _ _ _ h => h); (case z236 => refine Or.inl ⟨rfl, ?_⟩; intro w hSw; (try dsimp only at hSw); go_simp; try with_reducible rfl); (case z238 => assumption); try simp only [Act.put, List.getElem_toArray, List.getElem_cons_zero, List.getElem_cons_succ, List.setIfInBounds_toArray, List.set_cons_zero, List.set_cons_succ])
                  (refine wpAnyH_take (i := 25) (oi := ?z24o) (v := ?z24v) ?z241 ?z242 ?z243 ?z244 ?z245 ?z246 ?z248 ?_; (case z241 => rfl); (case z242 => kernel_rfl); (case z243 => kernel_rfl); (case z244 => kernel_rfl); (case z245 => exact fun _ _ _ h => h); (case z246 => refine Or.inl ⟨rfl, ?_⟩; intro w hSw; (try dsimp only at hSw); go_simp; try with_reducible rfl); (case z248 => assumption); try simp only [Act.put, List.getElem_toArray, List.getElem_cons_zero, List.getElem_cons_succ, List.setIfInBounds_toArray, List.set_cons_zero, List.set_cons_succ])
                  refine wpAnyH_ready (rs := [23]) (by kernel_rfl) (by simp) ?_
                  refine AllReadyH.cons rfl (fun K' hK => ?_) AllReadyH.nil
                  go_simp
                  refine (held_st bx _ m dn dl _ hpre9.inb.at.drew (by omega)).mono ?_
                  rintro e11 w11 ⟨v10, rfl, ho11, hb11⟩
                  obtain ⟨A11, c11, rfl, _, _⟩ := ho11.form
                  have hB11 : Below w9.heap.size w9 w11 := (Below.refl _ _).drew.trans hb11
                  go_wp2_with fail
                  refine hK.out _ _ (anyW _) (fun hHeld2 => ?_)
                  clear hK K' hHeld
                  try simp only [Act.put, List.setIfInBounds_toArray, List.set_cons_zero, List.set_cons_succ]
                  (refine wpAnyH_take (i := 24) (oi := ?z25o) (v := ?z25v) ?z251 ?z252 ?z253 ?z254 ?z255 ?z256 ?z258 ?_; (case z251 => rfl); (case z252 => kernel_rfl); (case z253 => kernel_rfl); (case z254 => kernel_rfl); (case z255 => exact fun _ _ _ h => h); (case z256 => refine Or.inl ⟨rfl, ?_⟩; intro w hSw; (try dsimp only at hSw); go_simp; try with_reducible rfl); (case z258 => assumption); try simp only [Act.put, List.getElem_toArray, List.getElem_cons_zero, List.getElem_cons_succ, List.setIfInBounds_toArray, List.set_cons_zero, List.set_cons_succ])
                  (refine wpAnyH_take (i := 26) (oi := ?z26o) (v := ?z26v) ?z261 ?z262 ?z263 ?z264 ?z265 ?z266 ?z268 ?_; (case z261 => rfl); (case z262 => kernel_rfl); (case z263 => kernel_rfl); (case z264 => kernel_rfl); (case z265 => exact fun _ _ _ h => h); (case z266 => refine Or.inl ⟨rfl, ?_⟩; intro w hSw; (try dsimp only at hSw); go_simp; try with_reducible rfl); (case z268 => assumption); try simp only [Act.put, List.getElem_toArray, List.getElem_cons_zero, List.getElem_cons_succ, List.setIfInBounds_toArray, List.set_cons_zero, List.set_cons_succ])
                  (refine wpAnyH_take (i := 27) (oi := ?z27o) (v := ?z27v) ?z271 ?z272 ?z273 ?z274 ?z275 ?z276 ?z278 ?_; (case z271 => rfl); (case z272 => kernel_rfl); (case z273 => kernel_rfl); (case z274 => kernel_rfl); (case z275 => exact fun _ _ _ h => h); (case z276 => refine Or.inl ⟨rfl, ?_⟩; intro w hSw; (try dsimp only at hSw); go_simp; try with_reducible rfl); (case z278 => assumption); try simp only [Act.put, List.getElem_toArray, List.getElem_cons_zero, List.getElem_cons_succ, List.setIfInBounds_toArray, List.set_cons_zero, List.set_cons_succ])
                  refine wpAnyH_done (by kernel_rfl) ?_ _
                  have hpre := hpre9.below hB11
                  have hrd := (hod9.below hB11 (Nat.le_refl _)).row
                  clear hpre9 hz9 hB11 hb11 ho11 hod9
                  have HLN := Lib.hid (hpre.logLen (by rw [HN.out]; exact hp40))
                  have hbase := hpre.gb.size
                  by_cases hy2 : y > 200
                  · have hy3 : decide ((y : Int) > 200) = true := decide_eq_true (by omega)
                    go_wp2_with (first | (at_builtin; refine wpL_appr_at evK _ rfl _ _ _ rfl w4.heap.size 31 112 _ Try.underlying24 infoEv rfl u11 log rfl hpre.hlog A7 c7 d rfl hrd HLN.out (by decide) hbase ?_; intro v12 w12 ho12 hg12 hv12; have hst12 := hpre.app ho12 hg12 hv12; have cy12 := byAt_get (hat1.below (hB4.trans (gb_below hst12.gb hlx hB4.size)) hbl1) HY.out))
                    refine (lose_v hst12.inb).mono ?_
                    rintro e w13 ⟨⟨r, rfl⟩, hi13, hg13⟩
                    have hst13 := hst12.lose hi13 hg13
                    clear hpre hst12 hi13 hg13 ho12 hg12
                    go_wp2_with fail
                    go_roundw
                    case measure => simp [intOf]; omega
                    case rel => exact ⟨i + 1, _, _, _, _, by omega, by omega, by go_num, hst13⟩
                  · have hy3 : decide ((y : Int) > 200) = false := decide_eq_false (by omega)
                    go_wp2_with (first | (at_builtin; refine wpL_appr_at evK _ rfl _ _ _ rfl w4.heap.size 31 112 _ Try.underlying24 infoEv rfl u11 log rfl hpre.hlog A7 c7 d rfl hrd HLN.out (by decide) hbase ?_; intro v12 w12 ho12 hg12 hv12; have hst12 := hpre.app ho12 hg12 hv12; have cy12 := byAt_get (hat1.below (hB4.trans (gb_below hst12.gb hlx hB4.size)) hbl1) HY.out))
                    go_roundw
                    case measure => simp [intOf]; omega
                    case rel => exact ⟨i + 1, _, _, _, _, by omega, by omega, by go_num, hst12⟩
          · have h30 : n = 0 := by omega
            subst h30
            go_wp2_with fail
            go_meet
            exact ⟨log, left, c, vl, hst⟩
        · go_wp2_with fail
          go_meet
          exact ⟨log, left, c, vl, hst⟩
      · go_wp2_with fail
        go_meet
        exact ⟨log, left, c, vl, hst⟩
  case rest =>
    clear hst0
    obtain ⟨log0, left0, c0', vl0, hst0⟩ := hcut
    go_wp2_with fail
    go_loopw [11, 21] (fun v11 v21 wr => ∃ (i : Nat) (log left : List Ev) (c : Ck) (vl : Value), i ≤ n ∧ v21 = .int .i64 i ∧ PcSt w4 p bx w2.heap.size m v11 wr log left c vl ∧ Hid (∀ e ∈ p.take i, hasB c e.r e.n = true)) (fun _ v21 _ => n - (intOf v21).toNat)
    case atStart => exact ⟨0, log0, left0, c0', vl0, by omega, rfl, hst0, fun e he => by simp at he⟩
    case round =>
      clear hst0
      obtain ⟨i, log, left, c, vl, hi, rfl, hst, hH⟩ := hrel
      have hBr := hB4.trans (gb_below hst.gb hlx hB4.size)
      have hopr := (hop4.kept hst.gb (.inl (Ne.symm HPN.out))).row
      by_cases hlt : i < n
      · skip
        obtain ⟨x, hx⟩ : ∃ x, p[i]? = some x := ⟨_, List.getElem?_eq_getElem (by rw [HN.out]; exact hlt)⟩
        obtain ⟨b, off, rfl, hb, hat⟩ := hopr.get hx
        obtain ⟨e0, e1, e2, e3, e4, e5, e6, e7, e8, e9, e10, e11⟩ := evAt_get hat hx
        have HXM := Lib.hid (List.mem_of_getElem? hx)
        have HG := Lib.hid (hst.got.one HP.out hx hH.out)
        have hfl := hst.few
        have hst1 := hst.below ((Below.refl _ _).alloc (Nat.le_refl _) (Obj.cells #[.int .i64 x.r, .int .i64 x.n, .int .i64 x.c.x0, .int .i64 x.c.x1, .int .i64 x.c.x2, .int .i64 x.c.x3, .int .i64 x.c.x4, .int .i64 x.h, .int .i64 x.k, .string x.key, .int .i64 x.lab, .string x.val] 31))
        have hsz := hBr.size
        have hltx1 := hst.inb.blk.lt
        have hB1 := hBr.alloc hsz (Obj.cells #[.int .i64 x.r, .int .i64 x.n, .int .i64 x.c.x0, .int .i64 x.c.x1, .int .i64 x.c.x2, .int .i64 x.c.x3, .int .i64 x.c.x4, .int .i64 x.h, .int .i64 x.k, .string x.key, .int .i64 x.lab, .string x.val] 31)
        clear hx hst hopr
        go_wp2_with fail
        refine (take_v bx w2.heap.size m c left vl (some ⟨wr.heap.size, 0, none⟩) 1 [x] _ hst1.inb (row_oneA rfl) (by omega) (by simp) (by omega) (by omega) (by simp; omega)).mono ?_
        rintro e w7 (⟨hgt, _⟩ | ⟨hgt, v7, vl7, rfl, hov7, hi7, hovl7, hg7⟩)
        · have := HG.out.1
          omega
        have hpre := hst1.took HP.out (S := [x]) (fun e he => by simp at he; subst he; exact HXM.out) hi7 hovl7 hg7 hgt
        have HG2 := Lib.hid HG.out.2
        clear HG
        generalize (Go.Proofs.Ytlfhjlkhhaoicaa.drain c (left ++ [x])).1 = d at *
        generalize (Go.Proofs.Ytlfhjlkhhaoicaa.drain c (left ++ [x])).2.1 = dl at *
        generalize (Go.Proofs.Ytlfhjlkhhaoicaa.drain c (left ++ [x])).2.2 = dn at *
        obtain ⟨A7, c7, rfl, hrd, _⟩ := hov7.form
        have HLN := Lib.hid (hpre.logLen (by rw [HN.out]; exact hp40))
        have hbase := hpre.gb.size
        clear hst1 hi7 hovl7 hg7 hgt hov7 hB1 e0 e1 e2 e3 e4 e5 e6 e7 e8 e9 e10 e11 hat
        go_wp2_with (first | (at_builtin; refine wpL_appr_at evK _ rfl _ _ _ rfl w4.heap.size 31 112 _ Try.underlying24 infoEv rfl u11 log rfl hpre.hlog A7 c7 d rfl hrd HLN.out (by decide) hbase ?_; intro v12 w12 ho12 hg12 hv12; have hst12 := hpre.app ho12 hg12 hv12))
        go_roundw
        case measure => simp [intOf]; omega
        case rel => exact ⟨i + 1, _, _, _, _, by omega, by go_num, hst12, HG2⟩
      · skip
        obtain rfl : i = n := by omega
        have hF := hst.got.finish HP.out (fun e he => hH.out e (by rw [List.take_of_length_le (by rw [HN.out]; exact Nat.le_refl _)]; exact he))
        have HF := Lib.hid hF
        have hln : log.length = i := by rw [hF.2.1.length_eq]; exact HN.out
        have hlni : ((log.length : Nat) : Int) = (i : Int) := by omega
        have HOK := Lib.hid (fun e (he : e ∈ log) => HP.out.evOk e (hst.got.logm e he))
        obtain ⟨A11, c11, rfl, hrl, _⟩ := hst.hlog.form
        have hin := hst.inb
        clear hst hF hH
        go_wp2_with fail
        refine (clock_st bx _ m c left _ hin.at).mono ?_
        rintro e w5 ⟨rfl, hb5⟩
        have hB5 := hBr.trans (hb5.mono hBr.size)
        have hrl5 := hrl.below hb5 (Nat.le_refl _)
        have hop5 := hopr.below hb5 (Nat.le_refl _)
        clear hb5 hBr hrl hopr hin
        have hpc := pclock_any A2 c2 p _ hop5 (by rw [HN.out]; omega)
        rw [HN.out] at hpc
        go_wp2_with fail
        refine hpc.mono ?_
        rintro e w6 ⟨c', rfl, hc', hb6⟩
        obtain rfl := HF.out.1.uniq hc'
        have hB6 := hB5.trans (hb6.mono hB5.size)
        have hrl6 := hrl5.below hb6 (Nat.le_refl _)
        clear hb6 hB5 hrl5 hop5 hc' hpc
        have hR := right_any A11 c11 log _ hrl6 (by omega) HOK.out
        have hR' := hR
        rw [hln] at hR
        go_wp2_with fail
        first | with_reducible refine hR.mono ?_ | with_reducible refine hR'.mono ?_
        rintro e w7 ⟨rfl, hb7⟩
        rw [pB_true HF.out.2.2.2]
        have hB7 := hB6.trans (hb7.mono hB6.size)
        have hrl7 := hrl6.below hb7 (Nat.le_refl _)
        clear hR hR'
        have hO := ordered_any A11 c11 log _ hrl7 (by omega)
        have hO' := hO
        rw [hln] at hO
        go_wp2_with fail
        first | with_reducible refine hO.mono ?_ | with_reducible refine hO'.mono ?_
        rintro e w8 ⟨rfl, hb8⟩
        rw [pB_true HF.out.2.2.1]
        have hB8 := hB7.trans (hb8.mono hB7.size)
        go_wp2
        go_ret
        exact ⟨rfl, hB8⟩
end Go.Proofs.Ytlfhjlkhhaoicaa
