/- The walk of kithref08.Spread. -/
import Derived.Test.YtlfhjlkhhaoicaaSpreadP
import Derived.Test.YtlfhjlkhhaoicaaDrain2
import Derived.Test.YtlfhjlkhhaoicaaPiecesW
import Derived.Test.YtlfhjlkhhaoicaaOwnW
import Derived.Test.YtlfhjlkhhaoicaaSpoiltP
import Derived.Test.YtlfhjlkhhaoicaaOpenC
import Derived.Deep.CutBlock
import Derived.Deep.CutRange
namespace Go.Proofs.Ytlfhjlkhhaoicaa
set_option linter.unusedVariables false
set_option linter.unusedSimpArgs false
open Go.RowKit
attribute [local go_sem] ck_get ck_get? q_le0 q_le1 q_le2 q_le3 q_le4 q_le5 q_lt1 q_lt2 q_lt3 q_lt4 q_lt5

/-- Where the outer loop stands. -/
structure SpW (w : World) (p : List Ev) (g : Nat) (v5 v6 : Value) (wr : World) (out left : List Ev) (c : Ck) : Prop where
  hout : evK.own 31 wr w.heap.size v5 out
  hleft : evK.own 31 wr w.heap.size v6 left
  apart : apartV v6 v5
  cb : blk wr g [Value.int .i64 c.x0, Value.int .i64 c.x1, Value.int .i64 c.x2, Value.int .i64 c.x3, Value.int .i64 c.x4] 23
  st : SpSt p out left c
  bel : Below w.heap.size w wr
section
variable {w : World} {p : List Ev} {g : Nat} {v5 v6 : Value} {wr w' : World} {out left : List Ev} {c : Ck}
theorem SpW.below (h : SpW w p g v5 v6 wr out left c) (hb : Below wr.heap.size wr w') : SpW w p g v5 v6 w' out left c :=
  ⟨h.hout.below hb (Nat.le_refl _), h.hleft.below hb (Nat.le_refl _), h.apart, h.cb.below hb h.cb.lt, h.st, h.bel.trans (hb.mono h.bel.size)⟩
end
structure RdOK (left : List Ev) (c : Ck) (k : Nat) (R : List Int) : Prop where
  some : ∀ x ∈ R, ∃ (j : Nat) (e : Ev), x = (j : Int) ∧ left[j]? = Option.some e ∧ leB e.c c = true
  all : ∀ (j : Nat) (e : Ev), j < k → left[j]? = Option.some e → leB e.c c = true → (j : Int) ∈ R
theorem RdOK.start (left : List Ev) (c : Ck) : RdOK left c 0 [] := ⟨by simp, fun j e h => by omega⟩
theorem RdOK.put {left : List Ev} {c : Ck} {k : Nat} {R : List Int} (h : RdOK left c k R) {e : Ev} (he : left[k]? = Option.some e) (hle : leB e.c c = true) : RdOK left c (k + 1) (R ++ [(k : Int)]) :=
  ⟨fun x hx => by
    rcases List.mem_append.1 hx with hx | hx
    · exact h.some x hx
    · have : x = (k : Int) := by simpa using hx
      exact ⟨k, e, this, he, hle⟩, fun j y hj hy hb => by
    by_cases hjk : j = k
    · subst hjk; simp
    · exact List.mem_append_left _ (h.all j y (by omega) hy hb)⟩
theorem RdOK.skip {left : List Ev} {c : Ck} {k : Nat} {R : List Int} (h : RdOK left c k R) {e : Ev} (he : left[k]? = Option.some e) (hle : leB e.c c = false) : RdOK left c (k + 1) R :=
  ⟨h.some, fun j y hj hy hb => by
    by_cases hjk : j = k
    · subst hjk; rw [he] at hy; cases hy; rw [hle] at hb; simp at hb
    · exact h.all j y (by omega) hy hb⟩
def SpreadPost (p : List Ev) (w : World) (e : Ending) (w' : World) : Prop := ∃ A cap q, e = .returned (.slice A p.length cap) ∧ q.Perm p ∧ orderedP q ∧ evK.row w' A q ∧ (∀ a, A = some a → a.block < w'.heap.size) ∧ Below w.heap.size w w'
theorem keepCE2 {w w' : World} {g b off k : Nat} {cs : List Value} {t : TypeId} {p : List Ev} {z : Ev} (hx : blk w g cs t) (hat : evK.at w b off p) (hb : b < w.heap.size) (hz : p[k]? = some z) (h : Below w.heap.size w w') : (∀ o, w'.cell? ⟨g, o, none⟩ = cs[o]?) ∧ (w'.cell? ⟨b, off + k * 12, none⟩ = some (.int .i64 z.r) ∧ w'.cell? ⟨b, off + k * 12 + 1, none⟩ = some (.int .i64 z.n) ∧ w'.cell? ⟨b, off + k * 12 + 2, none⟩ = some (.int .i64 z.c.x0) ∧ w'.cell? ⟨b, off + k * 12 + 3, none⟩ = some (.int .i64 z.c.x1) ∧ w'.cell? ⟨b, off + k * 12 + 4, none⟩ = some (.int .i64 z.c.x2) ∧ w'.cell? ⟨b, off + k * 12 + 5, none⟩ = some (.int .i64 z.c.x3) ∧ w'.cell? ⟨b, off + k * 12 + 6, none⟩ = some (.int .i64 z.c.x4) ∧ w'.cell? ⟨b, off + k * 12 + 7, none⟩ = some (.int .i64 z.h) ∧ w'.cell? ⟨b, off + k * 12 + 8, none⟩ = some (.int .i64 z.k) ∧ w'.cell? ⟨b, off + k * 12 + 9, none⟩ = some (.string z.key) ∧ w'.cell? ⟨b, off + k * 12 + 10, none⟩ = some (.int .i64 z.lab) ∧ w'.cell? ⟨b, off + k * 12 + 11, none⟩ = some (.string z.val)) ∧ Below w.heap.size w w' := ⟨(hx.below h hx.lt).cell, evAt_get (hat.below h hb) hz, h⟩
theorem ck5 {w' : World} {b o : Nat} {e : Ev} (h : w'.cell? ⟨b, o, none⟩ = some (.int .i64 e.r) ∧ w'.cell? ⟨b, o + 1, none⟩ = some (.int .i64 e.n) ∧ w'.cell? ⟨b, o + 2, none⟩ = some (.int .i64 e.c.x0) ∧ w'.cell? ⟨b, o + 3, none⟩ = some (.int .i64 e.c.x1) ∧ w'.cell? ⟨b, o + 4, none⟩ = some (.int .i64 e.c.x2) ∧ w'.cell? ⟨b, o + 5, none⟩ = some (.int .i64 e.c.x3) ∧ w'.cell? ⟨b, o + 6, none⟩ = some (.int .i64 e.c.x4) ∧ w'.cell? ⟨b, o + 7, none⟩ = some (.int .i64 e.h) ∧ w'.cell? ⟨b, o + 8, none⟩ = some (.int .i64 e.k) ∧ w'.cell? ⟨b, o + 9, none⟩ = some (.string e.key) ∧ w'.cell? ⟨b, o + 10, none⟩ = some (.int .i64 e.lab) ∧ w'.cell? ⟨b, o + 11, none⟩ = some (.string e.val)) : w'.cell? ⟨b, o + 2, none⟩ = some (.int .i64 e.c.x0) ∧ w'.cell? ⟨b, o + 3, none⟩ = some (.int .i64 e.c.x1) ∧ w'.cell? ⟨b, o + 4, none⟩ = some (.int .i64 e.c.x2) ∧ w'.cell? ⟨b, o + 5, none⟩ = some (.int .i64 e.c.x3) ∧ w'.cell? ⟨b, o + 6, none⟩ = some (.int .i64 e.c.x4) := ⟨h.2.2.1, h.2.2.2.1, h.2.2.2.2.1, h.2.2.2.2.2.1, h.2.2.2.2.2.2.1⟩
set_option maxRecDepth 100000 in
set_option maxHeartbeats 8000000 in
theorem spread_any (A : Option Addr) (ca : Nat) (p : List Ev) (A1 : Option Addr) (ca1 : Nat) (L : List Nat) (w : World) (hl : evK.row w A p) (hp40 : p.length ≤ 40) (hP : Past p) (hl1 : byK.row w A1 L) (hm1 : L.length ≤ maxLen) (hby : ∀ y ∈ L, y ≤ 255) :
    Calls Try.prog 44 #[.slice A p.length ca, .slice A1 L.length ca1] w (SpreadPost p w) := by
  have HP := Lib.hid hP
  have HBY := Lib.hid hby
  unfold maxLen at hm1
  generalize hnn : p.length = n at *
  have HN := Lib.hid hnn
  generalize hn1 : L.length = n1 at *
  have HN1 := Lib.hid hn1
  have HLN := Lib.hid (show ([] : List Ev).length + p.length ≤ 1000000 by rw [hnn]; simp; omega)
  have ho5 : evK.own 31 (w.alloc (Obj.cells #[] 31)) w.heap.size (.slice (some ⟨w.heap.size, 0, none⟩) 0 0) [] := World.ownsRow_lit w #[] 0 (Nat.le_refl _) (by decide) rfl
  have ho6 := own_lit1 w (Obj.cells #[] 31)
  have hrow2 := row_or (row_or hl (Obj.cells #[] 31)) (Obj.cells #[] 31)
  have hsz2 : w.heap.size ≤ ((w.alloc (Obj.cells #[] 31)).alloc (Obj.cells #[] 31)).heap.size := by simp; omega
  have hb2 : Below w.heap.size w ((w.alloc (Obj.cells #[] 31)).alloc (Obj.cells #[] 31)) := ((Below.refl _ _).alloc (Nat.le_refl _) _).alloc (by simp) _
  clear hby hP hnn hn1
  go_enter Try.func44, Try.ntmps44
  go_upto_region 5 with (first | (at_builtin; refine wpL_appr_at evK _ rfl _ _ _ rfl w.heap.size 31 112 _ Try.underlying24 infoEv rfl _ [] rfl ho6 A ca p (by rw [HN.out]; rfl) hrow2 HLN.out (by decide) hsz2 ?_; intro v6 w6 hov6 hg6 hv6))
  rw [List.nil_append] at hov6
  have hg7 : ((w.alloc (Obj.cells #[] 31)).alloc (Obj.cells #[] 31)).grownBy w6 (some (w.heap.size + 1)) := hg6
  have hv7 : v6.ownBlock = some (w.heap.size + 1) ∨ v6.ownBlock = some ((w.alloc (Obj.cells #[] 31)).alloc (Obj.cells #[] 31)).heap.size := hv6
  have hst0 : SpW w p w6.heap.size (.slice (some ⟨w.heap.size, 0, none⟩) 0 0) v6 (w6.alloc (Obj.cells #[.int .i64 0, .int .i64 0, .int .i64 0, .int .i64 0, .int .i64 0] 23)) [] p Ck.zero := by
    refine ⟨((ho5.alloc _).kept hg7 (.inl (by simp [Value.ownBlock]))).alloc _, hov6.alloc _, .inr ?_, blk_new w6 [Value.int .i64 Ck.zero.x0, Value.int .i64 Ck.zero.x1, Value.int .i64 Ck.zero.x2, Value.int .i64 Ck.zero.x3, Value.int .i64 Ck.zero.x4] 23, SpSt.start p, (hb2.grown hg6 hsz2 ho6.base_le).alloc (Nat.le_trans hsz2 hg6.size) _⟩
    rcases hv7 with hv | hv <;> rw [hv] <;> simp [Value.ownBlock] <;> omega
  have hgw : w.heap.size ≤ w6.heap.size := Nat.le_trans hsz2 hg6.size
  clear ho5 ho6 hrow2 hov6 hg6 hv6 hg7 hv7 hsz2 hb2 HLN
  generalize w6.alloc (Obj.cells #[.int .i64 0, .int .i64 0, .int .i64 0, .int .i64 0, .int .i64 0] 23) = W0 at *
  generalize w6.heap.size = g at *
  go_loopw [5, 6, 8] (fun v5 v6 v8 wr => ∃ (i : Nat) (out left : List Ev) (c : Ck), i + left.length = n ∧ v8 = .int .i64 i ∧ SpW w p g v5 v6 wr out left c) (fun _ _ v8 _ => n - (intOf v8).toNat)
  case atStart => exact ⟨0, [], p, Ck.zero, by rw [HN.out]; omega, rfl, hst0⟩
  case round =>
    clear hst0
    obtain ⟨i, out, left, c, hil, rfl, hst⟩ := hrel
    have HIL := Lib.hid hil
    have hBr := hst.bel
    obtain ⟨A6, c6, rfl, hr6, hc6, hA6⟩ := id hst.hleft.form
    have hcm6 : c6 ≤ maxLen := hst.hleft.cap_le
    unfold maxLen at hcm6
    obtain ⟨m, hm⟩ : ∃ m, left.length = m := ⟨_, rfl⟩
    have HM := Lib.hid hm
    by_cases hl0 : m = 0
    · subst hl0
      obtain rfl : left = [] := List.eq_nil_of_length_eq_zero hm
      obtain ⟨A5, c5, rfl, hr5, _, hA5⟩ := id hst.hout.form
      have hd := hst.st.done HP.out
      have hol : out.length = n := by rw [hd.1.length_eq]; exact HN.out
      have HD := Lib.hid hd
      rw [hol]
      clear hol hd hst hm hil
      go_wp2
      go_ret
      exact ⟨A5, c5, out, by rw [HN.out]; rfl, HD.out.1, HD.out.2.1, hr5, fun a ha => (hA5 a ha).2.2, hBr⟩
    · rw [hm]
      have hmn : m ≤ 40 := by omega
      have hcb := hst.cb
      have hcl := hst.cb.lt
      have HST := Lib.hid hst
      clear hm hst hil
      have hmp : (m : Int) > 0 := by omega
      have hd19 : decide (0 < m) = true := decide_eq_true (by omega)
      go_wp2_with fail
      obtain ⟨W1, rfl⟩ : ∃ W1 : World, W1 = wr := ⟨_, rfl⟩
      go_loopw [9, 10] (fun v9 v10 wX => ∃ (k : Nat) (R : List Int), k ≤ m ∧ v10 = .int .i64 k ∧ intK.own 3 wX W1.heap.size v9 R ∧ R.length ≤ k ∧ Hid (RdOK left c k R) ∧ Below W1.heap.size W1 wX) (fun _ v10 _ => m - (intOf v10).toNat)
      case atStart => exact ⟨0, [], by omega, rfl, World.ownsRow_lit W1 #[] 0 (Nat.le_refl _) (by decide) rfl, by simp, RdOK.start left c, (Below.refl _ _).alloc (Nat.le_refl _) _⟩
      case round =>
        obtain ⟨k, R, hk, rfl, hoR, hRl, hRd, hB⟩ := hrel
        by_cases hkm : k < m
        · skip
          obtain ⟨x, hx⟩ : ∃ x, left[k]? = some x := ⟨_, List.getElem?_eq_getElem (by rw [HM.out]; exact hkm)⟩
          obtain ⟨b, off, rfl, hb, hat⟩ := hr6.get hx
          have hatr := hat.below hB hb
          have hcbr := hcb.below hB hcl
          have hk0 : (0 : Int) ≤ (k : Int) := by omega
          have hkm' : (k : Int) < (m : Int) := by omega
          have hbr : b < wr.heap.size := Nat.lt_of_lt_of_le hb hB.size
          have HX := Lib.hid hx
          clear hx
          cases hle : leB x.c c with
          | true =>
            have HLE := Lib.hid hle
            have hRd' : Hid (RdOK left c (k + 1) (R ++ [(k : Int)])) := hRd.out.put HX.out hle
            clear hle
            go_wp2
            first | (go_region_held3 (fun w' => (∀ o, w'.cell? ⟨g, o, none⟩ = ([Value.int .i64 c.x0, Value.int .i64 c.x1, Value.int .i64 c.x2, Value.int .i64 c.x3, Value.int .i64 c.x4] : List Value)[o]?) ∧ (w'.cell? ⟨b, off + k * 12, none⟩ = some (.int .i64 x.r) ∧ w'.cell? ⟨b, off + k * 12 + 1, none⟩ = some (.int .i64 x.n) ∧ w'.cell? ⟨b, off + k * 12 + 2, none⟩ = some (.int .i64 x.c.x0) ∧ w'.cell? ⟨b, off + k * 12 + 3, none⟩ = some (.int .i64 x.c.x1) ∧ w'.cell? ⟨b, off + k * 12 + 4, none⟩ = some (.int .i64 x.c.x2) ∧ w'.cell? ⟨b, off + k * 12 + 5, none⟩ = some (.int .i64 x.c.x3) ∧ w'.cell? ⟨b, off + k * 12 + 6, none⟩ = some (.int .i64 x.c.x4) ∧ w'.cell? ⟨b, off + k * 12 + 7, none⟩ = some (.int .i64 x.h) ∧ w'.cell? ⟨b, off + k * 12 + 8, none⟩ = some (.int .i64 x.k) ∧ w'.cell? ⟨b, off + k * 12 + 9, none⟩ = some (.string x.key) ∧ w'.cell? ⟨b, off + k * 12 + 10, none⟩ = some (.int .i64 x.lab) ∧ w'.cell? ⟨b, off + k * 12 + 11, none⟩ = some (.string x.val)) ∧ Below wr.heap.size wr w')
              (first | with_reducible exact keepCE2 hcbr hatr hbr HX.out hB5 | with_reducible exact keepCE2 hcbr hatr hbr HX.out (Below.refl _ _).drew)
              (first | (go_at_call 22; refine (refLessEq_any x.c c _).mono ?_; rintro e5 w5 ⟨rfl, hb5⟩; rw [HLE.out]; have hB5 : Below wr.heap.size wr w5 := (Below.refl _ _).drew.trans hb5))) | fail
            have ho2 := (hoR.below hB5 (Nat.le_refl _)).alloc (Obj.cells #[.int .i64 (k : Int)] 3)
            have hB6 := hB.trans (hB5.mono hB.size)
            have hbs : W1.heap.size ≤ (w5.alloc (Obj.cells #[.int .i64 (k : Int)] 3)).heap.size := by have := hB6.size; simp; omega
            have HLN := Lib.hid (show R.length + 1 ≤ 1000000 by omega)
            clear hb5 hB5 hcbr hatr
            go_wp2_with (first | (at_builtin; refine wpL_app1 intK _ rfl _ _ _ rfl W1.heap.size 3 8 _ Try.underlying87 infoInt rfl u9 R rfl ho2 w5.heap.size (k : Int) rfl (blk_new w5 [.int .i64 (k : Int)] 3) HLN.out (by decide) hbs ?_; intro v9 w7 ho9 hg9))
            go_roundw
            case measure => simp [intOf]; omega
            case rel => exact ⟨k + 1, R ++ [(k : Int)], by omega, by go_num, ho9, by simp; omega, hRd', (hB6.alloc hB6.size _).grown hg9 hbs ho2.base_le⟩
          | false =>
            have HLE := Lib.hid hle
            have hRd' : Hid (RdOK left c (k + 1) R) := hRd.out.skip HX.out hle
            clear hle
            go_wp2
            first | (go_region_held3 (fun w' => (∀ o, w'.cell? ⟨g, o, none⟩ = ([Value.int .i64 c.x0, Value.int .i64 c.x1, Value.int .i64 c.x2, Value.int .i64 c.x3, Value.int .i64 c.x4] : List Value)[o]?) ∧ (w'.cell? ⟨b, off + k * 12, none⟩ = some (.int .i64 x.r) ∧ w'.cell? ⟨b, off + k * 12 + 1, none⟩ = some (.int .i64 x.n) ∧ w'.cell? ⟨b, off + k * 12 + 2, none⟩ = some (.int .i64 x.c.x0) ∧ w'.cell? ⟨b, off + k * 12 + 3, none⟩ = some (.int .i64 x.c.x1) ∧ w'.cell? ⟨b, off + k * 12 + 4, none⟩ = some (.int .i64 x.c.x2) ∧ w'.cell? ⟨b, off + k * 12 + 5, none⟩ = some (.int .i64 x.c.x3) ∧ w'.cell? ⟨b, off + k * 12 + 6, none⟩ = some (.int .i64 x.c.x4) ∧ w'.cell? ⟨b, off + k * 12 + 7, none⟩ = some (.int .i64 x.h) ∧ w'.cell? ⟨b, off + k * 12 + 8, none⟩ = some (.int .i64 x.k) ∧ w'.cell? ⟨b, off + k * 12 + 9, none⟩ = some (.string x.key) ∧ w'.cell? ⟨b, off + k * 12 + 10, none⟩ = some (.int .i64 x.lab) ∧ w'.cell? ⟨b, off + k * 12 + 11, none⟩ = some (.string x.val)) ∧ Below wr.heap.size wr w')
              (first | with_reducible exact keepCE2 hcbr hatr hbr HX.out hB5 | with_reducible exact keepCE2 hcbr hatr hbr HX.out (Below.refl _ _).drew)
              (first | (go_at_call 22; refine (refLessEq_any x.c c _).mono ?_; rintro e5 w5 ⟨rfl, hb5⟩; rw [HLE.out]; have hB5 : Below wr.heap.size wr w5 := (Below.refl _ _).drew.trans hb5))) | fail
            have ho2 := hoR.below hB5 (Nat.le_refl _)
            have hB6 := hB.trans (hB5.mono hB.size)
            clear hb5 hB5 hcbr hatr
            go_wp2
            go_roundw
            case measure => simp [intOf]; omega
            case rel => exact ⟨k + 1, R, by omega, by go_num, ho2, by omega, hRd', hB6⟩
        · obtain rfl : k = m := by omega
          have hlne : left ≠ [] := fun h => by have := HM.out; rw [h] at this; simp at this; omega
          have hR0 : 0 < R.length := by
            obtain ⟨e, he, hle⟩ := HST.out.st.ready HP.out hlne
            obtain ⟨j, hj⟩ := List.getElem?_of_mem he
            have := hRd.out.all j e (by rw [← HM.out]; exact (List.getElem?_eq_some_iff.1 hj).1) hj hle
            exact List.length_pos_of_mem this
          obtain ⟨A9, c9, rfl, hr9, hc9, _⟩ := id hoR.form
          obtain ⟨r0, hr0⟩ : ∃ r0, R[0]? = some r0 := ⟨_, List.getElem?_eq_getElem hR0⟩
          obtain ⟨b9, o9, rfl, hb9, hat9⟩ := hr9.get hr0
          have c90 := intAt_get hat9 hr0
          rw [Nat.add_zero] at c90
          obtain ⟨nr, hnr⟩ : ∃ nr, R.length = nr := ⟨_, rfl⟩
          have HNR := Lib.hid hnr
          rw [hnr] at hR0 hRl ⊢
          have hd0 : ((nr : Int) == 0) = false := by simp; omega
          have hn0 : (0 : Int) < (nr : Int) := by omega
          have hstb := HST.out.below hB
          have HSB := Lib.hid hstb
          have HR0 := Lib.hid hr0
          clear hnr hr0 hstb hlne
          have hbelr := HST.out.bel.trans (hB.mono HST.out.bel.size)
          go_upto_if 50 with fail
          go_cut [11] (fun s11 wx => ∃ (kk : Nat) (e : Ev), s11 = .int .i64 kk ∧ Hid (left[kk]? = some e ∧ leB e.c c = true) ∧ wr = wx)
          case first =>
            by_cases hin : i < n1
            · obtain ⟨y, hy⟩ : ∃ y, L[i]? = some y := ⟨_, List.getElem?_eq_getElem (by rw [HN1.out]; exact hin)⟩
              obtain ⟨b1, o1, rfl, hbl1, hat1⟩ := hl1.get hy
              have cy := byAt_get (hat1.below hbelr hbl1) hy
              have hy255 := HBY.out y (List.mem_of_getElem? hy)
              obtain ⟨q, hq, hqn⟩ : ∃ q, y % nr = q ∧ q < nr := ⟨_, rfl, Nat.mod_lt _ hR0⟩
              have hmod : ((y : Int) % (nr : Int)) = (q : Int) := by rw [← hq]; push_cast; rfl
              have hmodt : ((y : Int).tmod (nr : Int)) = (q : Int) := by rw [Int.tmod_eq_emod_of_nonneg (by omega)]; exact hmod
              obtain ⟨rq, hrq⟩ : ∃ rq, R[q]? = some rq := ⟨_, List.getElem?_eq_getElem (by rw [HNR.out]; exact hqn)⟩
              have cq := intAt_get hat9 hrq
              have hne : (nr : Int) ≠ 0 := by omega
              have hcv : IntKind.i64.wrap (y : Int) = (y : Int) := IntWalk.i64_in _ (by omega)
              obtain ⟨j, e, hj, hje, hjl⟩ := hRd.out.some rq (List.mem_of_getElem? hrq)
              have HJ := Lib.hid (⟨hje, hjl⟩ : left[j]? = some e ∧ leB e.c c = true)
              have HRQ := Lib.hid hj
              have hid : decide (i < n1) = true := decide_eq_true hin
              clear hy hq hrq hj hje hjl
              go_wp2_with fail
              go_meet
              exact ⟨j, e, by rw [HRQ.out], HJ, rfl⟩
            · obtain ⟨j, e, hj, hje, hjl⟩ := hRd.out.some r0 (List.mem_of_getElem? HR0.out)
              have HJ := Lib.hid (⟨hje, hjl⟩ : left[j]? = some e ∧ leB e.c c = true)
              have HRQ := Lib.hid hj
              have hid : decide (i < n1) = false := decide_eq_false hin
              clear hj hje hjl
              go_wp2_with fail
              go_meet
              exact ⟨j, e, by rw [HRQ.out], HJ, rfl⟩
          case rest =>
            obtain ⟨kk, e, rfl, hke, rfl⟩ := hcut
            have hkk : kk < k := by have := (List.getElem?_eq_some_iff.1 hke.out.1).1; rw [HM.out] at this; exact this
            clear hat9 hr9 c90 hn0 hd0 hR0 hoR
            obtain ⟨b6, o6, rfl, hb6, hat6⟩ := hr6.get hke.out.1
            have hatr := hat6.below hB hb6
            have hse := evAt_get hatr hke.out.1
            obtain ⟨c0, c1, c2', c3, c4, c5', c6', c7, c8, c9', c10, c11⟩ := hse
            have hk0 : (0 : Int) ≤ (kk : Int) := by omega
            have hkm' : (kk : Int) < (k : Int) := by omega
            have hbe := hbelr.size
            have ho5 := HSB.out.hout.alloc (Obj.cells #[.int .i64 e.r, .int .i64 e.n, .int .i64 e.c.x0, .int .i64 e.c.x1, .int .i64 e.c.x2, .int .i64 e.c.x3, .int .i64 e.c.x4, .int .i64 e.h, .int .i64 e.k, .string e.key, .int .i64 e.lab, .string e.val] 31)
            have hol : out.length ≤ 40 := by have := HST.out.st.perm.length_eq; rw [List.length_append, HN.out] at this; omega
            have HLN := Lib.hid (show out.length + 1 ≤ 1000000 by omega)
            have hbs : w.heap.size ≤ (wr.alloc (Obj.cells #[.int .i64 e.r, .int .i64 e.n, .int .i64 e.c.x0, .int .i64 e.c.x1, .int .i64 e.c.x2, .int .i64 e.c.x3, .int .i64 e.c.x4, .int .i64 e.h, .int .i64 e.k, .string e.key, .int .i64 e.lab, .string e.val] 31)).heap.size := by simp; omega
            go_upto_region 19 with (first | (at_builtin; refine wpL_app1 evK _ rfl _ _ _ rfl w.heap.size 31 112 _ Try.underlying24 infoEv rfl u5 out rfl ho5 wr.heap.size e rfl (blk_new wr [.int .i64 e.r, .int .i64 e.n, .int .i64 e.c.x0, .int .i64 e.c.x1, .int .i64 e.c.x2, .int .i64 e.c.x3, .int .i64 e.c.x4, .int .i64 e.h, .int .i64 e.k, .string e.key, .int .i64 e.lab, .string e.val] 31) HLN.out (by decide) hbs ?_; intro v9 w5 ho9 hg9))
            have hap := HST.out.apart
            have hg9' : (wr.alloc (Obj.cells #[.int .i64 e.r, .int .i64 e.n, .int .i64 e.c.x0, .int .i64 e.c.x1, .int .i64 e.c.x2, .int .i64 e.c.x3, .int .i64 e.c.x4, .int .i64 e.h, .int .i64 e.k, .string e.key, .int .i64 e.lab, .string e.val] 31)).grownBy w5 u5.ownBlock := hg9
            have hcb5 := (HSB.out.cb.alloc (Obj.cells #[.int .i64 e.r, .int .i64 e.n, .int .i64 e.c.x0, .int .i64 e.c.x1, .int .i64 e.c.x2, .int .i64 e.c.x3, .int .i64 e.c.x4, .int .i64 e.h, .int .i64 e.k, .string e.key, .int .i64 e.lab, .string e.val] 31)).grown hg9' (ho5.ne_blk (HSB.out.cb.alloc (Obj.cells #[.int .i64 e.r, .int .i64 e.n, .int .i64 e.c.x0, .int .i64 e.c.x1, .int .i64 e.c.x2, .int .i64 e.c.x3, .int .i64 e.c.x4, .int .i64 e.h, .int .i64 e.k, .string e.key, .int .i64 e.lab, .string e.val] 31)) (by decide))
            have hle5 := (HSB.out.hleft.alloc (Obj.cells #[.int .i64 e.r, .int .i64 e.n, .int .i64 e.c.x0, .int .i64 e.c.x1, .int .i64 e.c.x2, .int .i64 e.c.x3, .int .i64 e.c.x4, .int .i64 e.h, .int .i64 e.k, .string e.key, .int .i64 e.lab, .string e.val] 31)).kept hg9' (hap.elim .inr .inl)
            have hbel5 := (HSB.out.bel.alloc hbe (Obj.cells #[.int .i64 e.r, .int .i64 e.n, .int .i64 e.c.x0, .int .i64 e.c.x1, .int .i64 e.c.x2, .int .i64 e.c.x3, .int .i64 e.c.x4, .int .i64 e.h, .int .i64 e.k, .string e.key, .int .i64 e.lab, .string e.val] 31)).grown hg9' hbs ho5.base_le
            have hM := HP.out.may e (HST.out.st.mem (List.mem_of_getElem? hke.out.1))
            obtain ⟨q, hq⟩ : ∃ q : Nat, e.r = q := ⟨e.r.toNat, by have := hM.r0; omega⟩
            have hq5 : q < 5 := by have := hM.r5; omega
            have hq0 : (0 : Int) ≤ (q : Int) := by omega
            have hq5' : (q : Int) < 5 := by omega
            have hmx : c.get q < e.n := by
              have := (HST.out.st.rdy HP.out (List.mem_of_getElem? hke.out.1) hke.out.2).2.2.2.1
              rw [hq, Int.toNat_natCast] at this
              omega
            have hmx2 : ¬ e.n < c.get q := by omega
            have hmx3 : c.get q ≤ e.n := by omega
            have hbu : bump c e = c.set q e.n := by unfold bump; rw [hq, Int.toNat_natCast]
            have HBU := Lib.hid hbu
            have HQ := Lib.hid hq
            clear c0 c1 c2' c3 c4 c5' c6' c7 c8 c9' c10 c11 hatr hg9 hg9' ho5 hq hbu hM hap
            obtain ⟨_, _, hA5, hb5, hat5⟩ := hle5.row.get hke.out.1
            cases hA5
            obtain ⟨e0, e1, e2, e3, e4, e5, e6, e7, e8, e9, e10, e11⟩ := evAt_get hat5 hke.out.1
            rw [HQ.out] at e0
            have cc5 := hcb5.cell
            have fc5 := hcb5.free
            have hgl5 := hcb5.lt
            go_cut [86] (fun s86 wx => wx = (w5.setCell ⟨g, q, none⟩ (.int .i64 e.n)).drew)
            case first =>
              go_still_tail 19, (by kernel_rfl)
              change wpList _ _ _ _ _ w5.drew
              go_wp2
              all_goals first | (exfalso; omega) | (go_meet; rfl)
            case rest =>
              subst hcut
              have hcb6 := (hcb5.setCk hq5 e.n).drew
              have hle6 := (hle5.set_ne (a := ⟨g, q, none⟩) (Ne.symm (hle5.ne_blk hcb5 (by decide))) (.int .i64 e.n)).drew
              have ho6 := (ho9.set_ne (a := ⟨g, q, none⟩) (Ne.symm (ho9.ne_blk hcb5 (by decide))) (.int .i64 e.n)).drew
              have hbel6 := (hbel5.setCell (p := ⟨g, q, none⟩) hgw (.int .i64 e.n)).drew
              clear e0 e1 e2 e3 e4 e5 e6 e7 e8 e9 e10 e11 cc5 fc5 hcb5 hle5 ho9 hbel5 hat5 hb5
              generalize (w5.setCell ⟨g, q, none⟩ (.int .i64 e.n)).drew = W at *
              obtain ⟨_, _, hA7, hb7, hat7⟩ := hle6.row.get hke.out.1
              cases hA7
              have ho0 : evK.own 31 (W.drew.alloc (Obj.cells #[] 31)) W.heap.size (.slice (some ⟨W.heap.size, 0, none⟩) 0 0) [] := World.ownsRow_lit W.drew #[] 0 (Nat.le_refl _) (by decide) rfl
              have hBa : Below W.heap.size W (W.drew.alloc (Obj.cells #[] 31)) := (Below.refl _ _).drew.alloc (Nat.le_refl _) _
              have HTL := Lib.hid (show (left.take kk).length = kk by rw [List.length_take, HM.out]; omega)
              have HDL := Lib.hid (show (left.drop (kk + 1)).length = k - (kk + 1) by rw [List.length_drop, HM.out])
              have HBD := Lib.hid (show ([] : List Ev).length + (left.take kk).length ≤ 1000000 by rw [HTL.out]; simp; omega)
              have HBE := Lib.hid (show (left.take kk).length + (left.drop (kk + 1)).length ≤ 1000000 by rw [HTL.out, HDL.out]; omega)
              have hrta := (hle6.row.take kk).below hBa (Nat.le_refl _)
              have hrd := row_drop_if (k := kk + 1) (c := c6) hat7 hb7 (by rw [HM.out]; rw [HM.out] at hc6; exact hc6)
              have hw1 : IntKind.i64.wrap ((kk : Int) + 1) = (kk : Int) + 1 := IntWalk.i64_in _ (by omega)
              have hc6' : k ≤ c6 := by rw [HM.out] at hc6; exact hc6
              have hkc : (kk : Int) ≤ (c6 : Int) := by omega
              have hk1 : (0 : Int) ≤ (kk : Int) + 1 := by omega
              have hk2 : (kk : Int) + 1 ≤ (k : Int) := by omega
              have hk3 : (k : Int) ≤ (c6 : Int) := by omega
              obtain ⟨R7, hR7⟩ : ∃ R7, R7 = left.take kk ++ left.drop (kk + 1) := ⟨_, rfl⟩
              have HRE := Lib.hid hR7
              have HIL2 := Lib.hid (show i + 1 + R7.length = n by have := HIL.out; rw [hR7, List.length_append, HTL.out, HDL.out, HM.out] at *; omega)
              have HST7 := Lib.hid (show SpSt p (out ++ [e]) R7 (c.set q e.n) by rw [hR7, ← HBU.out]; exact HST.out.st.take HP.out hke.out.1 hke.out.2)
              clear hR7 hat7
              go_wp2_with fail
              first | (go_region_held3 (fun w' => Below W.heap.size W w')
                (first | with_reducible assumption | with_reducible exact (Below.refl _ _).drew | exact hBa)
                (first
                  | (refine step_appr evK _ (by rfl) _ _ _ (by rfl) W.heap.size 31 112 _ Try.underlying24 infoEv (by rfl) _ [] (by rfl) ho0 (some ⟨b6, o6, none⟩) c6 (left.take kk) (by rw [HTL.out]; rfl) hrta HBD.out (by decide) hBa.size ?_; intro v5 w5' ho5' hg5'; have hB5' : Below W.heap.size W w5' := Below.grown hBa hg5' hBa.size ho0.base_le; rw [List.nil_append] at ho5')
                  | (refine step_appr evK _ (by rfl) _ _ _ (by rfl) W.heap.size 31 112 _ Try.underlying24 infoEv (by rfl) _ (left.take kk) (by rfl) ho5' (if c6 = kk + 1 then some ⟨b6, o6, none⟩ else some ⟨b6, o6 + (kk + 1) * 12, none⟩) (c6 - (kk + 1)) (left.drop (kk + 1)) (by rw [HDL.out]; rfl) (hrd.below hB5' (Nat.le_refl _)) HBE.out (by decide) hB5'.size ?_; intro v7 w7 ho7 hg7; have hB7 : Below W.heap.size W w7 := Below.grown hB5' hg7 hB5'.size ho5'.base_le; rw [← HRE.out] at ho7))) | fail
              clear hrd
              generalize (if c6 = kk + 1 then some (Addr.mk b6 o6 none) else some (Addr.mk b6 (o6 + (kk + 1) * 12) none)) = Ad
              have hlt9 := ho6.lt_size
              have hap7 : apartV v7 v9 := by
                cases hv : v7.ownBlock with
                | none => exact .inl hv
                | some z =>
                  right
                  rw [hv]
                  intro hc
                  have a := ho7.base_le z hv
                  have b := hlt9 z hc.symm
                  omega
              have hfin : SpW w p g v9 v7 w7 (out ++ [e]) R7 (c.set q e.n) := ⟨ho6.below hB7 (Nat.le_refl _), ho7.mono hbel6.size, hap7, hcb6.below hB7 hcb6.lt, HST7.out, hbel6.trans (hB7.mono hbel6.size)⟩
              clear ho6 hle6 hcb6 hbel6 hB5' ho5' hg5' hB7 ho7 hg7 hap7 hlt9 hrta ho0 hBa hb7 hc6
              have hi40 : i ≤ 40 := by have := HIL.out; omega
              go_wp2
              go_roundw
              case measure => have := HIL2.out; simp [intOf]; omega
              case rel => exact ⟨i + 1, out ++ [e], R7, c.set q e.n, HIL2.out, by go_num, hfin⟩
end Go.Proofs.Ytlfhjlkhhaoicaa
