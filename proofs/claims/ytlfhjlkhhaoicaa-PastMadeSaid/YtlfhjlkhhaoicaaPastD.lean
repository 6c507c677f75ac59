/- The walks of slices.Max, past.Height, and past.Right with its closure. -/
import Derived.Test.YtlfhjlkhhaoicaaPastC
import Derived.Test.YtlfhjlkhhaoicaaSame
namespace Go.Proofs.Ytlfhjlkhhaoicaa
set_option linter.unusedVariables false
set_option linter.unusedSimpArgs false
open Go.RowKit Go.Maps Go.ChangeMaps
attribute [local go_sem] ck_get ck_get? q_le0 q_le1 q_le2 q_le3 q_le4 q_le5 q_lt1 q_lt2 q_lt3 q_lt4 q_lt5

/-- The greatest of a row. -/
def isMax (l : List Int) (m : Int) : Prop := m ∈ l ∧ ∀ x ∈ l, x ≤ m
theorem isMax.snoc {l : List Int} {m : Int} (h : isMax l m) (x : Int) : isMax (l ++ [x]) (max m x) := by
  refine ⟨?_, fun y hy => ?_⟩
  · rcases Int.le_total m x with hx | hx
    · rw [Int.max_eq_right hx]; simp
    · rw [Int.max_eq_left hx]; exact List.mem_append_left _ h.1
  · rcases List.mem_append.1 hy with hy | hy
    · have := h.2 y hy; omega
    · simp at hy; subst hy; omega
set_option maxRecDepth 100000 in
set_option maxHeartbeats 400000 in
theorem max_any (A : Option Addr) (ca : Nat) (l : List Int) (w : World) (hl : intK.row w A l) (hn : l.length ≤ 1000) (h0 : 0 < l.length) :
    Calls Try.prog 58 #[.slice A l.length ca] w fun e w' => ∃ m, e = .returned (.int .i64 m) ∧ isMax l m ∧ w = w' := by
  obtain ⟨x0, hx0⟩ : ∃ x, l[0]? = some x := ⟨_, List.getElem?_eq_getElem h0⟩
  obtain ⟨b, off, rfl, hb, hat⟩ := hl.get hx0
  have c0 := intAt_get hat hx0
  rw [Nat.add_zero] at c0
  have HX0 := Lib.hid hx0
  clear hx0
  generalize hnn : l.length = n at *
  have HN := Lib.hid hnn
  clear hnn
  go_enter Try.func58, Try.ntmps58
  go_wp2
  go_loop [3, 4] (fun v3 v4 => ∃ (k : Nat) (m : Int), 1 ≤ k ∧ k ≤ n ∧ v4 = .int .i64 k ∧ v3 = .int .i64 m ∧ Hid (isMax (l.take k) m)) (fun _ v4 => n - (intOf v4).toNat)
  case atStart => exact ⟨1, x0, by omega, by omega, rfl, rfl, by show isMax (l.take 1) x0; rw [show l.take 1 = [x0] by rw [List.take_add_one, HX0.out]; rfl]; exact ⟨by simp, fun x hx => by simp at hx; omega⟩⟩
  case round =>
    obtain ⟨k, m, hk1, hk, rfl, rfl, hM⟩ := hrel
    by_cases hlt : k < n
    · obtain ⟨x, hx⟩ : ∃ x, l[k]? = some x := ⟨_, List.getElem?_eq_getElem (by rw [HN.out]; exact hlt)⟩
      have ck := intAt_get hat hx
      have HT := Lib.hid (show l.take (k + 1) = l.take k ++ [x] by rw [List.take_add_one, hx]; rfl)
      clear hx
      by_cases hmx : m < x
      · go_wp2
        go_round
        case measure => simp [intOf]; omega
        case rel =>
          have := hM.out.snoc x
          rw [← HT.out, Int.max_eq_right (by omega)] at this
          exact ⟨k + 1, x, by omega, by omega, by go_num, by go_num, this⟩
      · go_wp2
        go_round
        case measure => simp [intOf]; omega
        case rel =>
          have := hM.out.snoc x
          rw [← HT.out, Int.max_eq_left (by omega)] at this
          exact ⟨k + 1, m, by omega, by omega, by go_num, by go_num, this⟩
    · obtain rfl : k = n := by omega
      go_wp2
      go_ret
      have := hM.out
      rw [List.take_of_length_le (by rw [HN.out]; omega)] at this
      exact ⟨m, rfl, this, rfl⟩

def hts (l : List Ev) (c : Ck) : List Int := (l.filter fun e => hasB c e.r e.n).map Ev.h
theorem hts_snoc (l : List Ev) (c : Ck) (e : Ev) : hts (l ++ [e]) c = hts l c ++ (if hasB c e.r e.n then [e.h] else []) := by
  unfold hts
  rw [List.filter_append, List.map_append]
  congr 1
  cases h : hasB c e.r e.n <;> simp [List.filter_cons, h]
theorem hts_len (l : List Ev) (c : Ck) : (hts l c).length ≤ l.length := by unfold hts; rw [List.length_map]; exact List.length_filter_le _ _
theorem isHeight_nil {l : List Ev} {c : Ck} (h : hts l c = []) : isHeight l c 1 := by
  have hn : ∀ e ∈ l, hasB c e.r e.n = false := fun e he => by
    unfold hts at h
    rw [List.map_eq_nil_iff, List.filter_eq_nil_iff] at h
    simpa using h e he
  exact ⟨fun e he hb => by rw [hn e he] at hb; simp at hb, .inl ⟨rfl, hn⟩⟩
theorem isHeight_max {l : List Ev} {c : Ck} {m : Int} (h : isMax (hts l c) m) : isHeight l c (m + 1) := by
  obtain ⟨h1, h2⟩ := h
  unfold hts at h1 h2
  obtain ⟨e, he, rfl⟩ := List.mem_map.1 h1
  rw [List.mem_filter] at he
  exact ⟨fun x hx hb => by have := h2 x.h (List.mem_map.2 ⟨x, List.mem_filter.2 ⟨hx, hb⟩, rfl⟩); omega, .inr ⟨e, he.1, he.2, rfl⟩⟩
set_option maxRecDepth 100000 in
set_option maxHeartbeats 1000000 in
theorem height_any (A : Option Addr) (ca : Nat) (l : List Ev) (c : Ck) (w : World) (hl : evs w A l) (hn : l.length ≤ 1000) (hh : ∀ e ∈ l, 0 ≤ e.h ∧ e.h ≤ 100000000) :
    Calls Try.prog 39 #[.slice A l.length ca, .agg #[.int .i64 c.x0, .int .i64 c.x1, .int .i64 c.x2, .int .i64 c.x3, .int .i64 c.x4]] w fun e w' => ∃ h, e = .returned (.int .i64 h) ∧ isHeight l c h ∧ Below w.heap.size w w' := by
  generalize hnn : l.length = n at *
  have HN := Lib.hid hnn
  have HH := Lib.hid hh
  clear hnn hh
  have kc0 := blk_new w [Value.int .i64 c.x0, Value.int .i64 c.x1, Value.int .i64 c.x2, Value.int .i64 c.x3, Value.int .i64 c.x4] 23
  go_enter Try.func39, Try.ntmps39
  go_wp2
  go_loopw [5, 10] (fun v5 v10 wr => ∃ k : Nat, k ≤ n ∧ v10 = .int .i64 k ∧ intK.own 3 wr (w.heap.size + 1) v5 (hts (l.take k) c) ∧ blk wr w.heap.size [Value.int .i64 c.x0, Value.int .i64 c.x1, Value.int .i64 c.x2, Value.int .i64 c.x3, Value.int .i64 c.x4] 23 ∧ Below w.heap.size w wr) (fun _ i _ => n - (intOf i).toNat)
  case atStart => exact ⟨0, by omega, rfl, Kn.own_nil, kc0, (Below.refl _ _).alloc (Nat.le_refl _) _⟩
  case round =>
    obtain ⟨k, hk, rfl, ho, kc, hB⟩ := hrel
    by_cases hlt : k < n
    · obtain ⟨e, he⟩ : ∃ e, l[k]? = some e := ⟨_, List.getElem?_eq_getElem (by rw [HN.out]; exact hlt)⟩
      obtain ⟨b, off, rfl, hb, hat⟩ := hl.get he
      obtain ⟨c0, c1, c2, c3, c4, c5, c6, c7, c8, c9, c10, c11⟩ := evAt_get (hat.below hB hb) he
      have HT := Lib.hid (show hts (l.take (k + 1)) c = hts (l.take k) c ++ (if hasB c e.r e.n then [e.h] else []) by rw [List.take_add_one, he]; exact hts_snoc _ _ _)
      have hle := hts_len (l.take k) c
      have hle2 : (l.take k).length ≤ k := List.length_take_le _ _
      have HL := Lib.hid (show (hts (l.take k) c).length + 1 ≤ 1000000 by omega)
      clear he hle hle2
      generalize hts (l.take k) c = L at *
      have hltk := kc.lt
      have kcc := kc.cell
      have hx := blk_new wr [.int .i64 e.r, .int .i64 e.n, .int .i64 e.c.x0, .int .i64 e.c.x1, .int .i64 e.c.x2, .int .i64 e.c.x3, .int .i64 e.c.x4, .int .i64 e.h, .int .i64 e.k, .string e.key, .int .i64 e.lab, .string e.val] 31
      have hltx := hx.lt
      go_wp2_with fail
      refine (has_any c e.r e.n _).mono ?_
      rintro e' w1 ⟨rfl, hb1⟩
      have ho1 := (ho.alloc (Obj.cells #[.int .i64 e.r, .int .i64 e.n, .int .i64 e.c.x0, .int .i64 e.c.x1, .int .i64 e.c.x2, .int .i64 e.c.x3, .int .i64 e.c.x4, .int .i64 e.h, .int .i64 e.k, .string e.key, .int .i64 e.lab, .string e.val] 31)).below hb1 (Nat.le_refl _)
      have kc1 := (kc.alloc (Obj.cells #[.int .i64 e.r, .int .i64 e.n, .int .i64 e.c.x0, .int .i64 e.c.x1, .int .i64 e.c.x2, .int .i64 e.c.x3, .int .i64 e.c.x4, .int .i64 e.h, .int .i64 e.k, .string e.key, .int .i64 e.lab, .string e.val] 31)).below hb1 (by first | omega | (simp; done) | (simp; omega))
      have hx1 := (hx.below hb1 hltx).cell
      have hltx1 := (hx.below hb1 hltx).lt
      have hB1 := (hB.alloc hB.size (Obj.cells #[.int .i64 e.r, .int .i64 e.n, .int .i64 e.c.x0, .int .i64 e.c.x1, .int .i64 e.c.x2, .int .i64 e.c.x3, .int .i64 e.c.x4, .int .i64 e.h, .int .i64 e.k, .string e.key, .int .i64 e.lab, .string e.val] 31)).trans (hb1.mono (by first | omega | (simp; done) | (simp; omega)))
      clear c0 c1 c2 c3 c4 c5 c6 c7 c8 c9 c10 c11 kcc hx
      cases hh : hasB c e.r e.n with
      | false =>
        rw [hh] at HT
        have HT' := Lib.hid (show hts (l.take (k + 1)) c = L by rw [HT.out]; simp)
        clear hh HT
        go_wp2
        go_roundw
        case measure => simp [intOf]; omega
        case rel => exact ⟨k + 1, by omega, by go_num, by rw [HT'.out]; exact ho1, kc1, hB1⟩
      | true =>
        rw [hh] at HT
        have HT' := Lib.hid (show hts (l.take (k + 1)) c = L ++ [e.h] by rw [HT.out]; simp)
        clear hh HT
        have ho2 := ho1.alloc (Obj.cells #[.int .i64 e.h] 3)
        have hsb : w.heap.size + 1 ≤ (w1.alloc (Obj.cells #[.int .i64 e.h] 3)).heap.size := by have := kc1.lt; simp; omega
        go_wp2_with (first | (at_builtin; refine wpL_app1 intK _ rfl _ _ _ rfl (w.heap.size + 1) 3 8 _ Try.underlying87 infoInt rfl u5 L rfl ho2 w1.heap.size e.h rfl (blk_new w1 [.int .i64 e.h] 3) HL.out (by decide) hsb ?_; intro v5 w2 ho3 hg2))
        go_roundw
        case measure => simp [intOf]; omega
        case rel => exact ⟨k + 1, by omega, by go_num, by rw [HT'.out]; exact ho3, (kc1.alloc _).grown hg2 (ho2.ne (by first | omega | (simp; done) | (simp; omega))), (hB1.alloc hB1.size _).grown hg2 (by have := hB1.size; simp; omega) (fun x hx => by have := ho2.base_le x hx; omega)⟩
    · obtain rfl : k = n := by omega
      have HL := Lib.hid (show l.take k = l from List.take_of_length_le (by rw [HN.out]; omega))
      rw [HL.out] at ho
      have hlen := hts_len l c
      have hbd : ∀ x ∈ hts l c, 0 ≤ x ∧ x ≤ 100000000 := fun x hx => by
        unfold hts at hx
        obtain ⟨e, he, rfl⟩ := List.mem_map.1 hx
        exact HH.out e (List.mem_filter.1 he).1
      obtain ⟨A5, c5, rfl, hr5, hc5, _⟩ := ho.form
      rw [HN.out] at hlen
      by_cases h0 : hts l c = []
      · have HI := Lib.hid (isHeight_nil h0)
        rw [h0]
        clear h0 hbd hlen ho
        go_wp2
        go_ret
        exact ⟨1, rfl, HI.out, hB⟩
      · have hpos : 0 < (hts l c).length := List.length_pos_iff.2 h0
        have hne : (((hts l c).length : Nat) : Int) ≠ 0 := by omega
        have hne2 : ((((hts l c).length : Nat) : Int) == 0) = false := by simpa using hne
        have HBD := Lib.hid hbd
        have hl5 : (hts l c).length ≤ 1000 := by omega
        have HMX := Lib.hid (fun m (h : isMax (hts l c) m) => isHeight_max h)
        clear h0 hbd ho
        generalize hts l c = T at *
        go_wp2_with fail
        refine (max_any A5 c5 T _ hr5 hl5 hpos).mono ?_
        rintro e w2 ⟨m, rfl, hm, rfl⟩
        have hbm := HBD.out m hm.1
        have HI := Lib.hid (HMX.out m hm)
        obtain ⟨hbm0, hbm1⟩ := hbm
        clear hm
        go_wp2
        go_ret
        exact ⟨m + 1, rfl, HI.out, hB⟩

/-- Is there an event of a mark, with no more in its clock? -/
def rgB (l : List Ev) (e : Ev) (m : Mk) : Bool :=
  match firstI l m with
  | some j => match l[j]? with
    | some x => leB x.c e.c
    | none => false
  | none => false
theorem rgB_iff {l : List Ev} (hn : (l.map Ev.mk').Nodup) {e : Ev} {m : Mk} : rgB l e m = true ↔ ∃ x ∈ l, x.r = m.r ∧ x.n = m.n ∧ leB x.c e.c = true := by
  unfold rgB
  cases h : firstI l m with
  | none =>
    simp only [Bool.false_eq_true, false_iff]
    rintro ⟨x, hx, a, b, _⟩
    exact firstI_none.1 h x hx (by unfold Ev.mk'; rw [a, b])
  | some j =>
    obtain ⟨x, hx, hm, _⟩ := firstI_some h
    simp only [hx]
    have hmem := List.mem_of_getElem? hx
    have hr : x.r = m.r := by rw [← hm]; rfl
    have hk : x.n = m.n := by rw [← hm]; rfl
    constructor
    · intro hle; exact ⟨x, hmem, hr, hk, hle⟩
    · rintro ⟨y, hy, a, b, hle⟩
      rw [mk_uniq hn hmem hy (by rw [hr, a]) (by rw [hk, b])]
      exact hle
def rightAll (l : List Ev) (k : Nat) : Prop := ∀ i e, i < k → l[i]? = some e → May e ∧ isHeight l e.c e.h ∧ allHas e.c l.length (fun q n => rgB l e ⟨q, n⟩) 5
theorem rightAll_iff {l : List Ev} (hn : (l.map Ev.mk').Nodup) : rightAll l l.length ↔ rightP l := by
  constructor
  · intro h
    have key : ∀ e ∈ l, May e ∧ isHeight l e.c e.h ∧ allHas e.c l.length (fun q n => rgB l e ⟨q, n⟩) 5 := fun e he => by
      obtain ⟨i, hi⟩ := List.getElem?_of_mem he
      exact h i e (List.getElem?_eq_some_iff.1 hi).1 hi
    refine ⟨hn, fun e he => (key e he).1, fun e he => (key e he).2.1, fun e he => (allHas_iff.1 (key e he).2.2).1, fun e he r n hb => ?_⟩
    have := (rgB_iff hn).1 ((allHas_iff.1 (key e he).2.2).2 r n hb)
    obtain ⟨h0, h1, _⟩ := hasB_iff.1 hb
    have hr : ((r.toNat : Nat) : Int) = r := by omega
    simp only [hr] at this
    exact this
  · intro h i e hi he
    have hm := List.mem_of_getElem? he
    refine ⟨h.may e hm, h.height e hm, allHas_iff.2 ⟨h.few e hm, fun r n hb => (rgB_iff hn).2 ?_⟩⟩
    obtain ⟨h0, h1, _⟩ := hasB_iff.1 hb
    have hr : ((r.toNat : Nat) : Int) = r := by omega
    simp only [hr]
    exact h.down e hm r n hb

set_option maxRecDepth 100000 in
set_option maxHeartbeats 1000000 in
theorem right1_any (m : Mk) (ba bl be B : Nat) (A : Option Addr) (ca : Nat) (l : List Ev) (ms : List (Mk × Value)) (e : Ev) (w : World) (h1 : blk w ba [.map (some B)] 79) (h2 : blk w bl [.slice A l.length ca] 24) (h3 : blk w be [.int .i64 e.r, .int .i64 e.n, .int .i64 e.c.x0, .int .i64 e.c.x1, .int .i64 e.c.x2, .int .i64 e.c.x3, .int .i64 e.c.x4, .int .i64 e.h, .int .i64 e.k, .string e.key, .int .i64 e.lab, .string e.val] 31) (hl : evs w A l) (hM : mapAt w B ms) (hI : idxOK l ms) (hn : l.length ≤ 1000) :
    Calls Try.prog 57 #[.agg #[.int .i64 m.r, .int .i64 m.n], .pointer (some ⟨ba, 0, none⟩), .pointer (some ⟨bl, 0, none⟩), .pointer (some ⟨be, 0, none⟩)] w fun x w' => x = .returned (.bool (rgB l e m)) ∧ Below w.heap.size w w' := by
  have lt1 := h1.lt; have lt2 := h2.lt; have lt3 := h3.lt
  have c1 := h1.cell 0; have c2 := h2.cell 0
  simp only [List.getElem?_cons_zero] at c1 c2
  have c3 := h3.cell
  have hM1 := hM.alloc (Obj.cells #[.int .i64 m.r, .int .i64 m.n] 70)
  have hB0 := (Below.refl w.heap.size w).alloc (Nat.le_refl _) (Obj.cells #[.int .i64 m.r, .int .i64 m.n] 70)
  cases hf : firstI l m with
  | none =>
    have HLK := Lib.hid (show lookM ms m = none by rw [hI.look, hf]; rfl)
    have HO := Lib.hid (show rgB l e m = false by unfold rgB; rw [hf])
    clear hf hI
    go_enter Try.func57, Try.ntmps57
    go_wp2_with (first | (at_lookup; refine wpL_look _ rfl _ _ 79 3 rfl Try.underlying79 (.int .i64 0) (zeroInt _) _ ms rfl hM1 m rfl ?_; rw [HLK.out]))
    go_quiet (fail)
    go_wp2
    go_ret
    exact ⟨ret_bool HO.out.symm, bdN hB0 _⟩
  | some j =>
    obtain ⟨x, hx, _, _⟩ := firstI_some hf
    have HLK := Lib.hid (show lookM ms m = some (.int .i64 (j : Nat)) by rw [hI.look, hf]; rfl)
    have HO := Lib.hid (show rgB l e m = leB x.c e.c by unfold rgB; rw [hf]; simp only [hx])
    obtain ⟨b, off, rfl, hb, hat⟩ := hl.get hx
    have hjl : j < l.length := (List.getElem?_eq_some_iff.1 hx).1
    have hatx := evAt_get hat hx
    generalize hnn : l.length = n at *
    have j0 : (0 : Int) ≤ (j : Int) := by omega
    have j1 : (j : Int) < (n : Int) := by omega
    have j2 : (j : Int) ≤ (ca : Int) ∨ True := .inr trivial
    clear hf hI hx hnn j2
    go_enter Try.func57, Try.ntmps57
    go_wp2_with (first | (at_lookup; refine wpL_look _ rfl _ _ 79 3 rfl Try.underlying79 (.int .i64 0) (zeroInt _) _ ms rfl hM1 m rfl ?_; rw [HLK.out]))
    obtain ⟨d0, d1, d2, d3, d4, d5, d6, -⟩ := hatx
    have q2 := (h2.alloc (Obj.cells #[.int .i64 m.r, .int .i64 m.n] 70))
    have q3 := (h3.alloc (Obj.cells #[.int .i64 m.r, .int .i64 m.n] 70))
    have z2 := q2.cell 0
    simp only [List.getElem?_cons_zero] at z2
    first | (go_region_held3 (fun w' => w'.cell? ⟨bl, 0, none⟩ = some (.slice (some ⟨b, off, none⟩) n ca) ∧ (∀ o, w'.cell? ⟨be, o, none⟩ = ([.int .i64 e.r, .int .i64 e.n, .int .i64 e.c.x0, .int .i64 e.c.x1, .int .i64 e.c.x2, .int .i64 e.c.x3, .int .i64 e.c.x4, .int .i64 e.h, .int .i64 e.k, .string e.key, .int .i64 e.lab, .string e.val] : List Value)[o]?) ∧ w'.cell? ⟨b, off + j * 12 + 2, none⟩ = some (.int .i64 x.c.x0) ∧ w'.cell? ⟨b, off + j * 12 + 3, none⟩ = some (.int .i64 x.c.x1) ∧ w'.cell? ⟨b, off + j * 12 + 4, none⟩ = some (.int .i64 x.c.x2) ∧ w'.cell? ⟨b, off + j * 12 + 5, none⟩ = some (.int .i64 x.c.x3) ∧ w'.cell? ⟨b, off + j * 12 + 6, none⟩ = some (.int .i64 x.c.x4))
      (first | with_reducible exact ⟨y2, y3, y4, y5, y6, y7, y8⟩ | exact ⟨z2, q3.cell, (hB0.cell (p := ⟨b, _, none⟩) hb).trans d2, (hB0.cell (p := ⟨b, _, none⟩) hb).trans d3, (hB0.cell (p := ⟨b, _, none⟩) hb).trans d4, (hB0.cell (p := ⟨b, _, none⟩) hb).trans d5, (hB0.cell (p := ⟨b, _, none⟩) hb).trans d6⟩)
      (first | (go_at_call 46; refine (lessEq_any x.c e.c _).mono ?_; rintro e3 w5 ⟨rfl, hb5⟩; have hB5 := hB0.drew.trans (hb5.mono hB0.size); have y2 := ((q2.drew.below hb5 q2.lt).cell 0).trans (List.getElem?_cons_zero ..); have y3 := (q3.drew.below hb5 q3.lt).cell; have y4 := (hB5.cell (p := ⟨b, _, none⟩) hb).trans d2; have y5 := (hB5.cell (p := ⟨b, _, none⟩) hb).trans d3; have y6 := (hB5.cell (p := ⟨b, _, none⟩) hb).trans d4; have y7 := (hB5.cell (p := ⟨b, _, none⟩) hb).trans d5; have y8 := (hB5.cell (p := ⟨b, _, none⟩) hb).trans d6))) | fail
    go_wp2
    go_ret
    exact ⟨ret_bool HO.out.symm, hB5⟩
end Go.Proofs.Ytlfhjlkhhaoicaa
