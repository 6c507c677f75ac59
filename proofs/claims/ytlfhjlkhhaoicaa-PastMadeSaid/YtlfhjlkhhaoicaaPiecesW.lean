/- Words for the walk of kithlaw13.InboxPieces. -/
import Derived.Test.YtlfhjlkhhaoicaaInboxLoses
import Derived.Test.YtlfhjlkhhaoicaaPieces
import Derived.Test.YtlfhjlkhhaoicaaAppAt
namespace Go.Proofs.Ytlfhjlkhhaoicaa
set_option linter.unusedVariables false
set_option linter.unusedSimpArgs false
open Go.RowKit
attribute [local go_sem] ck_get ck_get? q_le0 q_le1 q_le2 q_le3 q_le4 q_le5 q_lt1 q_lt2 q_lt3 q_lt4 q_lt5
attribute [local go_sem high] eqCk eqMk eqEv

theorem gb_trans {w0 w w' : World} {b : Nat} {row : Option Nat} (h : w0.grownBy w (some b)) (h' : w.grownBy w' row) (hr : ∀ k, row = some k → k = b ∨ w0.heap.size ≤ k) : w0.grownBy w' (some b) :=
  ⟨h'.os.trans h.os, h'.tape.trans h.tape, h'.output.trans h.output, Nat.le_trans h.size h'.size, fun i hi hne => (h'.block i (Nat.lt_of_lt_of_le hi h.size) (fun hc => by
    rcases hr i hc.symm with rfl | hk
    · exact hne rfl
    · omega)).trans (h.block i hi hne)⟩
theorem gb_bel {w0 w w' : World} {b : Nat} (h : w0.grownBy w (some b)) (hb : Below w.heap.size w w') : w0.grownBy w' (some b) := gb_trans h (gb_of hb b) (fun k hk => .inl (by cases hk; rfl))
/-- An inbox whose held events are the slice vl. -/
structure InbV (w : World) (b B0 : Nat) (most : Int) (c : Ck) (l : List Ev) (vl : Value) : Prop where
  blk : blk w b (inb most c vl) 86
  own : evK.own 31 w B0 vl l
section
variable {w w' : World} {b B0 : Nat} {most : Int} {c : Ck} {l : List Ev} {vl : Value}
theorem InbV.at (h : InbV w b B0 most c l vl) : InbAt w b B0 most c l := ⟨vl, h.blk, h.own⟩
theorem InbV.below (h : InbV w b B0 most c l vl) (hb : Below w.heap.size w w') : InbV w' b B0 most c l vl := ⟨h.blk.below hb h.blk.lt, h.own.below hb (Nat.le_refl _)⟩
/-- Two rows that lie apart. -/
def apartV (v v' : Value) : Prop := v.ownBlock = none ∨ v.ownBlock ≠ v'.ownBlock
theorem InbV.app (h : InbV w b B0 most c l vl) {α : Type} {K : Kn α} {e : TypeId} {base : Nat} {v v' : Value} {xs : List α} (ho : K.own e w base v xs) (he : 86 ≠ e) (hg : w.grownBy w' v.ownBlock) (hap : apartV vl v) (hv : v'.ownBlock = v.ownBlock ∨ v'.ownBlock = some w.heap.size) : InbV w' b B0 most c l vl ∧ apartV vl v' := by
  refine ⟨⟨h.blk.grown hg (ho.ne_blk h.blk he), h.own.kept hg (by rcases hap with hx | hx; exact .inr hx; exact .inl hx)⟩, ?_⟩
  rcases hap with hx | hx
  · exact .inl hx
  · rcases hv with hv | hv
    · right; rw [hv]; exact hx
    · cases hvl : vl.ownBlock with
      | none => exact .inl hvl
      | some k =>
        right
        rw [hvl, hv]
        have := h.own.lt_size k hvl
        intro hc
        simp at hc
        omega
end
/-- What Take does, the held row named. -/
def TakeV (b B0 : Nat) (most : Int) (l1 : List Ev) (c : Ck) (vl : Value) (d dl : List Ev) (dn : Ck) (w : World) (e : Ending) (w' : World) : Prop :=
  (dl.length : Int) > most ∧ e = .returned (.tuple #[.slice none 0 0, .int .i64 22]) ∧ InbV w' b B0 most c l1 vl ∧ Below w.heap.size w w' ∨
  ¬ (dl.length : Int) > most ∧ ∃ v vl', e = .returned (.tuple #[v, .int .i64 0]) ∧ evK.own 31 w' w.heap.size v d ∧ InbV w' b B0 most dn dl vl' ∧ evK.own 31 w' w.heap.size vl' dl ∧ w.grownBy w' (some b)
theorem take_v (b B0 : Nat) (most : Int) (c : Ck) (l1 : List Ev) (vl : Value) (A2 : Option Addr) (c2 : Nat) (l2 : List Ev) (w : World) (h : InbV w b B0 most c l1 vl) (hl2 : evK.row w A2 l2) (h1 : l1.length ≤ 40000) (h2 : l2.length ≤ 40000)
    (hm0 : -9223372036854775808 ≤ most) (hm1 : most ≤ 9223372036854775807) (hB : B0 ≤ w.heap.size) :
    Calls Try.prog 29 #[.pointer (some ⟨b, 0, none⟩), .slice A2 l2.length c2] w (TakeV b B0 most l1 c vl (drain c (l1 ++ l2)).1 (drain c (l1 ++ l2)).2.1 (drain c (l1 ++ l2)).2.2 w) := by
  obtain ⟨hb, ho⟩ := h
  obtain ⟨A1, c1, rfl, hr, _⟩ := ho.form
  refine (take_any b most c A1 A2 c1 c2 l1 l2 w hb hr hl2 h1 h2 hm0 hm1).mono fun e w' hp => ?_
  by_cases hg : ((drain c (l1 ++ l2)).2.1.length : Int) > most
  · rw [if_pos hg] at hp
    obtain ⟨he, hbw⟩ := hp
    exact .inl ⟨hg, he, ⟨hb.below hbw hb.lt, ho.below hbw (Nat.le_refl _)⟩, hbw⟩
  · rw [if_neg hg] at hp
    obtain ⟨v, vl', he, h1', h2', h3', h4'⟩ := hp
    exact .inr ⟨hg, v, vl', he, h1', ⟨h3', h2'.mono hB⟩, h2', h4'⟩
theorem apart_new {w w' : World} {B : Nat} {vl v : Value} {l xs : List Ev} {base : Nat} (h : evK.own 31 w' B vl l) (ho : evK.own 31 w base v xs) (hB : w.heap.size ≤ B) : apartV vl v := by
  cases hvl : vl.ownBlock with
  | none => exact .inl hvl
  | some k =>
    right
    rw [hvl]
    intro hc
    have h1 := h.base_le k hvl
    have h2 := ho.lt_size k hc.symm
    omega
/-- Where loop 1 stands. -/
structure PcSt (w4 : World) (p : List Ev) (bx B0 m : Nat) (v11 : Value) (wr : World) (log left : List Ev) (c : Ck) (vl : Value) : Prop where
  hlog : evK.own 31 wr w4.heap.size v11 log
  inb : InbV wr bx B0 m c left vl
  got : Got p log left c
  few : left.length ≤ m
  gb : w4.grownBy wr (some bx)
  apart : apartV vl v11

theorem lose_v {w : World} {b B0 : Nat} {most : Int} {c : Ck} {l : List Ev} {vl : Value} (h : InbV w b B0 most c l vl) :
    Calls Try.prog 34 #[.pointer (some ⟨b, 0, none⟩)] w fun e w' => (∃ r, e = .returned r) ∧ InbV w' b B0 most c [] (.slice none 0 0) ∧ w.grownBy w' (some b) :=
  (inboxLose_any b most c vl w h.blk).mono fun e w' ⟨he, h1, h2⟩ => ⟨he, ⟨h1, Kn.own_nil⟩, h2⟩
/-- The same with events that are not yet in the log. -/
structure PcPre (w4 : World) (p : List Ev) (bx B0 m : Nat) (v11 : Value) (wr : World) (log d left : List Ev) (c : Ck) (vl : Value) : Prop where
  hlog : evK.own 31 wr w4.heap.size v11 log
  inb : InbV wr bx B0 m c left vl
  got : Got p (log ++ d) left c
  few : left.length ≤ m
  gb : w4.grownBy wr (some bx)
  apart : apartV vl v11
section
variable {w4 : World} {p : List Ev} {bx B0 m : Nat} {v11 : Value} {wr w' : World} {log d left : List Ev} {c : Ck} {vl : Value}
theorem PcSt.below (h : PcSt w4 p bx B0 m v11 wr log left c vl) (hb : Below wr.heap.size wr w') : PcSt w4 p bx B0 m v11 w' log left c vl :=
  ⟨h.hlog.below hb (Nat.le_refl _), h.inb.below hb, h.got, h.few, gb_bel h.gb hb, h.apart⟩
theorem PcPre.below (h : PcPre w4 p bx B0 m v11 wr log d left c vl) (hb : Below wr.heap.size wr w') : PcPre w4 p bx B0 m v11 w' log d left c vl :=
  ⟨h.hlog.below hb (Nat.le_refl _), h.inb.below hb, h.got, h.few, gb_bel h.gb hb, h.apart⟩
theorem PcSt.pre (h : PcSt w4 p bx B0 m v11 wr log left c vl) : PcPre w4 p bx B0 m v11 wr log [] left c vl :=
  ⟨h.hlog, h.inb, by rw [List.append_nil]; exact h.got, h.few, h.gb, h.apart⟩
theorem PcSt.took (h : PcSt w4 p bx B0 m v11 wr log left c vl) (hp : Past p) {S : List Ev} (hS : ∀ e ∈ S, e ∈ p) {vl' : Value} (hi : InbV w' bx B0 m (Go.Proofs.Ytlfhjlkhhaoicaa.drain c (left ++ S)).2.2 (Go.Proofs.Ytlfhjlkhhaoicaa.drain c (left ++ S)).2.1 vl')
    (ho : evK.own 31 w' wr.heap.size vl' (Go.Proofs.Ytlfhjlkhhaoicaa.drain c (left ++ S)).2.1) (hg : wr.grownBy w' (some bx)) (hf : ¬ ((Go.Proofs.Ytlfhjlkhhaoicaa.drain c (left ++ S)).2.1.length : Int) > m) :
    PcPre w4 p bx B0 m v11 w' log (Go.Proofs.Ytlfhjlkhhaoicaa.drain c (left ++ S)).1 (Go.Proofs.Ytlfhjlkhhaoicaa.drain c (left ++ S)).2.1 (Go.Proofs.Ytlfhjlkhhaoicaa.drain c (left ++ S)).2.2 vl' :=
  ⟨h.hlog.kept hg (.inl (Ne.symm (h.hlog.ne_blk h.inb.blk (by decide)))), hi,
   h.got.drain hp (fun e he => by rcases List.mem_append.1 he with he | he; exact h.got.leftm e he; exact hS e he), by omega,
   gb_trans h.gb hg (fun k hk => .inl (by cases hk; rfl)), apart_new ho h.hlog (Nat.le_refl _)⟩
theorem PcPre.app (h : PcPre w4 p bx B0 m v11 wr log d left c vl) {v' : Value} (ho : evK.own 31 w' w4.heap.size v' (log ++ d)) (hg : wr.grownBy w' v11.ownBlock) (hv : v'.ownBlock = v11.ownBlock ∨ v'.ownBlock = some wr.heap.size) :
    PcSt w4 p bx B0 m v' w' (log ++ d) left c vl :=
  have hx := h.inb.app h.hlog (by decide) hg h.apart hv
  ⟨ho, hx.1, h.got, h.few, gb_trans h.gb hg (fun k hk => .inr (h.hlog.base_le k hk)), hx.2⟩
theorem PcSt.lose (h : PcSt w4 p bx B0 m v11 wr log left c vl) (hi : InbV w' bx B0 m c [] (.slice none 0 0)) (hg : wr.grownBy w' (some bx)) : PcSt w4 p bx B0 m v11 w' log [] c (.slice none 0 0) :=
  ⟨h.hlog.kept hg (.inl (Ne.symm (h.hlog.ne_blk h.inb.blk (by decide)))), hi, h.got.lose, by simp, gb_trans h.gb hg (fun k hk => .inl (by cases hk; rfl)), .inl rfl⟩
theorem PcSt.logLen (h : PcSt w4 p bx B0 m v11 wr log left c vl) (hp : p.length ≤ 40) : log.length ≤ 40 := Nat.le_trans h.got.len hp
theorem PcPre.logLen (h : PcPre w4 p bx B0 m v11 wr log d left c vl) (hp : p.length ≤ 40) : log.length + d.length ≤ 1000000 := by
  have := h.got.len
  rw [List.length_append] at this
  omega
end

end Go.Proofs.Ytlfhjlkhhaoicaa
