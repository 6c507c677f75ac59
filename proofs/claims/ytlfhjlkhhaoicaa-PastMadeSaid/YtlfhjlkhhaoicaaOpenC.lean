/- How the laws' arguments read: choices (with how long their texts can be), bytes, rows of bytes, two bytes. -/
import Derived.Test.YtlfhjlkhhaoicaaMadeL
import Derived.Test.YtlfhjlkhhaoicaaOpen
import Derived.SizedLaws
namespace Go.Proofs.Ytlfhjlkhhaoicaa
set_option linter.unusedVariables false
set_option linter.unusedSimpArgs false
open Go.RowKit Go.ChangeShapes Go.WideShapes Go.Deep

section
variable {H : Type} {enc : TypeId × Value → H} {w : World} {fuel : Nat} {cs : List Value} {x : DataW H × List MemPlace}
/-- Each string, slice, map of a datum is within the reach. -/
def small (t : TypeId) (d : DataW H) : Prop := ∀ n ∈ d.weights Try.prog t, n ≤ reachBytes
theorem small_of {ts : List TypeId} {ds : List (DataW H)} (h : (DataW.weightsEach Try.prog ts ds).all (· ≤ reachBytes) = true) {j : Nat} {t : TypeId} {d : DataW H} (ht : ts[j]? = some t) (hd : ds[j]? = some d) : small t d := fun n hn => by
  have := List.all_eq_true.1 h n (DataW.weights_mem_each ht hd n hn)
  simpa using this
theorem weights_mem_all {P : Program} {e : TypeId} {n : Nat} : ∀ {ds : List (DataW H)} {d : DataW H}, d ∈ ds → n ∈ d.weights P e → n ∈ DataW.weightsAll P e ds
  | d0 :: ds, d, hd, hn => by
    simp only [DataW.weightsAll, List.mem_append]
    rcases List.mem_cons.1 hd with rfl | hd
    · exact .inl hn
    · exact .inr (weights_mem_all hd hn)
theorem small_elem {t e : TypeId} {elems spare : List (DataW H)} (hu : Try.prog.underlying t = some (.slice e)) (h : small t (.slice elems spare)) {d : DataW H} (hd : d ∈ elems) : small e d := fun n hn => h n (by
  simp only [DataW.weights, hu, List.mem_cons, List.mem_append]
  exact .inr (.inl (weights_mem_all hd hn)))
theorem small_part {t : TypeId} {fs : Array Field} {parts : List (DataW H)} (hu : Try.prog.underlying t = some (.struct fs)) (h : small t (.agg parts)) {j : Nat} {f : Field} {d : DataW H} (hf : fs[j]? = some f) (hd : parts[j]? = some d) : small f.type d := fun n hn => h n (by
  simp only [DataW.weights, hu]
  exact DataW.weights_mem_each (j := j) (by rw [List.getElem?_map, Array.getElem?_toList, hf]; rfl) hd n hn)
/-- A slice whose elements read one by one, each within the reach. -/
theorem rd_rowW {α : Type} [Inhabited α] (K : Kn α) (Wf : α → Prop) {t e : TypeId} (ht : Try.prog.underlying t = some (.slice e)) (hC : Try.prog.cellsOf e = K.sz)
    (hdec : ∀ (n : Nat) (cs : List Value) (x : DataW H × List MemPlace), rd enc w n e cs = some x → small e x.1 → ∃ y : α, cs = K.enc y ∧ Wf y) (h : rd enc w fuel t cs = some x) (hz : small t x.1) :
    ∃ (A : Option Addr) (cap : Nat) (l : List α), cs = [.slice A l.length cap] ∧ l.length ≤ cap ∧ cap ≤ maxLen ∧ K.row w A l ∧ ∀ y ∈ l, Wf y := by
  rcases open_slice ht h with ⟨rfl, _⟩ | ⟨a, len, cap, m, n, D, Pl, rfl, _, hlc, hcm, hm, hxx, hi⟩
  · exact ⟨none, 0, [], rfl, by simp, by unfold maxLen; omega, .inl rfl, fun _ h => by simp at h⟩
  · have hlm : len ≤ m := by rw [hm]; split <;> omega
    rw [hxx] at hz
    have hget : ∀ i, ∃ y : α, i < len → (∀ (j : Nat) (u : Value), (K.enc y)[j]? = some u → w.cell? ((a.add (i * K.sz)).add j) = some u) ∧ Wf y := fun i => by
      by_cases hl : i < len
      · obtain ⟨cs', hc, ht'⟩ := hi i (by omega)
        rw [hC] at hc
        obtain ⟨_, hcl, hat⟩ := World.cells?_some hc
        obtain ⟨y, rfl, hy⟩ := hdec _ _ _ ht' (small_elem ht hz (List.mem_map.2 ⟨i, List.mem_range.2 hl, rfl⟩))
        refine ⟨y, fun _ => ⟨fun j u hu => ?_, hy⟩⟩
        rw [hat j (by have := (List.getElem?_eq_some_iff.1 hu).1; omega), hu]
      · exact ⟨default, fun h => absurd h hl⟩
    let f : Nat → α := fun i => Classical.choose (hget i)
    have hf : ∀ i, i < len → (∀ (j : Nat) (u : Value), (K.enc (f i))[j]? = some u → w.cell? ((a.add (i * K.sz)).add j) = some u) ∧ Wf (f i) := fun i => Classical.choose_spec (hget i)
    have hl : ((List.range len).map f).length = len := by simp
    refine ⟨some a, cap, (List.range len).map f, by rw [hl], by rw [hl]; exact hlc, hcm, ?_, fun y hy => ?_⟩
    · by_cases h0 : len = 0
      · left; subst h0; rfl
      · right
        obtain ⟨b, off, spot⟩ := a
        have hp := K.pos
        have hl0 := K.len (f 0)
        have hc0 := (hf 0 (by omega)).1 0 _ (List.getElem?_eq_getElem (by omega))
        have hsp : spot = none := by simpa [Addr.add] using World.cell?_spot hc0
        subst hsp
        refine ⟨b, off, rfl, ?_, fun k y hk j u hu => ?_⟩
        · have := World.block_lt_of_cell? w _ hc0
          simpa [Addr.add] using this
        · have hkl : k < len := by have := (List.getElem?_eq_some_iff.1 hk).1; rwa [hl] at this
          have hy : y = f k := by simp [hkl] at hk; exact hk.symm
          subst hy
          have := (hf k hkl).1 j u hu
          rw [add_add] at this
          unfold Addr.add at this
          split at this
          · rename_i h00
            rw [show off + k * K.sz + j = off from by omega]
            exact this
          · rw [Nat.add_assoc]
            exact this
    · obtain ⟨i, hi', rfl⟩ := List.mem_map.1 hy
      exact (hf i (by simpa using hi')).2
theorem rd_stringW (h : rd enc w fuel 9 cs = some x) (hz : small 9 x.1) : ∃ s : ByteArray, cs = [.string s] ∧ s.size ≤ 1000000000000000 := by
  obtain ⟨s, h1, h2, _⟩ := DataW.trod_string Try.underlying9 h
  refine ⟨s, h1, ?_⟩
  rw [h2] at hz
  dsimp only at hz
  have := hz s.data.toList.length (by rw [DataW.weights]; exact List.mem_singleton.2 rfl)
  have e : s.data.toList.length = s.size := Array.length_toList
  rw [e] at this
  have hr := reachBytes_lt
  omega
theorem rd_byte (h : rd enc w fuel 5 cs = some x) : ∃ n : Int, cs = [.int .u8 n] ∧ 0 ≤ n ∧ n ≤ 255 := by
  obtain ⟨n, h1, _, hw⟩ := DataW.trod_int Try.underlying5 h
  simp [Lit.wf, IntKind.min, IntKind.max, IntKind.signed, IntKind.bits] at hw
  exact ⟨n, h1, by omega, by omega⟩
theorem rd_bool (h : rd enc w fuel 4 cs = some x) : ∃ b : Bool, cs = [.bool b] := by
  obtain ⟨b, h1, _⟩ := DataW.trod_bool Try.underlying4 h
  exact ⟨b, h1⟩
set_option maxRecDepth 100000 in
theorem rd_ch (h : rd enc w fuel 76 cs = some x) (hz : small 76 x.1) : ∃ e : Ch, cs = chK.enc e ∧ e.wf := by
  obtain ⟨xs, m, _, hxx, hl, hn, hx⟩ := DataW.trod_struct (P := Try.prog) Try.underlying76 h
  have hC : Try.prog.cellsOf 76 = 7 := by kernel_rfl
  have hI : Try.prog.cellsOf 3 = 1 := by kernel_rfl
  have hS : Try.prog.cellsOf 9 = 1 := by kernel_rfl
  have hU : Try.prog.cellsOf 5 = 1 := by kernel_rfl
  have hO : Try.prog.cellsOf 4 = 1 := by kernel_rfl
  have hE : Try.prog.cellsOf 74 = 4 := by kernel_rfl
  rw [hC] at hl
  rw [hxx] at hz
  match cs, hl, xs, hn with
  | [c0, c1, c2, c3, c4, c5, c6], _, [y0, y1, y2, y3], _ =>
    have g0 := hx 0 { name := "R", type := 5, offset := 0, embedded := false, tag := "", pkgPath := "", byteOffset := 0 } rfl
    have g1 := hx 1 { name := "From", type := 5, offset := 1, embedded := false, tag := "", pkgPath := "", byteOffset := 1 } rfl
    have g2 := hx 2 { name := "Sync", type := 4, offset := 2, embedded := false, tag := "", pkgPath := "", byteOffset := 2 } rfl
    have g3 := hx 3 { name := "Edit", type := 74, offset := 3, embedded := false, tag := "", pkgPath := "", byteOffset := 8 } rfl
    have z3 := small_part Try.underlying76 hz (j := 3) (f := { name := "Edit", type := 74, offset := 3, embedded := false, tag := "", pkgPath := "", byteOffset := 8 }) rfl rfl
    dsimp only at g0 g1 g2 g3 z3
    rw [hU] at g0 g1
    rw [hO] at g2
    rw [hE] at g3
    obtain ⟨n0, e0, w0⟩ := rd_byte g0
    obtain ⟨n1, e1, w1⟩ := rd_byte g1
    obtain ⟨b2, e2⟩ := rd_bool g2
    simp at e0 e1 e2
    obtain ⟨xs', m', _, hxx', hl', hn', hx'⟩ := DataW.trod_struct (P := Try.prog) Try.underlying74 g3
    rw [hxx'] at z3
    match xs', hn' with
    | [v0, v1, v2, v3], _ =>
      have k0 := hx' 0 { name := "Kind", type := 3, offset := 0, embedded := false, tag := "", pkgPath := "", byteOffset := 0 } rfl
      have k1 := hx' 1 { name := "Key", type := 9, offset := 1, embedded := false, tag := "", pkgPath := "", byteOffset := 8 } rfl
      have k2 := hx' 2 { name := "Label", type := 3, offset := 2, embedded := false, tag := "", pkgPath := "", byteOffset := 24 } rfl
      have k3 := hx' 3 { name := "Value", type := 9, offset := 3, embedded := false, tag := "", pkgPath := "", byteOffset := 32 } rfl
      have zk := small_part Try.underlying74 z3 (j := 1) (f := { name := "Key", type := 9, offset := 1, embedded := false, tag := "", pkgPath := "", byteOffset := 8 }) rfl rfl
      have zv := small_part Try.underlying74 z3 (j := 3) (f := { name := "Value", type := 9, offset := 3, embedded := false, tag := "", pkgPath := "", byteOffset := 32 }) rfl rfl
      dsimp only at k0 k1 k2 k3 zk zv
      rw [hI] at k0 k2
      rw [hS] at k1 k3
      obtain ⟨n3, e3, w3⟩ := rd_int k0
      obtain ⟨s4, e4, w4⟩ := rd_stringW k1 zk
      obtain ⟨n5, e5, w5⟩ := rd_int k2
      obtain ⟨s6, e6, w6⟩ := rd_stringW k3 zv
      simp at e3 e4 e5 e6
      subst e0 e1 e2 e3 e4 e5 e6
      exact ⟨⟨n0, n1, b2, n3, s4, n5, s6⟩, rfl, ⟨w0, w1, w3, w4, w6⟩⟩
/-- A slice of choices that comes. -/
theorem arg_chs {v : Value} {d : DataW H} {ps : List MemPlace} (hv : ∃ a len cap, v = .slice a len cap) (h : DataW.Trod enc Try.prog w 0 (fun _ => true) true 35 v d ps) (hz : small 35 d) :
    ∃ (A : Option Addr) (cap : Nat) (l : List Ch), v = .slice A l.length cap ∧ l.length ≤ cap ∧ cap ≤ maxLen ∧ chK.row w A l ∧ ∀ y ∈ l, y.wf := by
  obtain ⟨a, len, cp, rfl⟩ := hv
  obtain ⟨fuel, hf⟩ := h
  obtain ⟨A, cap, l, hcs, h⟩ := rd_rowW chK Ch.wf Try.underlying35 (by kernel_rfl) (fun _ _ _ h hz => rd_ch h hz) hf hz
  simp [Value.cells] at hcs
  obtain ⟨rfl, rfl, rfl⟩ := hcs
  exact ⟨_, _, l, rfl, h⟩
def byK : Kn Nat := ⟨fun n => [.int .u8 n], 1, fun _ => rfl, by decide, fun x u hu => by simp at hu; subst hu; rfl⟩
theorem byAt_get {w : World} {b off : Nat} {l : List Nat} (h : byK.at w b off l) {k : Nat} {e : Nat} (he : l[k]? = some e) : w.cell? ⟨b, off + k, none⟩ = some (.int .u8 e) := by
  have g := h k e he 0 _ rfl
  simpa [byK] using g
theorem arg_bys {v : Value} {d : DataW H} {ps : List MemPlace} (hv : ∃ a len cap, v = .slice a len cap) (h : DataW.Trod enc Try.prog w 0 (fun _ => true) true 50 v d ps) :
    ∃ (A : Option Addr) (cap : Nat) (l : List Nat), v = .slice A l.length cap ∧ l.length ≤ cap ∧ cap ≤ maxLen ∧ byK.row w A l ∧ ∀ y ∈ l, y ≤ 255 := by
  obtain ⟨a, len, cp, rfl⟩ := hv
  obtain ⟨fuel, hf⟩ := h
  obtain ⟨A, cap, l, hcs, h⟩ := rd_row byK (fun n => n ≤ 255) Try.underlying50 (by kernel_rfl) (fun _ _ _ h => by obtain ⟨n, e, h0, h1⟩ := rd_byte h; exact ⟨n.toNat, by rw [e]; show _ = [Value.int .u8 (n.toNat : Nat)]; rw [Int.toNat_of_nonneg h0], by omega⟩) hf
  simp [Value.cells] at hcs
  obtain ⟨rfl, rfl, rfl⟩ := hcs
  exact ⟨_, _, l, rfl, h⟩
theorem arg_byte {v : Value} {d : DataW H} {ps : List MemPlace} (hv : ∃ n, v = .int .u8 n) (h : DataW.Trod enc Try.prog w 0 (fun _ => true) true 5 v d ps) : ∃ n : Nat, v = .int .u8 n ∧ n ≤ 255 := by
  obtain ⟨n, rfl⟩ := hv
  obtain ⟨fuel, hf⟩ := h
  obtain ⟨m, hm, h0, h1⟩ := rd_byte hf
  simp [Value.cells] at hm
  subst hm
  exact ⟨n.toNat, by rw [Int.toNat_of_nonneg h0], by omega⟩
theorem arg_u16 {v : Value} {d : DataW H} {ps : List MemPlace} (hv : ∃ n, v = .int .u16 n) (h : DataW.Trod enc Try.prog w 0 (fun _ => true) true 52 v d ps) : ∃ n : Nat, v = .int .u16 n ∧ n ≤ 65535 := by
  obtain ⟨n, rfl⟩ := hv
  obtain ⟨fuel, hf⟩ := h
  obtain ⟨m, hm, _, hw⟩ := DataW.trod_int Try.underlying52 hf
  simp [Value.cells] at hm
  subst hm
  simp [Lit.wf, IntKind.min, IntKind.max, IntKind.signed, IntKind.bits] at hw
  exact ⟨n.toNat, by rw [Int.toNat_of_nonneg hw.1], by omega⟩
theorem arg_by2 {v : Value} {d : DataW H} {ps : List MemPlace} (hv : ∃ cs, v = .agg cs) (h : DataW.Trod enc Try.prog w 0 (fun _ => true) true 64 v d ps) : ∃ x y : Nat, v = .agg #[.int .u8 x, .int .u8 y] ∧ x ≤ 255 ∧ y ≤ 255 := by
  obtain ⟨cs, rfl⟩ := hv
  obtain ⟨fuel, hf⟩ := h
  obtain ⟨xs, m, _, _, hl, hn, hx⟩ := DataW.trod_array (P := Try.prog) Try.underlying64 hf
  have hC : Try.prog.cellsOf 64 = 2 := by kernel_rfl
  have hI : Try.prog.cellsOf 5 = 1 := by kernel_rfl
  rw [hC] at hl
  rw [hI] at hx
  obtain ⟨l⟩ := cs
  simp only [Value.cells] at hl hx
  match l, hl, xs, hn with
  | [c0, c1], _, [y0, y1], _ =>
    obtain ⟨n0, e0, w0, w0'⟩ := rd_byte (hx 0 (by omega))
    obtain ⟨n1, e1, w1, w1'⟩ := rd_byte (hx 1 (by omega))
    simp at e0 e1
    subst e0 e1
    exact ⟨n0.toNat, n1.toNat, by rw [Int.toNat_of_nonneg w0, Int.toNat_of_nonneg w1], by omega, by omega⟩
end
end Go.Proofs.Ytlfhjlkhhaoicaa
