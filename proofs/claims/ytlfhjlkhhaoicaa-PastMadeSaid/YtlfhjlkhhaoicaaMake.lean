/- The walks of the reference's Fit and Make: what replicas make. -/
import Derived.Test.YtlfhjlkhhaoicaaRefA
import Derived.Test.YtlfhjlkhhaoicaaEqs
import Derived.Deep.DrawnRows
import Derived.IntWalk
namespace Go.Proofs.Ytlfhjlkhhaoicaa
set_option linter.unusedVariables false
set_option linter.unusedSimpArgs false
open Go.RowKit
attribute [local go_sem] ck_get ck_get? q_le0 q_le1 q_le2 q_le3 q_le4 q_le5 q_lt1 q_lt2 q_lt3 q_lt4 q_lt5

def keyN : Nat → ByteArray
  | 0 => keyAnn | 1 => keyBob | _ => keyCy
theorem keyN_key (q : Nat) : keyN q = keyAnn ∨ keyN q = keyBob ∨ keyN q = keyCy := by
  match q with
  | 0 => exact .inl rfl
  | 1 => exact .inr (.inl rfl)
  | _ + 2 => exact .inr (.inr rfl)
theorem keyN_get' (q : Nat) (h : q < 3) : [Value.string { data := #[97, 110, 110] }, .string { data := #[98, 111, 98] }, .string { data := #[99, 121] }][q]'h = .string (keyN q) := by
  have : q = 0 ∨ q = 1 ∨ q = 2 := by omega
  rcases this with rfl | rfl | rfl <;> rfl
theorem keyN_get (q : Nat) (h : q < 3) : [Value.string { data := #[97, 110, 110] }, .string { data := #[98, 111, 98] }, .string { data := #[99, 121] }][q]? = some (.string (keyN q)) := by
  have : q = 0 ∨ q = 1 ∨ q = 2 := by omega
  rcases this with rfl | rfl | rfl <;> rfl
def valN : Nat → ByteArray
  | 0 => ⟨#[49]⟩ | 1 => ⟨#[116, 119, 111]⟩ | 2 => ⟨#[0, 255]⟩ | _ => ⟨#[116, 119, 101, 108, 118, 101, 32, 98, 121, 116, 101, 115]⟩
theorem valN_size (q : Nat) : 1 ≤ (valN q).size ∧ (valN q).size ≤ 12 := by
  match q with
  | 0 => decide
  | 1 => decide
  | 2 => decide
  | _ + 3 => exact ⟨by show 1 ≤ 12; decide, by show 12 ≤ 12; decide⟩
theorem valN_get' (q : Nat) (h : q < 4) : [Value.string { data := #[49] }, .string { data := #[116, 119, 111] }, .string { data := #[0, 255] }, .string { data := #[116, 119, 101, 108, 118, 101, 32, 98, 121, 116, 101, 115] }][q]'h = .string (valN q) := by
  have : q = 0 ∨ q = 1 ∨ q = 2 ∨ q = 3 := by omega
  rcases this with rfl | rfl | rfl | rfl <;> rfl
theorem valN_get (q : Nat) (h : q < 4) : [Value.string { data := #[49] }, .string { data := #[116, 119, 111] }, .string { data := #[0, 255] }, .string { data := #[116, 119, 101, 108, 118, 101, 32, 98, 121, 116, 101, 115] }][q]? = some (.string (valN q)) := by
  have : q = 0 ∨ q = 1 ∨ q = 2 ∨ q = 3 := by omega
  rcases this with rfl | rfl | rfl | rfl <;> rfl
theorem tmod5 (k : Int) : -4 ≤ k.tmod 5 ∧ k.tmod 5 ≤ 4 := by
  have h1 := Int.tmod_lt_of_pos k (b := 5) (by omega)
  have h2 := Int.lt_tmod_of_pos k (b := 5) (by omega)
  omega
theorem and1 (x : Int) : 0 ≤ bits .and .i64 x 1 ∧ bits .and .i64 x 1 ≤ 1 := by
  have h : ((BitVec.ofInt 64 x &&& BitVec.ofInt 64 1).toNat) ≤ 1 := by
    rw [BitVec.toNat_and]
    have : (BitVec.ofInt 64 1).toNat = 1 := by decide
    rw [this, Nat.and_one_is_mod]; omega
  have e : bits .and .i64 x 1 = IntKind.i64.wrap ((BitVec.ofInt 64 x &&& BitVec.ofInt 64 1).toNat) := rfl
  rw [e, IntWalk.i64_in _ (by omega)]; omega
attribute [local go_sem] keyN_get' valN_get'
set_option maxRecDepth 100000 in
set_option maxHeartbeats 1000000 in
theorem fit_any (k : Int) (key : ByteArray) (lab : Int) (val : ByteArray) (w : World) (h1 : key.size ≤ 1000000000000000) (h2 : val.size ≤ 1000000000000000) (hk : -9223372036854775808 ≤ k ∧ k ≤ 9223372036854775807) :
    Calls Try.prog 48 #[.agg #[.int .i64 k, .string key, .int .i64 lab, .string val]] w fun e w' => ∃ k' key' lab' val', e = .returned (.agg #[.int .i64 k', .string key', .int .i64 lab', .string val']) ∧ edOk k' key' lab' val' ∧ Below w.heap.size w w' := by
  have hB0 : Below w.heap.size w (w.alloc (Obj.cells #[.int .i64 k, .string key, .int .i64 lab, .string val] 74)) := (Below.refl _ w).alloc (Nat.le_refl _) _
  have kb := blk_new w [.int .i64 k, .string key, .int .i64 lab, .string val] 74
  go_enter Try.func48, Try.ntmps48
  go_wp2
  go_loop [5, 6] (fun v5 v6 => ∃ (i : Nat) (n : Nat), i ≤ key.size ∧ n ≤ 255 * i ∧ v6 = .int .i64 i ∧ v5 = .int .i64 n) (fun _ v6 => key.size - (intOf v6).toNat)
  case atStart => exact ⟨0, 0, by omega, by omega, rfl, rfl⟩
  case round =>
    obtain ⟨i, n, hi, hn, rfl, rfl⟩ := hrel
    by_cases hlt : i < key.size
    · have hc : ((key[i]'hlt).toNat : Int) ≤ 255 := by have := (key[i]'hlt).toNat_lt; omega
      go_wp2
      go_round
      case rel => exact ⟨i + 1, n + (key[i]'hlt).toNat, by omega, by omega, by go_num, by go_num⟩
      case measure => simp [intOf]; omega
    · go_wp2
      go_loop [7, 8] (fun v7 v8 => ∃ (j : Nat) (m : Nat), j ≤ val.size ∧ m ≤ 255 * j ∧ v8 = .int .i64 j ∧ v7 = .int .i64 m) (fun _ v8 => val.size - (intOf v8).toNat)
      case atStart => exact ⟨0, 0, by omega, by omega, rfl, rfl⟩
      case round =>
        obtain ⟨j, m, hj, hm, rfl, rfl⟩ := hrel
        by_cases hlt2 : j < val.size
        · have hc : ((val[j]'hlt2).toNat : Int) ≤ 255 := by have := (val[j]'hlt2).toNat_lt; omega
          go_wp2
          go_round
          case rel => exact ⟨j + 1, m + (val[j]'hlt2).toNat, by omega, by omega, by go_num, by go_num⟩
          case measure => simp [intOf]; omega
        · obtain ⟨t5, ht5, t50, t51⟩ : ∃ t : Int, k.tmod 5 = t ∧ -4 ≤ t ∧ t ≤ 4 := ⟨k.tmod 5, rfl, (tmod5 k).1, (tmod5 k).2⟩
          obtain ⟨u5, hu5, u50, u51⟩ : ∃ u : Int, (t5 + 5) % 5 = u ∧ 0 ≤ u ∧ u ≤ 4 := ⟨(t5 + 5) % 5, rfl, by omega, by omega⟩
          have hu5' : (t5 + 5).tmod 5 = u5 := by rw [Int.tmod_eq_emod_of_nonneg (by omega)]; exact hu5
          have hs1 : IntKind.i64.wrap (t5 + 5) = t5 + 5 := IntWalk.i64_in _ (by omega)
          have hs2 : IntKind.i64.wrap (1 + u5) = 1 + u5 := IntWalk.i64_in _ (by omega)
          obtain ⟨q3, hq3, hq3l⟩ : ∃ q : Nat, n % 3 = q ∧ q < 3 := ⟨n % 3, rfl, by omega⟩
          have hq3i : (n : Int) % 3 = q3 := by omega
          have hq3t : (n : Int).tmod 3 = q3 := by rw [Int.tmod_eq_emod_of_nonneg (by omega)]; exact hq3i
          obtain ⟨q4, hq4, hq4l⟩ : ∃ q : Nat, m % 4 = q ∧ q < 4 := ⟨m % 4, rfl, by omega⟩
          have hq4i : (m : Int) % 4 = q4 := by omega
          have hq4t : (m : Int).tmod 4 = q4 := by rw [Int.tmod_eq_emod_of_nonneg (by omega)]; exact hq4i
          have z3 : (0 : Int) ≤ (q3 : Int) := by omega
          have z3' : (q3 : Int) < 3 := by omega
          have z4 : (0 : Int) ≤ (q4 : Int) := by omega
          have z4' : (q4 : Int) < 4 := by omega
          have g3 := keyN_get q3 hq3l
          have g4 := valN_get q4 hq4l
          by_cases hkl : 1 + u5 ≤ 2
          · go_wp2
            go_region
            all_goals go_wp2
            refine bodyPost_ret (v := .agg #[.int .i64 (1 + u5), .string (keyN q3), .int .i64 0, .string ByteArray.empty]) (by simp [results, Try.results48, go_sem]; rfl) rfl ⟨_, _, _, _, rfl, ⟨by omega, by omega, keyN_key q3, fun _ => ⟨rfl, rfl⟩, fun h => by omega⟩, ?_⟩
            exact (((((hB0.alloc (by simp) _).alloc (by first | omega | (simp; done) | (simp; omega)) _).alloc (by first | omega | (simp; done) | (simp; omega)) _).alloc (by first | omega | (simp; done) | (simp; omega)) _).drew)
          · go_wp2
            go_region
            all_goals go_wp2
            refine bodyPost_ret (v := .agg #[.int .i64 (1 + u5), .string (keyN q3), .int .i64 (bits .and .i64 lab 1), .string (valN q4)]) (by simp [results, Try.results48, go_sem]) rfl ⟨_, _, _, _, rfl, ⟨by omega, by omega, keyN_key q3, fun h => by omega, fun _ => ⟨and1 lab, valN_size q4⟩⟩, ?_⟩
            exact (((((hB0.alloc (by simp) _).alloc (by first | omega | (simp; done) | (simp; omega)) _).alloc (by first | omega | (simp; done) | (simp; omega)) _).alloc (by first | omega | (simp; done) | (simp; omega)) _).drew)
end Go.Proofs.Ytlfhjlkhhaoicaa
