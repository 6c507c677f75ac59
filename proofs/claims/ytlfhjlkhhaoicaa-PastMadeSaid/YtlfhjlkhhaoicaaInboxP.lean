/- What comes of InboxFull's events, reckoned out. -/
import Derived.Test.YtlfhjlkhhaoicaaDrainQ
namespace Go.Proofs.Ytlfhjlkhhaoicaa
set_option linter.unusedVariables false
set_option linter.unusedSimpArgs false

/-- A Create of 0, by its number. -/
def madeE (n : Int) : Ev := ⟨0, n, ⟨n - 1, 0, 0, 0, 0⟩, n, 1, keyCy, 0, ByteArray.empty⟩
def heldM (k : Nat) : List Ev := (List.range k).map fun i : Nat => madeE (2 + i)
def ck1 (n : Int) : Ck := ⟨n, 0, 0, 0, 0⟩
theorem full1 : ∀ k, k < 16 → drain Ck.zero (heldM k ++ [madeE (2 + k)]) = ([], heldM (k + 1), Ck.zero) := by decide +kernel
theorem full2 : ∀ m, m < 16 → drain Ck.zero (heldM m ++ [madeE (3 + m)]) = ([], heldM m ++ [madeE (3 + m)], Ck.zero) := by decide +kernel
theorem full3 : ∀ m, m < 16 → (drain Ck.zero (heldM m ++ [madeE (3 + m), madeE 1])).1.length = m + 1 ∧ (drain Ck.zero (heldM m ++ [madeE (3 + m), madeE 1])).2 = ([madeE (3 + m)], ck1 (m + 1)) := by decide +kernel
theorem full4 : ∀ m : Nat, m < 16 → drain (ck1 (m + 1)) ([madeE (3 + m)] ++ [madeE 1]) = ([], [madeE (3 + m)], ck1 (m + 1)) := by decide +kernel
theorem full5 : drain Ck.zero ([] ++ [madeE 1]) = ([madeE 1], [], ck1 1) := by decide +kernel
theorem show1 : drain Ck.zero ([] ++ [madeE 2]) = ([], [madeE 2], Ck.zero) := by decide +kernel
theorem show2 : drain Ck.zero ([madeE 2] ++ [madeE 3]) = ([], [madeE 2, madeE 3], Ck.zero) := by decide +kernel
theorem show3 : drain Ck.zero ([madeE 2] ++ [madeE 1]) = ([madeE 1, madeE 2], [], ck1 2) := by decide +kernel
theorem heldM_len (k : Nat) : (heldM k).length = k := by simp [heldM]
end Go.Proofs.Ytlfhjlkhhaoicaa
