/- Plain: octal digits. -/
import Derived.Test.YtiehjmjobcklmaaDoorTp0
namespace Go.Proofs.YtiehjmjobcklmaaDoor
open Go.RowKit
namespace Tp
/-- octal digits, k of them -/
def octs : Nat → Nat → Bs
  | _, 0 => []
  | n, k + 1 => octs (n / 8) k ++ [UInt8.ofNat (48 + n % 8)]
theorem octs_len : ∀ (k n : Nat), (octs n k).length = k
  | 0, _ => rfl
  | k + 1, n => by rw [octs, List.length_append, octs_len k]; rfl
theorem octDigit (n : Nat) : (UInt8.ofNat (48 + n % 8)).toNat = 48 + n % 8 := by
  rw [UInt8.toNat_ofNat']; omega
theorem octs_mem : ∀ (k n : Nat) (c : UInt8), c ∈ octs n k → 48 ≤ c.toNat ∧ c.toNat ≤ 55
  | 0, _, c, h => by simp [octs] at h
  | k + 1, n, c, h => by
    rw [octs, List.mem_append, List.mem_singleton] at h
    rcases h with h | rfl
    · exact octs_mem k _ c h
    · rw [octDigit]; omega
theorem octLoop_octs : ∀ (k n acc : Nat) (r : Bs), acc * 8 ^ k + n % 8 ^ k ≤ 1099511627776 → octLoop acc (octs n k ++ r) = octLoop (acc * 8 ^ k + n % 8 ^ k) r
  | 0, n, acc, r, _ => by simp [octs, Nat.mod_one]
  | k + 1, n, acc, r, h => by
    have e : acc * 8 ^ (k + 1) + n % 8 ^ (k + 1) = 8 * (acc * 8 ^ k + n / 8 % 8 ^ k) + n % 8 := by
      rw [Nat.pow_succ, Nat.mul_comm (8 ^ k) 8, Nat.mod_mul, Nat.mul_add, ← Nat.mul_assoc, Nat.mul_comm acc 8, Nat.mul_assoc]; omega
    rw [e] at h ⊢
    rw [octs, List.append_assoc, octLoop_octs k _ _ _ (by omega), List.singleton_append, octLoop, octDigit, if_pos (by omega), if_neg (by omega)]
    congr 1
    omega
theorem number_octs {n k : Nat} (hk : 0 < k) (hn : n < 8 ^ k) (h40 : n ≤ 1099511627776) {r : Bs} (hr : blank (0 :: r) = true) : number (octs n k ++ 0 :: r) = some n := by
  rcases ho : octs n k with _ | ⟨c, l⟩
  · have := octs_len k n; rw [ho] at this; simp at this; omega
  · have hc := octs_mem k n c (by rw [ho]; simp)
    have hne : (c == 32) = false := by
      rw [beq_eq_false_iff_ne]; rintro rfl; exact absurd hc.1 (by decide)
    rw [List.cons_append, number, if_neg (by omega), List.dropWhile_cons, hne]
    simp only [Bool.false_eq_true, if_false]
    rw [← List.cons_append, ← ho, octLoop_octs k n 0 _ (by rw [Nat.mod_eq_of_lt hn]; omega), Nat.mod_eq_of_lt hn, Nat.zero_mul, Nat.zero_add, octLoop, if_neg (by decide), if_pos hr]
/-- a text laid over a list -/
def layB (L : Bs) (p n : Nat) (s : Bs) : Bs := L.take p ++ s.take n ++ L.drop (p + min n s.length)
theorem layB_len {L s : Bs} {p n : Nat} (h : p + n ≤ L.length) : (layB L p n s).length = L.length := by simp [layB]; omega
end Tp
end Go.Proofs.YtiehjmjobcklmaaDoor
