/- Walks: numbers of the archive's heads (tape.decimal, ferretref06.digits). -/
import Derived.Test.YtiehjmjobcklmaaDoorRows
import Derived.Test.YtiehjmjobcklmaaDoorTp0
import Derived.Test.YtiehjmjobcklmaaDoorTpK
import Derived.WalkKit
import Derived.WalkSpells
import Derived.WalkLawsBesides
import Derived.Lib.Hide
import Derived.Deep.LoopGhost
namespace Go.Proofs.YtiehjmjobcklmaaDoor
open Go.RowKit
namespace Tp

theorem ret_int {k : IntKind} {a b : Int} (h : a = b) : Ending.returned (.int k a) = .returned (.int k b) := by rw [h]
def numRes (o : Option Nat) : Value := .tuple #[.int .i64 ((o.getD 0 : Nat) : Int), .bool o.isSome]
theorem numRes_none {o : Option Nat} (h : o = none) : Ending.returned (.tuple #[.int .i64 0, .bool false]) = .returned (numRes o) := by subst h; rfl
theorem numRes_some {o : Option Nat} {n : Nat} {x : Int} (h : o = some n) (hx : x = n) : Ending.returned (.tuple #[.int .i64 x, .bool true]) = .returned (numRes o) := by subst h; subst hx; rfl

theorem digLoop_step {n : Nat} {s : ByteArray} {k : Nat} (h : k < s.size) (h1 : (48 : Int) ≤ (s[k].toNat : Int)) (h2 : (s[k].toNat : Int) ≤ 57) :
    digLoop n ((bl s).drop k) = digLoop (10 * n + (s[k].toNat - 48)) ((bl s).drop (k + 1)) := by
  rw [bl_drop s k h, digLoop, if_neg (by omega)]
theorem digLoop_bad {n : Nat} {s : ByteArray} {k : Nat} (h : k < s.size) (h1 : (s[k].toNat : Int) < 48 ∨ 57 < (s[k].toNat : Int)) :
    digLoop n ((bl s).drop k) = none := by
  rw [bl_drop s k h, digLoop, if_pos (by omega)]

set_option maxHeartbeats 400000 in
theorem decimal_any (s : ByteArray) (most : Nat) (w : World) (_hs : s.size ≤ 16777216) (hm : most ≤ 12) :
    Calls Tryd.prog 37 #[.string s, .int .i64 most] w fun e w' => e = .returned (numRes (digits (bl s) most)) ∧ w = w' := by
  have hl := bl_length s
  by_cases hc : s.size < 1 ∨ most < s.size
  · have H := Lib.hid (show digits (bl s) most = none by rw [digits, hl, if_pos hc])
    have hl' := Lib.hid hl; clear hl
    rcases hc with hc | hc
    · go_enter Tryd.func37, Tryd.ntmps37
      go_wp2
      go_ret2
      exact ⟨numRes_none H.out, rfl⟩
    · have h0 : 1 ≤ s.size := by omega
      go_enter Tryd.func37, Tryd.ntmps37
      go_wp2
      go_ret2
      exact ⟨numRes_none H.out, rfl⟩
  · have hlo : 1 ≤ s.size := by omega
    have hhi : s.size ≤ most := by omega
    have H := Lib.hid (show digits (bl s) most = digLoop 0 ((bl s).drop 0) by rw [digits, hl, if_neg hc, List.drop_zero])
    clear hc hl
    have b1 : decide ((s.size : Int) < 1) = false := decide_eq_false (by omega)
    have b2 : decide (most < s.size) = false := decide_eq_false (by omega)
    go_enter Tryd.func37, Tryd.ntmps37
    go_wp2
    go_loopg [6, 7, 19] s.size (fun g n _ j wr => ∃ k m : Nat, k ≤ s.size ∧ g = s.size - k ∧ m < 10 ^ k ∧ j = .int .i64 k ∧ n = .int .i64 m ∧ digits (bl s) most = digLoop m ((bl s).drop k) ∧ w = wr)
    case atStart => exact ⟨0, 0, Nat.zero_le _, rfl, by simp, rfl, rfl, H.out, rfl⟩
    case round =>
      clear H
      obtain ⟨k, m, hk, hg, hm', rfl, rfl, hd, rfl⟩ := hrel
      have hmb : m < 1000000000000 := Nat.lt_of_lt_of_le hm' (Nat.le_trans (Nat.pow_le_pow_right (by omega) (show k ≤ 12 by omega)) (by decide))
      have H := Lib.hid hd; clear hd
      have HM := Lib.hid hm'; clear hm'
      have HG := Lib.hid hg; clear hg
      go_wp2
      · go_ret2
        have hlt : k < s.size := by assumption
        have hb : ((s[k].toNat : Int) < 48 ∨ 57 < (s[k].toNat : Int)) := by omega
        exact ⟨numRes_none (H.out.trans (digLoop_bad hlt hb)), rfl⟩
      · have hlt : k < s.size := by assumption
        have h1 : (48 : Int) ≤ (s[k].toNat : Int) := by omega
        have h2 : (s[k].toNat : Int) ≤ 57 := by omega
        go_roundg (s.size - (k + 1))
        case rel =>
          refine ⟨k + 1, 10 * m + (s[k].toNat - 48), by omega, rfl, ?_, by go_num, by go_num, H.out.trans (digLoop_step hlt h1 h2), rfl⟩
          have := HM.out
          rw [Nat.pow_succ]; omega
        case measure => have := HG.out; omega
      · go_ret2
        have hlt : k < s.size := by assumption
        have hb : ((s[k].toNat : Int) < 48 ∨ 57 < (s[k].toNat : Int)) := by omega
        exact ⟨numRes_none (H.out.trans (digLoop_bad hlt hb)), rfl⟩
      · go_ret2
        refine ⟨numRes_some (H.out.trans (by rw [bl_drop_end s k (by omega), digLoop])) rfl, rfl⟩

set_option maxHeartbeats 400000 in
theorem digits_any (s : ByteArray) (most : Nat) (w : World) (_hs : s.size ≤ 16777216) (hm : most ≤ 12) :
    Calls Tryd.prog 16 #[.string s, .int .i64 most] w fun e w' => e = .returned (numRes (digits (bl s) most)) ∧ w = w' := by
  have hl := bl_length s
  by_cases hc : s.size < 1 ∨ most < s.size
  · have H := Lib.hid (show digits (bl s) most = none by rw [digits, hl, if_pos hc])
    have hl' := Lib.hid hl; clear hl
    rcases hc with hc | hc
    · have hz : ((s.size : Int) == 0) = true := beq_iff_eq.2 (by omega)
      go_enter Tryd.func16, Tryd.ntmps16
      go_wp2
      go_ret2
      exact ⟨numRes_none H.out, rfl⟩
    · have hz : ((s.size : Int) == 0) = false := beq_eq_false_iff_ne.2 (by omega)
      go_enter Tryd.func16, Tryd.ntmps16
      go_wp2
      go_ret2
      exact ⟨numRes_none H.out, rfl⟩
  · have hlo : 1 ≤ s.size := by omega
    have hhi : s.size ≤ most := by omega
    have H := Lib.hid (show digits (bl s) most = digLoop 0 ((bl s).drop 0) by rw [digits, hl, if_neg hc, List.drop_zero])
    clear hc hl
    have hz : ((s.size : Int) == 0) = false := beq_eq_false_iff_ne.2 (by omega)
    have b2 : decide (most < s.size) = false := decide_eq_false (by omega)
    go_enter Tryd.func16, Tryd.ntmps16
    go_wp2
    go_loopg [6, 7] s.size (fun g n j wr => ∃ k m : Nat, k ≤ s.size ∧ g = s.size - k ∧ m < 10 ^ k ∧ j = .int .i64 k ∧ n = .int .i64 m ∧ digits (bl s) most = digLoop m ((bl s).drop k) ∧ w = wr)
    case atStart => exact ⟨0, 0, Nat.zero_le _, rfl, by simp, rfl, rfl, H.out, rfl⟩
    case round =>
      clear H
      obtain ⟨k, m, hk, hg, hm', rfl, rfl, hd, rfl⟩ := hrel
      have hmb : m < 1000000000000 := Nat.lt_of_lt_of_le hm' (Nat.le_trans (Nat.pow_le_pow_right (by omega) (show k ≤ 12 by omega)) (by decide))
      have H := Lib.hid hd; clear hd
      have HM := Lib.hid hm'; clear hm'
      have HG := Lib.hid hg; clear hg
      go_wp2
      · go_ret2
        have hlt : k < s.size := by assumption
        have hb : ((s[k].toNat : Int) < 48 ∨ 57 < (s[k].toNat : Int)) := by omega
        exact ⟨numRes_none (H.out.trans (digLoop_bad hlt hb)), rfl⟩
      · have hlt : k < s.size := by assumption
        have h1 : (48 : Int) ≤ (s[k].toNat : Int) := by omega
        have h2 : (s[k].toNat : Int) ≤ 57 := by omega
        go_roundg (s.size - (k + 1))
        case rel =>
          refine ⟨k + 1, 10 * m + (s[k].toNat - 48), by omega, rfl, ?_, by go_num, by go_num, H.out.trans (digLoop_step hlt h1 h2), rfl⟩
          have := HM.out
          rw [Nat.pow_succ]; omega
        case measure => have := HG.out; omega
      · go_ret2
        have hlt : k < s.size := by assumption
        have hb : ((s[k].toNat : Int) < 48 ∨ 57 < (s[k].toNat : Int)) := by omega
        exact ⟨numRes_none (H.out.trans (digLoop_bad hlt hb)), rfl⟩
      · go_ret2
        refine ⟨numRes_some (H.out.trans (by rw [bl_drop_end s k (by omega), digLoop])) rfl, rfl⟩

/-- what upto and the first part of Cut at one byte give -/
def Upto (s : ByteArray) (c : UInt8) (w : World) (e : Ending) (w' : World) : Prop :=
  ∃ r : ByteArray, e = .returned (.tuple #[.string r, .bool (decide (r.size < s.size))]) ∧ bl r = takeTo c (bl s) ∧ r.size ≤ s.size ∧ w = w'
theorem Upto.found {s : ByteArray} {c : UInt8} {w : World} {k : Nat} (h : k < s.size) (hb : ∀ j (hj : j < k), s[j]'(by omega) ≠ c) (hc : (s[k].toNat : Int) = c.toNat) :
    Upto s c w (.returned (.tuple #[.string (s.extract 0 k), .bool true])) w :=
  ⟨s.extract 0 k, by simp [Nat.min_eq_left (Nat.le_of_lt h), h], takeTo_take s c k h hb (byte_eq hc), by simp; omega, rfl⟩
theorem Upto.lacks {s : ByteArray} {c : UInt8} {w : World} (hb : ∀ j (hj : j < s.size), s[j] ≠ c) : Upto s c w (.returned (.tuple #[.string s, .bool false])) w :=
  ⟨s, by simp, takeTo_all s c hb, Nat.le_refl _, rfl⟩

set_option maxHeartbeats 400000 in
theorem upto_any (s : ByteArray) (c : UInt8) (w : World) (_hs : s.size ≤ 16777216) :
    Calls Tryd.prog 17 #[.string s, .int .u8 c.toNat] w (Upto s c w) := by
  go_enter Tryd.func17, Tryd.ntmps17
  go_wp2
  go_loopg [6] s.size (fun g i wr => ∃ k : Nat, ∃ hk : k ≤ s.size, g = s.size - k ∧ i = .int .i64 k ∧ (∀ j (hj : j < k), s[j]'(by omega) ≠ c) ∧ w = wr)
  case atStart => exact ⟨0, Nat.zero_le _, rfl, rfl, fun j hj => absurd hj (by omega), rfl⟩
  case round =>
    obtain ⟨k, hk, hg, rfl, hb, rfl⟩ := hrel
    have HB := Lib.hid hb; clear hb
    have HG := Lib.hid hg; clear hg
    go_wp2
    · go_ret2
      have hlt : k < s.size := by assumption
      exact Upto.found hlt HB.out (by first | assumption | (simp at *; omega))
    · have hlt : k < s.size := by assumption
      have hn : ((s[k].toNat : Int) == c.toNat) = false := by assumption
      go_roundg (s.size - (k + 1))
      case rel =>
        refine ⟨k + 1, by omega, rfl, by go_num, fun j hj => ?_, rfl⟩
        rcases Nat.lt_or_ge j k with h | h
        · exact HB.out j h
        · have ej : j = k := by omega
          subst ej
          exact fun e => (beq_eq_false_iff_ne.1 hn) (by rw [e])
      case measure => have := HG.out; omega
    · go_ret2
      exact Upto.lacks fun j hj => HB.out j (by omega)

set_option maxHeartbeats 1000000 in
theorem refNumber_any (s : ByteArray) (w : World) (_hs : s.size ≤ 16777216) :
    Calls Tryd.prog 14 #[.string s] w fun e w' => e = .returned (numRes (number (bl s))) ∧ w = w' := by
  by_cases h0 : s.size = 0
  · have H := Lib.hid (number_nil h0)
    have hz : ((s.size : Int) == 0) = true := beq_iff_eq.2 (by omega)
    clear h0
    go_enter Tryd.func14, Tryd.ntmps14
    go_wp2
    go_ret2
    exact ⟨numRes_none H.out, rfl⟩
  · have hpos : 0 < s.size := by omega
    have hz : ((s.size : Int) == 0) = false := beq_eq_false_iff_ne.2 (by omega)
    clear h0
    by_cases h8 : 128 ≤ s[0].toNat
    · have H := Lib.hid (number_bin hpos h8)
      have hb : s[0].toNat < 256 := s[0].toNat_lt
      have hb1 : decide (127 < (s[0].toNat : Int)) = true := decide_eq_true (by omega)
      go_enter Tryd.func14, Tryd.ntmps14
      go_wp2
      go_loopg [4, 5] (s.size - 1) (fun g n j wr => ∃ k m : Nat, k ≤ s.size ∧ g = s.size - k ∧ m ≤ 1099511627776 ∧ j = .int .i64 k ∧ n = .int .i64 m ∧ number (bl s) = binLoop m ((bl s).drop k) ∧ w = wr)
      case atStart => exact ⟨1, s[0].toNat - 128, by omega, by omega, by omega, rfl, by go_num, H.out, rfl⟩
      case round =>
        clear H
        obtain ⟨k, m, hk, hg, hm', rfl, rfl, hd, rfl⟩ := hrel
        have H := Lib.hid hd; clear hd
        have HG := Lib.hid hg; clear hg
        by_cases hlt : k < s.size
        · have hbk : s[k].toNat < 256 := s[k].toNat_lt
          by_cases ho : 1099511627776 < 256 * m + s[k].toNat
          · have ho' : (1099511627776 : Int) < 256 * (m : Int) + (s[k].toNat : Int) := by omega
            go_wp2
            go_ret2
            exact ⟨numRes_none (H.out.trans (bin_over hlt ho)), rfl⟩
          · have ho' : 256 * (m : Int) + (s[k].toNat : Int) ≤ (1099511627776 : Int) := by omega
            go_wp2
            go_roundg (s.size - (k + 1))
            case rel => exact ⟨k + 1, 256 * m + s[k].toNat, by omega, rfl, by omega, by go_num, by go_num, H.out.trans (bin_step hlt (by omega)), rfl⟩
            case measure => have := HG.out; omega
        · go_wp2
          go_ret2
          exact ⟨numRes_some (H.out.trans (bin_end (by omega))) rfl, rfl⟩
    · have h8' : s[0].toNat < 128 := by omega
      have H := Lib.hid (number_oct hpos h8')
      have hb1 : decide (127 < (s[0].toNat : Int)) = false := decide_eq_false (by omega)
      clear h8
      go_enter Tryd.func14, Tryd.ntmps14
      go_wp2
      go_loopg [6] s.size (fun g j wr => ∃ k : Nat, k ≤ s.size ∧ g = s.size - k ∧ j = .int .i64 k ∧ number (bl s) = octLoop 0 (sp ((bl s).drop k)) ∧ w = wr)
      case atStart => exact ⟨0, by omega, by omega, rfl, by rw [List.drop_zero]; exact H.out, rfl⟩
      case round =>
        clear H
        obtain ⟨k, hk, hg, rfl, hd, rfl⟩ := hrel
        have H := Lib.hid hd; clear hd
        have HG := Lib.hid hg; clear hg
        have hcase : (∃ h : k < s.size, s[k] = 32) ∨ (s.size ≤ k ∨ ∃ h : k < s.size, s[k] ≠ 32) := by
          by_cases h : k < s.size
          · by_cases hc : s[k] = 32
            · exact .inl ⟨h, hc⟩
            · exact .inr (.inr ⟨h, hc⟩)
          · exact .inr (.inl (by omega))
        rcases hcase with ⟨hlt, hc⟩ | hst
        · have hq : ((s[k].toNat : Int) == 32) = true := by rw [hc]; rfl
          have HC := Lib.hid hc; clear hc
          go_wp2
          go_roundg (s.size - (k + 1))
          case rel => exact ⟨k + 1, by omega, rfl, by go_num, H.out.trans (congrArg _ (sp_step hlt HC.out)), rfl⟩
          case measure => have := HG.out; omega
        · have H3 := Lib.hid (H.out.trans (congrArg (octLoop 0) (sp_stop hst)))
          clear H
          have hst' : s.size ≤ k ∨ ∃ h : k < s.size, ((s[k].toNat : Int) == 32) = false := by
            rcases hst with h | ⟨h, hc⟩
            · exact .inl h
            · refine .inr ⟨h, beq_eq_false_iff_ne.2 fun e => hc (byte_eq (d := 32) e)⟩
          clear hst
          rcases hst' with hge | ⟨hlt, hq⟩
          all_goals
            go_wp2
            go_loopg [4, 6] (s.size - k) (fun g n j wr => ∃ k m : Nat, k ≤ s.size ∧ g = s.size - k ∧ m ≤ 1099511627776 ∧ j = .int .i64 k ∧ n = .int .i64 m ∧ number (bl s) = octLoop m ((bl s).drop k) ∧ w = wr)
            case atStart => exact ⟨k, 0, by omega, rfl, by omega, rfl, rfl, H3.out, rfl⟩
            case round =>
              clear H3 HG
              obtain ⟨k, m, hk, hg, hm', rfl, rfl, hd, rfl⟩ := hrel
              have H := Lib.hid hd; clear hd
              have HG := Lib.hid hg; clear hg
              have hcase : (∃ h : k < s.size, 48 ≤ s[k].toNat ∧ s[k].toNat ≤ 55) ∨ (s.size ≤ k ∨ ∃ h : k < s.size, (s[k].toNat < 48 ∨ 55 < s[k].toNat)) := by
                by_cases h : k < s.size
                · by_cases hc : 48 ≤ s[k].toNat ∧ s[k].toNat ≤ 55
                  · exact .inl ⟨h, hc⟩
                  · exact .inr (.inr ⟨h, by omega⟩)
                · exact .inr (.inl (by omega))
              rcases hcase with ⟨hlt, hc1, hc2⟩ | hst
              · have hc1' : (48 : Int) ≤ (s[k].toNat : Int) := by omega
                have hc2' : (s[k].toNat : Int) < 56 := by omega
                by_cases ho : 1099511627776 < 8 * m + (s[k].toNat - 48)
                · have ho' : (1099511627776 : Int) < 8 * (m : Int) + ((s[k].toNat : Int) - 48) := by omega
                  go_wp2
                  go_ret2
                  exact ⟨numRes_none (H.out.trans (oct_over hlt hc1 hc2 ho)), rfl⟩
                · have ho' : 8 * (m : Int) + ((s[k].toNat : Int) - 48) ≤ (1099511627776 : Int) := by omega
                  go_wp2
                  go_roundg (s.size - (k + 1))
                  case rel => exact ⟨k + 1, 8 * m + (s[k].toNat - 48), by omega, rfl, by omega, by go_num, by go_num, H.out.trans (oct_step hlt hc1 hc2 (by omega)), rfl⟩
                  case measure => have := HG.out; omega
              · have H4 := Lib.hid (H.out.trans (oct_stop hst))
                clear H
                have hst' : s.size ≤ k ∨ ∃ h : k < s.size, ((s[k].toNat : Int) < 48 ∨ ((48 : Int) ≤ (s[k].toNat : Int) ∧ (56 : Int) ≤ (s[k].toNat : Int))) := by
                  rcases hst with h | ⟨h, hc⟩
                  · exact .inl h
                  · exact .inr ⟨h, by omega⟩
                clear hst
                rcases hst' with hge | ⟨hlt, hq | ⟨hq1, hq⟩⟩
                all_goals
                  go_wp2
                  go_loopg [6] (s.size - k) (fun g j wr => ∃ k : Nat, k ≤ s.size ∧ g = s.size - k ∧ j = .int .i64 k ∧ number (bl s) = (if blank ((bl s).drop k) then some m else none) ∧ w = wr)
                  case atStart => exact ⟨k, by omega, rfl, rfl, H4.out, rfl⟩
                  case round =>
                    clear H4 HG
                    obtain ⟨k, hk, hg, rfl, hd, rfl⟩ := hrel
                    have H := Lib.hid hd; clear hd
                    have HG := Lib.hid hg; clear hg
                    by_cases hlt : k < s.size
                    · by_cases hc : s[k] = 32 ∨ s[k] = 0
                      · have hc' : ((s[k].toNat : Int) != 32) = false ∨ (((s[k].toNat : Int) != 32) = true ∧ ((s[k].toNat : Int) != 0) = false) := by
                          rcases hc with hc | hc
                          · left; rw [hc]; rfl
                          · right; rw [hc]; exact ⟨rfl, rfl⟩
                        have HC := Lib.hid hc; clear hc
                        rcases hc' with hc' | ⟨hc'', hc'⟩
                        all_goals
                          go_wp2
                          go_roundg (s.size - (k + 1))
                          case rel => exact ⟨k + 1, by omega, rfl, by go_num, H.out.trans (by rw [blank_step hlt HC.out]), rfl⟩
                          case measure => have := HG.out; omega
                      · have hc1 : ((s[k].toNat : Int) != 32) = true := bne_iff_ne.2 fun e => hc (.inl (byte_eq (d := 32) e))
                        have hc2 : ((s[k].toNat : Int) != 0) = true := bne_iff_ne.2 fun e => hc (.inr (byte_eq (d := 0) e))
                        have HC := Lib.hid hc; clear hc
                        go_wp2
                        go_ret2
                        exact ⟨numRes_none (H.out.trans (by rw [blank_bad hlt (fun e => HC.out (.inl e)) (fun e => HC.out (.inr e))]; rfl)), rfl⟩
                    · go_wp2
                      go_ret2
                      exact ⟨numRes_some (H.out.trans (by rw [blank_end (by omega), if_pos rfl])) rfl, rfl⟩
end Tp
end Go.Proofs.YtiehjmjobcklmaaDoor
