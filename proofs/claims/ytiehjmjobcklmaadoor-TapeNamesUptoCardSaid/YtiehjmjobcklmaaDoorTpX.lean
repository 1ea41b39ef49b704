/- Walks: a filled text, a record. -/
import Derived.Test.YtiehjmjobcklmaaDoorTpV
import Derived.Test.YtiehjmjobcklmaaDoorTpR
import Derived.Lib.LaidTab
import Derived.Lib.AppendIntMem
namespace Go.Proofs.YtiehjmjobcklmaaDoor
open Go.RowKit Go.Shelf Go.Lib
namespace Tp
/-- the tables of Go's library that numbers are printed by -/
structure GT (w : World) : Prop where
  tz : w.cell? ⟨5, 7, none⟩ = some (.int .u8 3)
  tab : Lib.TabIs Tryd.prog w "internal/strconv.uint64pow10" .u64 Lib.pow10Tab
  big : 5 < w.heap.size
theorem tab_of {w w' : World} (h : Lib.TabIs Tryd.prog w "internal/strconv.uint64pow10" .u64 Lib.pow10Tab) (hb : w'.heap[3]? = w.heap[3]?) : Lib.TabIs Tryd.prog w' "internal/strconv.uint64pow10" .u64 Lib.pow10Tab := by
  have hg : Tryd.prog.globalNamed "internal/strconv.uint64pow10" = some 3 := by kernel_rfl
  unfold Lib.TabIs World.var? at h ⊢
  simp only [hg, Option.bind_some] at h ⊢
  rw [hb]
  exact h
theorem GT.below {w w' : World} {B : Nat} (h : GT w) (hb : Below B w w') (hB : 5 < B) : GT w' :=
  ⟨(hb.cell (show (⟨5, 7, none⟩ : Addr).block < B by show 5 < B; omega)).trans h.tz, tab_of h.tab (hb.block _ (by omega)), Nat.lt_of_lt_of_le h.big hb.size⟩
theorem dec3_eq {n : Nat} (h1 : 100 ≤ n) (h2 : n < 1000) : Lib.itoa (n : Int) = dec3 n := by
  rw [Lib.itoa_nonneg, Lib.decDigits, dif_neg (by omega), Lib.decDigits_two (by omega) (by omega), dec3, Nat.div_div_eq_div_mul]; rfl
def Dec3R (m : Nat) (w : World) (e : Ending) (w' : World) : Prop := ∃ I : ByteArray, e = .returned (.string I) ∧ bl I = dec3 m ∧ Below w.heap.size w w'
theorem itoa3 (n : Int) (m : Nat) (w : World) (hn : n = m) (h1 : 100 ≤ m) (h2 : m < 1000) (hg : GT w) : Calls Tryd.prog 44 #[.int .i64 n] w (Dec3R m w) := by
  refine (Tryd.strconv_Itoa n (by omega) (by omega) w hg.tab).mono ?_
  rintro e w' ⟨rfl, k, os, rfl⟩
  exact ⟨_, rfl, by rw [hn, dec3_eq h1 h2]; simp [bl], Lib.below_grow _ _ (Nat.le_refl _) _ _⟩
def StrR (L : Bs) (w : World) (e : Ending) (w' : World) : Prop := ∃ s : ByteArray, e = .returned (.string s) ∧ bl s = L ∧ Below w.heap.size w w'
set_option maxRecDepth 100000 in
set_option maxHeartbeats 1000000 in
theorem record_any (key value : ByteArray) (w : World) (h1 : 97 ≤ key.size + value.size) (h2 : key.size + value.size ≤ 300) (hg : GT w) :
    Calls Tryd.prog 21 #[.string key, .string value] w (StrR (recordB (bl key) (bl value)) w) := by
  have hRL : bl ((⟨#[32]⟩ : ByteArray) ++ key ++ ⟨#[61]⟩ ++ value ++ ⟨#[10]⟩) = restB (bl key) (bl value) := by simp only [bl_append']; rfl
  have hRS : ((⟨#[32]⟩ : ByteArray) ++ key ++ ⟨#[61]⟩ ++ value ++ ⟨#[10]⟩).size = key.size + value.size + 3 := by
    rw [← bl_length, hRL, restB_len, bl_length, bl_length]
  have HG := Lib.hid hg
  have HRL := Lib.hid hRL
  have HRS := Lib.hid hRS
  have hk1 : key.size ≤ 300 := by omega
  have hk2 : value.size ≤ 300 := by omega
  clear hg hRL hRS
  go_enter Tryd.func21, Tryd.ntmps21
  go_upto_region 2 with fail
  revert HRL HRS
  generalize (⟨#[32]⟩ : ByteArray) ++ key ++ ⟨#[61]⟩ ++ value ++ ⟨#[10]⟩ = R
  intro HRL HRS
  have hr1 : R.size ≤ 303 := by have := HRS.out; omega
  have hr2 : 100 ≤ R.size := by have := HRS.out; omega
  go_wp2_with fail
  go_loopg [6] 3 (fun gk v wr => ∃ j : Nat, gk = 3 - j ∧ j ≤ 2 ∧ v = .int .i64 ((R.size : Int) + 1 + (j : Int)) ∧ Below w.heap.size w wr)
  case atStart => exact ⟨0, rfl, by omega, by go_num, Below.refl _ _⟩
  case round =>
    obtain ⟨j, hgk, hj, rfl, hb⟩ := hrel
    have HGK := Lib.hid hgk
    have HB := Lib.hid hb
    clear hgk hb
    go_wp2_with fail
    refine (itoa3 _ (R.size + 1 + j) _ (by omega) (by omega) (by omega) (HG.out.below HB.out HG.out.big)).mono ?_
    rintro e w1 ⟨I, rfl, hI, hb1⟩
    have hIs : I.size = 3 := by rw [← bl_length, hI]; rfl
    have HI := Lib.hid hI
    have HB1 := Lib.hid (HB.out.trans (hb1.mono HB.out.size))
    by_cases hj2 : j = 2
    · have hbf : ((I.size : Int) + (R.size : Int) != (R.size : Int) + 1 + (j : Int)) = false := by rw [bne_eq_false_iff_eq]; omega
      have hi3 : I.size ≤ 3 := by omega
      have HJ := Lib.hid hj2
      clear hIs hI hb1 hj2
      go_wp2_with fail
      refine (itoa3 _ (R.size + 1 + j) _ (by omega) (by omega) (by omega) (HG.out.below HB1.out HG.out.big)).mono ?_
      rintro e w2 ⟨I2, rfl, hI2, hb2⟩
      have hIs2 : I2.size ≤ 3 := by rw [← bl_length, hI2]; exact Nat.le_refl 3
      have HX := Lib.hid (show bl (I2 ++ R) = recordB (bl key) (bl value) by
        rw [bl_append', hI2, HRL.out, recordB, restB_len, bl_length, bl_length]
        congr 2
        have := HRS.out; have := HJ.out; omega)
      have HB2 := Lib.hid (HB1.out.trans (hb2.mono HB1.out.size))
      clear hI2 hb2
      go_wp2_with fail
      go_ret
      exact ⟨_, rfl, HX.out, HB2.out⟩
    · have hbf : ((I.size : Int) + (R.size : Int) != (R.size : Int) + 1 + (j : Int)) = true := bne_iff_ne.2 (by omega)
      have hi3 : I.size ≤ 3 := by omega
      have hj3 : j + 1 ≤ 2 := by omega
      clear hIs hI hb1 hj2
      go_wp2_with fail
      go_roundg (3 - (j + 1))
      case rel => exact ⟨j + 1, rfl, hj3, by go_num, HB1.out⟩
      case measure => have := HGK.out; omega
theorem and511 (n : Nat) (h : n ≤ 1073741824) : bits .and .i64 (-(n : Int)) 511 = ((padL n : Nat) : Int) := by
  show IntKind.i64.wrap ((BitVec.ofInt 64 (-(n : Int)) &&& BitVec.ofInt 64 511).toNat : Int) = _
  have e5 : (BitVec.ofInt 64 511).toNat = 2 ^ 9 - 1 := by decide
  have ez : (BitVec.ofInt 64 (-(n : Int))).toNat % 512 = padL n := by
    rw [BitVec.toNat_ofInt]
    unfold padL
    have e64 : ((2 ^ 64 : Nat) : Int) = 18446744073709551616 := by decide
    rw [e64]
    omega
  have hp : padL n ≤ 511 := by unfold padL; omega
  rw [BitVec.toNat_and, e5, Nat.and_two_pow_sub_one_eq_mod]
  have e29 : (2 : Nat) ^ 9 = 512 := by decide
  rw [e29, ez, IntKind.wrap_i64]
  omega
theorem filled_any (x : ByteArray) (w : World) (hx : x.size ≤ 268435456) : Calls Tryd.prog 24 #[.string x] w (StrR (fullB (bl x)) w) := by
  have hand := and511 x.size (by omega)
  have hp : padL x.size ≤ 511 := by unfold padL; omega
  go_enter Tryd.func24, Tryd.ntmps24
  go_wp2_with fail
  refine (repeat_any 0 (padL x.size) _ (by omega)).mono ?_
  rintro e w1 ⟨R, rfl, hR, hb⟩
  have hRs : R.size ≤ 511 := by rw [← bl_length, hR, List.length_replicate]; exact hp
  have HX := Lib.hid (show bl (x ++ R) = fullB (bl x) by rw [bl_append', hR, fullB, bl_length])
  have HB := Lib.hid hb
  clear hR hb
  go_wp2_with fail
  go_ret
  exact ⟨_, rfl, HX.out, HB.out⟩
end Tp
end Go.Proofs.YtiehjmjobcklmaaDoor
