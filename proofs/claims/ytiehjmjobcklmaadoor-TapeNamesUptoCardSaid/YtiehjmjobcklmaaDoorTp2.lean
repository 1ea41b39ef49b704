/- Walks: tape.Number, with the library's Trim and TrimLeft by their contracts of the shelf. -/
import Derived.Test.YtiehjmjobcklmaaDoorTp1
import Derived.Test.YtiehjmjobcklmaaDoorShelf
import Derived.Shelf.Strings.SlTrimAscii
namespace Go.Proofs.YtiehjmjobcklmaaDoor
open Go.RowKit Go.Shelf Go.Lib
namespace Tp

def IsStr (P : ByteArray → World → Prop) (e : Ending) (w' : World) : Prop := ∃ r : ByteArray, e = .returned (.string r) ∧ P r w'

theorem trimLeft_any (s : ByteArray) (w : World) :
    Calls Tryd.prog 27 #[.string s, .string ⟨#[32]⟩] w (IsStr fun r w' => bl r = sp (bl s) ∧ w = w') :=
  (Tryd.strings_TrimLeft_one s 32 (by decide) w).mono fun _ _ h => ⟨_, h.1, by simp [bl, sp, Lib.trimLeftB], h.2.symm⟩

theorem drop_all {p : UInt8 → Bool} : ∀ {l : Bs}, (∀ x ∈ l, p x = true) → l.dropWhile p = []
  | [], _ => rfl
  | x :: l, h => by rw [List.dropWhile_cons, if_pos (h x (by simp)), drop_all fun y hy => h y (by simp [hy])]
theorem drop_some {p : UInt8 → Bool} : ∀ {l : Bs}, (∃ x ∈ l, p x = false) → ∃ x ∈ l.dropWhile p, p x = false
  | [], h => by simp at h
  | x :: l, h => by
    rw [List.dropWhile_cons]
    split
    · rename_i hx
      refine drop_some ?_
      obtain ⟨y, hy, hpy⟩ := h
      rcases List.mem_cons.1 hy with rfl | hy
      · rw [hx] at hpy; cases hpy
      · exact ⟨y, hy, hpy⟩
    · exact h
theorem blank_mem {x : UInt8} : ([32, 0] : Bs).contains x = (x == 32 || x == 0) := by
  cases h1 : (x == 32) <;> cases h2 : (x == 0) <;> simp [List.contains, List.elem, h1, h2]
theorem trim_blank {l : Bs} (h : blank l = true) : Lib.trimS l [32, 0] = [] := by
  have h' : ∀ x ∈ l, ([32, 0] : Bs).contains x = true := by
    intro x hx
    rw [blank_mem]
    exact List.all_eq_true.1 h x hx
  unfold Lib.trimS Lib.trimRightS Lib.trimLeftS
  rw [drop_all (l := l.reverse) fun x hx => h' x (by simpa using hx)]
  rfl
theorem trim_solid {l : Bs} (h : blank l = false) : Lib.trimS l [32, 0] ≠ [] := by
  have h' : ∃ x ∈ l, ([32, 0] : Bs).contains x = false := by
    unfold blank at h
    rw [List.all_eq_false] at h
    obtain ⟨x, hx, hb⟩ := h
    exact ⟨x, hx, by rw [blank_mem]; simpa using hb⟩
  unfold Lib.trimS Lib.trimRightS Lib.trimLeftS
  obtain ⟨x, hx, hp⟩ := h'
  obtain ⟨y, hy, hpy⟩ := drop_some (l := l.reverse) (p := ([32, 0] : Bs).contains) ⟨x, by simpa using hx, hp⟩
  obtain ⟨z, hz, _⟩ := drop_some (l := (l.reverse.dropWhile ([32, 0] : Bs).contains).reverse) (p := ([32, 0] : Bs).contains) ⟨y, by simpa using hy, hpy⟩
  exact List.ne_nil_of_mem hz

theorem ba_isEmpty (l : Bs) : (⟨l.toArray⟩ : ByteArray).toList.isEmpty = l.isEmpty := by
  rw [ByteArray.toList_eq]
theorem isEmpty_of {s : ByteArray} (h : s.size = 0) : s.toList.isEmpty = true := by
  rw [ByteArray.toList_eq, List.isEmpty_iff]
  exact List.eq_nil_of_length_eq_zero (by simpa using h)
theorem not_isEmpty_of {s : ByteArray} (h : 0 < s.size) : s.toList.isEmpty = false := by
  rw [ByteArray.toList_eq, Bool.eq_false_iff]
  intro e
  have h1 := congrArg List.length (List.isEmpty_iff.1 e)
  have h2 := bl_length s
  unfold bl at h2
  rw [h2, List.length_nil] at h1
  omega

theorem ofInt_i64 (a : Nat) (ha : a < 4611686018427387904) : (BitVec.ofInt 64 (a : Int)).toNat = a := by
  rw [BitVec.ofInt_natCast, BitVec.toNat_ofNat]; exact Nat.mod_eq_of_lt (by omega)
theorem or_i64 (a b : Nat) (ha : a < 4611686018427387904) (hb : b < 4611686018427387904) : bits .or .i64 (a : Int) (b : Int) = ((a ||| b : Nat) : Int) := by
  have hx : a ||| b < 2 ^ 62 := Nat.or_lt_two_pow (by omega) (by omega)
  show IntKind.i64.wrap ((BitVec.ofInt 64 (a : Int) ||| BitVec.ofInt 64 (b : Int)).toNat : Int) = _
  rw [BitVec.toNat_or, ofInt_i64 a ha, ofInt_i64 b hb, IntKind.wrap_i64]
  omega
theorem or_shift (i m b : Nat) (hm : m * 2 ^ i < 4611686018427387904) (hb : b < 2 ^ i) (hi : i ≤ 60) : bits .or .i64 ((m : Int) * ((2 ^ i : Nat) : Int)) (b : Int) = (m : Int) * ((2 ^ i : Nat) : Int) + (b : Int) := by
  have h2 : 2 ^ i ≤ 2 ^ 60 := Nat.pow_le_pow_right (by omega) hi
  rw [show ((m : Int) * ((2 ^ i : Nat) : Int)) = ((m * 2 ^ i : Nat) : Int) from by simp, or_i64 _ _ hm (by omega), nat_join i _ _ (by simp) hb]
  omega
theorem and127 (c : Nat) (h : 128 ≤ c) (h2 : c < 256) : bits .and .u8 (c : Int) 127 = (c : Int) - 128 := by
  rw [u8_and _ _ (by omega) (by omega) (by omega) (by omega)]
  simp only [Int.toNat_natCast]
  rw [show (127 : Int).toNat = 127 from rfl, nat_mask7]
  omega

theorem trim_yes (s : ByteArray) (w : World) (hs : s.size ≤ 16777216) (h : blank (bl s) = true) :
    Calls Tryd.prog 12 #[.string s, .string ⟨#[32, 0]⟩] w fun e w' => e = .returned (.string ⟨#[]⟩) ∧ Below w.heap.size w w' := by
  have hcon := Any.strings_Trim_laid Tryd.lays160 (by kernel_rfl) s ⟨#[32, 0]⟩ w (by omega) (by decide) (ascii_of_all (by decide))
  change Calls Tryd.prog 12 _ _ (fun e w' => e = .returned (.string ⟨(Lib.trimS (bl s) [32, 0]).toArray⟩) ∧ Below w.heap.size w w') at hcon
  rw [trim_blank h] at hcon
  exact hcon
theorem trim_no (s : ByteArray) (w : World) (hs : s.size ≤ 16777216) (h : blank (bl s) = false) :
    Calls Tryd.prog 12 #[.string s, .string ⟨#[32, 0]⟩] w (IsStr fun r w' => r.toList.isEmpty = false ∧ Below w.heap.size w w') := by
  have hcon := Any.strings_Trim_laid Tryd.lays160 (by kernel_rfl) s ⟨#[32, 0]⟩ w (by omega) (by decide) (ascii_of_all (by decide))
  change Calls Tryd.prog 12 _ _ (fun e w' => e = .returned (.string ⟨(Lib.trimS (bl s) [32, 0]).toArray⟩) ∧ Below w.heap.size w w') at hcon
  exact hcon.mono fun _ _ h' => ⟨_, h'.1, by rw [ba_isEmpty, List.isEmpty_eq_false_iff]; exact trim_solid h, h'.2⟩

set_option maxRecDepth 100000 in
set_option maxHeartbeats 1000000 in
theorem number_any (s : ByteArray) (w : World) (_hs : s.size ≤ 16777216) :
    Calls Tryd.prog 11 #[.string s] w fun e w' => e = .returned (numRes (number (bl s))) ∧ Below w.heap.size w w' := by
  by_cases h0 : s.size = 0
  · have H := Lib.hid (number_nil h0)
    have hz : s.toList.isEmpty = true := isEmpty_of h0
    clear h0
    go_enter Tryd.func11, Tryd.ntmps11
    go_wp2
    go_ret2
    exact ⟨numRes_none H.out, Below.refl _ _⟩
  · have hpos : 0 < s.size := by omega
    have hz : s.toList.isEmpty = false := not_isEmpty_of hpos
    clear h0
    by_cases h8 : 128 ≤ s[0].toNat
    · have H := Lib.hid (number_bin hpos h8)
      have hb : s[0].toNat < 256 := s[0].toNat_lt
      have hb1 : decide (128 ≤ (s[0].toNat : Int)) = true := decide_eq_true (by omega)
      have hand := and127 _ h8 hb
      go_enter Tryd.func11, Tryd.ntmps11
      go_wp2
      go_loopg [4, 5] (s.size - 1) (fun g n j wr => ∃ k m : Nat, k ≤ s.size ∧ g = s.size - k ∧ m ≤ 1099511627776 ∧ j = .int .i64 k ∧ n = .int .i64 m ∧ number (bl s) = binLoop m ((bl s).drop k) ∧ w = wr)
      case atStart => exact ⟨1, s[0].toNat - 128, by omega, by omega, by omega, rfl, by go_num, H.out, rfl⟩
      case round =>
        clear H
        obtain ⟨k, m, hk, hg, hm', rfl, rfl, hd, rfl⟩ := hrel
        have H := Lib.hid hd; clear hd
        have HG := Lib.hid hg; clear hg
        by_cases hlt : k < s.size
        · have hbk : s[k].toNat < 256 := s[k].toNat_lt
          have hor := or_shift 8 m s[k].toNat (by omega) (by omega) (by omega)
          rw [show ((2 ^ 8 : Nat) : Int) = 256 from rfl] at hor
          by_cases ho : 1099511627776 < 256 * m + s[k].toNat
          · have ho' : (1099511627776 : Int) < (m : Int) * 256 + (s[k].toNat : Int) := by omega
            go_wp2
            go_ret2
            exact ⟨numRes_none (H.out.trans (bin_over hlt ho)), Below.refl _ _⟩
          · have ho' : (m : Int) * 256 + (s[k].toNat : Int) ≤ (1099511627776 : Int) := by omega
            go_wp2
            go_roundg (s.size - (k + 1))
            case rel => exact ⟨k + 1, 256 * m + s[k].toNat, by omega, rfl, by omega, by go_num, by go_num, H.out.trans (bin_step hlt (by omega)), rfl⟩
            case measure => have := HG.out; omega
        · go_wp2
          go_ret2
          exact ⟨numRes_some (H.out.trans (bin_end (by omega))) rfl, Below.refl _ _⟩
    · have h8' : s[0].toNat < 128 := by omega
      have H := Lib.hid (number_oct hpos h8')
      have hb1 : decide (128 ≤ (s[0].toNat : Int)) = false := decide_eq_false (by omega)
      clear h8
      go_enter Tryd.func11, Tryd.ntmps11
      go_wp2_with (go_at_call 27; refine (trimLeft_any _ _).mono ?_; rintro e w' ⟨r, rfl, hr, rfl⟩)
      have H2 := Lib.hid (H.out.trans (by rw [← hr]) : number (bl s) = octLoop 0 (bl r))
      have hrs : r.size ≤ s.size := by
        have h := congrArg List.length hr
        rw [bl_length] at h
        have h2 : (sp (bl s)).length ≤ (bl s).length := (List.dropWhile_sublist _).length_le
        rw [bl_length] at h2; omega
      clear H hr
      go_loopg [0, 4] r.size (fun g f n wr => ∃ (q : ByteArray) (m : Nat), g = q.size ∧ q.size ≤ 16777216 ∧ m ≤ 1099511627776 ∧ f = .string q ∧ n = .int .i64 m ∧ number (bl s) = octLoop m (bl q) ∧ w = wr)
      case atStart => exact ⟨r, 0, rfl, by omega, by omega, rfl, rfl, H2.out, rfl⟩
      case round =>
        clear H2
        obtain ⟨q, m, hg, hq, hm', rfl, rfl, hd, rfl⟩ := hrel
        have H := Lib.hid hd; clear hd
        have HG := Lib.hid hg; clear hg
        have hcase : (∃ h : 0 < q.size, 48 ≤ q[0].toNat ∧ q[0].toNat ≤ 55) ∨ (q.size ≤ 0 ∨ ∃ h : 0 < q.size, (q[0].toNat < 48 ∨ 55 < q[0].toNat)) := by
          by_cases h : 0 < q.size
          · by_cases hc : 48 ≤ q[0].toNat ∧ q[0].toNat ≤ 55
            · exact .inl ⟨h, hc⟩
            · exact .inr (.inr ⟨h, by omega⟩)
          · exact .inr (.inl (by omega))
        rcases hcase with ⟨hlt, hc1, hc2⟩ | hst
        · have hq0 := not_isEmpty_of hlt
          have hc1' : (48 : Int) ≤ (q[0].toNat : Int) := by omega
          have hc2' : (q[0].toNat : Int) ≤ 55 := by omega
          have hor := or_shift 3 m (q[0].toNat - 48) (by omega) (by omega) (by omega)
          rw [show ((2 ^ 3 : Nat) : Int) = 8 from rfl, show ((q[0].toNat - 48 : Nat) : Int) = (q[0].toNat : Int) - 48 from by omega] at hor
          by_cases ho : 1099511627776 < 8 * m + (q[0].toNat - 48)
          · have ho' : (1099511627776 : Int) < (m : Int) * 8 + ((q[0].toNat : Int) - 48) := by omega
            go_wp2_with fail
            go_ret2
            exact ⟨numRes_none (H.out.trans (by have := oct_over hlt hc1 hc2 ho; simpa using this)), Below.refl _ _⟩
          · have ho' : (m : Int) * 8 + ((q[0].toNat : Int) - 48) ≤ (1099511627776 : Int) := by omega
            go_wp2_with fail
            go_roundg (q.size - 1)
            case rel =>
              refine ⟨q.extract 1 q.size, 8 * m + (q[0].toNat - 48), by simp, by simp; omega, by omega, rfl, by go_num, H.out.trans ?_, rfl⟩
              rw [bl_extract, List.take_of_length_le (by simp [bl_length])]
              have := oct_step hlt hc1 hc2 (n := m) (by omega)
              simpa using this
            case measure => have := HG.out; omega
        · have H4 := Lib.hid (H.out.trans (by have := oct_stop hst (n := m); simpa using this) : number (bl s) = if blank (bl q) then some m else none)
          clear H
          have hst' : q.toList.isEmpty = true ∨ (∃ h : 0 < q.size, q.toList.isEmpty = false ∧ ((q[0].toNat : Int) < 48 ∨ ((48 : Int) ≤ (q[0].toNat : Int) ∧ (55 : Int) < (q[0].toNat : Int)))) := by
            rcases hst with h | ⟨h, hc⟩
            · exact .inl (isEmpty_of (by omega))
            · exact .inr ⟨h, not_isEmpty_of h, by omega⟩
          clear hst
          by_cases hb : blank (bl q) = true
          · have HB := Lib.hid (H4.out.trans (if_pos hb))
            have C := Lib.hid (fun w => trim_yes q w (by omega) hb)
            clear hb H4
            rcases hst' with hq0 | ⟨hlt, hq0, hq1 | ⟨hq1, hq2⟩⟩
            all_goals
              go_wp2_with fail
              refine (C.out _).mono ?_
              rintro e w' ⟨rfl, hbel⟩
              go_wp2_with fail
              go_ret2
              exact ⟨numRes_some HB.out rfl, hbel⟩
          · have hb' : blank (bl q) = false := by simpa using hb
            have HB := Lib.hid (H4.out.trans (if_neg hb))
            have C := Lib.hid (fun w => trim_no q w (by omega) hb')
            clear hb hb' H4
            rcases hst' with hq0 | ⟨hlt, hq0, hq1 | ⟨hq1, hq2⟩⟩
            all_goals
              go_wp2_with fail
              refine (C.out _).mono ?_
              rintro e w' ⟨x, rfl, hx, hbel⟩
              go_wp2_with fail
              go_ret2
              exact ⟨numRes_none HB.out, hbel⟩
end Tp
end Go.Proofs.YtiehjmjobcklmaaDoor
