/- Walks: the reference's Records. -/
import Derived.Test.YtiehjmjobcklmaaDoorTp3
namespace Go.Proofs.YtiehjmjobcklmaaDoor
open Go.RowKit Go.Shelf Go.Lib
namespace Tp
theorem digits_none {s : ByteArray} {most : Nat} (h : digits (bl s) most = none) (w : World) (hs : s.size ≤ 16777216) (hm : most ≤ 12) :
    Calls Tryd.prog 16 #[.string s, .int .i64 most] w fun e w' => e = .returned (.tuple #[.int .i64 0, .bool false]) ∧ w = w' :=
  (digits_any s most w hs hm).mono fun _ _ h' => by rw [h] at h'; exact h'
theorem digits_some {s : ByteArray} {most n : Nat} (h : digits (bl s) most = some n) (w : World) (hs : s.size ≤ 16777216) (hm : most ≤ 12) :
    Calls Tryd.prog 16 #[.string s, .int .i64 most] w fun e w' => e = .returned (.tuple #[.int .i64 n, .bool true]) ∧ w = w' :=
  (digits_any s most w hs hm).mono fun _ _ h' => by rw [h] at h'; exact h'

set_option maxRecDepth 100000 in
set_option maxHeartbeats 4000000 in
theorem refRecords_any (s : ByteArray) (w : World) (hs : s.size ≤ 16777216) :
    Calls Tryd.prog 18 #[.string s] w (RecR s w.heap.size w) := by
  obtain ⟨i0, hi, hz0, hz1, hz2⟩ := info_parts info93
  go_enter Tryd.func18, Tryd.ntmps18
  go_wp2_with fail
  go_loopg [4, 5] s.size (fun g v j wr => ∃ (k fu : Nat) (acc : List Rec), g = s.size - k ∧ k ≤ s.size ∧ s.size - k ≤ fu ∧ acc.length ≤ k ∧ j = .int .i64 k ∧ records s.size (bl s) [] = records fu ((bl s).drop k) acc ∧
    wr.ownsRow w.heap.size 93 2 v acc.length (recCells acc) ∧ Below w.heap.size w wr)
  case atStart => exact ⟨0, s.size, [], rfl, Nat.zero_le _, Nat.le_refl _, Nat.le_refl _, rfl, rfl, World.ownsRow_nil _ _ _ _, Below.refl _ _⟩
  case round =>
    obtain ⟨k, fu, acc, hg, hks, hfu, hacc, rfl, hd, hown, hbel⟩ := hrel
    have H := Lib.hid hd; clear hd
    have HG := Lib.hid hg; clear hg
    by_cases hlt : k < s.size
    · have hqs : (s.extract k s.size).size = s.size - k := by simp
      have HQ := Lib.hid (bl_tail s k)
      have hlen : 0 < ((bl s).drop k).length := by rw [List.length_drop, bl_length]; omega
      go_wp2_with fail
      refine (upto_any _ 32 _ (by simp; omega)).mono ?_
      rintro e w' ⟨a, rfl, ha, has, rfl⟩
      have HA := Lib.hid ha; clear ha
      have hsz : a.size ≤ s.size - k := by simpa using has
      clear has
      go_wp2_with fail
      rcases hdig : digits (bl a) 9 with _ | n
      · have HR := Lib.hid (H.out.trans (records_none hlen (HQ.out ▸ recStep_digits HA.out hdig)))
        refine (digits_none hdig _ (by omega) (by omega)).mono ?_
        rintro e w' ⟨rfl, rfl⟩
        clear hdig
        by_cases hw : a.size < s.size - k
        all_goals
          go_wp2_with fail
          go_ret2
          exact RecR.no HR.out hbel
      · refine (digits_some hdig _ (by omega) (by omega)).mono ?_
        rintro e w' ⟨rfl, rfl⟩
        obtain ⟨hd1, hd2, hd3⟩ := digits_bd hdig
        rw [bl_length] at hd1 hd2
        have HD := Lib.hid hdig; clear hdig
        have hd3' : n < 1000000000 := Nat.lt_of_lt_of_le hd3 (by decide)
        clear hd3
        by_cases hw : a.size < s.size - k
        case neg =>
          have HR := Lib.hid (H.out.trans (records_none hlen (HQ.out ▸ recStep_whole HA.out (by omega) (by omega))))
          go_wp2_with fail
          go_ret2
          exact RecR.no HR.out hbel
        by_cases h48 : a[0] = 48
        · have HR := Lib.hid (H.out.trans (records_none hlen (HQ.out ▸ recStep_no HA.out HD.out hd1 (.inl h48))))
          have h48' : ((a[0].toNat : Int) == 48) = true := by rw [h48]; rfl
          clear h48
          go_wp2_with fail
          go_ret2
          exact RecR.no HR.out hbel
        have h48' : ((a[0].toNat : Int) == 48) = false := beq_eq_false_iff_ne.2 fun e => h48 (byte_eq (d := 48) e)
        have H48 := Lib.hid h48; clear h48
        by_cases hnq : s.size - k < n
        · have HR := Lib.hid (H.out.trans (records_none hlen (HQ.out ▸ recStep_no HA.out HD.out hd1 (.inr (.inl (by rw [hqs]; exact hnq))))))
          have hnq1 : (s.size : Int) - (k : Int) < (n : Int) := by omega
          go_wp2_with fail
          go_ret2
          exact RecR.no HR.out hbel
        have hnq' : (n : Int) ≤ (s.size : Int) - (k : Int) := by omega
        have b1 : decide ((s.size : Int) - (k : Int) < (n : Int)) = false := decide_eq_false (by omega)
        clear hnq
        by_cases hna : n < a.size + 4
        · have HR := Lib.hid (H.out.trans (records_none hlen (HQ.out ▸ recStep_short HA.out HD.out hd1 hna)))
          go_wp2_with fail
          go_ret2
          exact RecR.no HR.out hbel
        have hna' : a.size + 4 ≤ n := by omega
        have b2 : decide ((n : Int) < (a.size : Int) + 4) = false := decide_eq_false (by omega)
        clear hna
        have hix : min (k + n) s.size - (k + a.size + 1) - 1 < (s.extract (k + a.size + 1) (k + n)).size := by simp; omega
        by_cases h10 : s[k + n - 1] = 10
        · have h10' : (((s.extract (k + a.size + 1) (k + n))[min (k + n) s.size - (k + a.size + 1) - 1].toNat : Int) != 10) = false := by
            rw [extract_get]
            have e : k + a.size + 1 + (min (k + n) s.size - (k + a.size + 1) - 1) = k + n - 1 := by omega
            simp only [e]
            rw [h10]; rfl
          have H10 := Lib.hid h10; clear h10
          have hX : bl ((s.extract (k + a.size + 1) (k + n)).extract 0 (min (k + n) s.size - (k + a.size + 1) - 1)) = bl ((s.extract k s.size).extract (a.size + 1) (n - 1)) := by
            rw [bl_mid, bl_mid, bl_mid, bl_tail, List.drop_zero, List.take_drop, List.take_drop, List.drop_drop, List.take_take]
            congr 1
            congr 1; omega
          have HXS := Lib.hid (show ((s.extract (k + a.size + 1) (k + n)).extract 0 (min (k + n) s.size - (k + a.size + 1) - 1)).size = n - 1 - (a.size + 1) by simp; omega)
          have HX := Lib.hid hX; clear hX
          go_wp2_with fail
          revert HX HXS
          generalize (s.extract (k + a.size + 1) (k + n)).extract 0 (min (k + n) s.size - (k + a.size + 1) - 1) = X
          intro HXS HX
          have hxb : X.size ≤ 16777216 := by have := HXS.out; omega
          refine (upto_any _ 61 _ hxb).mono ?_
          rintro e w' ⟨ky, rfl, hk, hks2, rfl⟩
          rw [HX.out] at hk
          have HY := Lib.hid (recStep_yes HA.out HD.out hd1 H48.out (by rw [hqs]; omega) (by omega) (by rw [extract_get]; simpa [show k + (n - 1) = k + n - 1 from by omega] using H10.out) hk)
          clear hk
          have hxs : ((s.extract k s.size).extract (a.size + 1) (n - 1)).size = n - 1 - (a.size + 1) := by simp; omega
          have HXT := Lib.hid hxs; clear hxs
          by_cases hf : ky.size < X.size
          · by_cases hk0 : ky.size = 0
            · have HR := Lib.hid (H.out.trans (records_none hlen (HQ.out ▸ HY.out.trans (if_pos (.inr hk0)))))
              have hk0' := isEmpty_of hk0
              clear hk0
              go_wp2_with fail
              go_ret2
              exact RecR.no HR.out hbel
            · have hk0' := not_isEmpty_of (s := ky) (by omega)
              obtain ⟨f', hf1, hR⟩ := records_some (acc := acc) hlen (by rw [List.length_drop, bl_length]; exact hfu) (HQ.out ▸ HY.out.trans (if_neg (by have := HXS.out; have := HXT.out; omega)))
              have HF := Lib.hid hf1
              have HR := Lib.hid (H.out.trans hR)
              clear hf1 hR hk0
              go_wp2_with (at_builtin; refine wpList_append_own _ rfl _ _ 53 rfl w.heap.size 93 i0 (.agg #[.string ⟨#[]⟩, .string ⟨#[]⟩]) 2 32 Tryd.underlying53 hi hz0 hz1 hz2 rfl (by decide) _ _ _ rfl (hown.alloc _) ⟨wr.heap.size, 0, none⟩ 1 1 [.string ky, .string (X.extract (ky.size + 1) X.size)] rfl rfl ?c1 ?c2 ?c3 ?c4 ?c5 ?_)
              case c1 => exact new_cells _ [_, _] _ _ rfl
              case c2 => intro u hu; simp at hu; rcases hu with rfl | rfl <;> rfl
              case c3 => unfold maxLen; omega
              case c4 => omega
              case c5 => have := hbel.size; simp; omega
              intro v' w1 hown' hgrow _
              have hb2 := below_push hbel hbel.size hown hgrow
              have hown2 : w1.ownsRow w.heap.size 93 2 v' (acc ++ [(bl ky, (bl ((s.extract k s.size).extract (a.size + 1) (n - 1))).drop (ky.size + 1))]).length (recCells (acc ++ [(bl ky, (bl ((s.extract k s.size).extract (a.size + 1) (n - 1))).drop (ky.size + 1))])) := by
                rw [recCells_snoc, List.length_append, ← HX.out, ← bl_tail]; exact hown'
              have HO := Lib.hid hown2
              clear hown' hgrow hown hown2
              go_wp2_with fail
              go_roundg (s.size - (k + n))
              case rel =>
                refine ⟨k + n, f', _, rfl, by omega, by have := HF.out; omega, ?_, by go_num, ?_, HO.out, hb2⟩
                · rw [List.length_append, List.length_singleton]; omega
                · rw [HR.out, List.drop_drop]
              case measure => have := HG.out; omega
          · have HR := Lib.hid (H.out.trans (records_none hlen (HQ.out ▸ HY.out.trans (if_pos (.inl (by have := HXS.out; have := HXT.out; omega))))))
            go_wp2_with fail
            go_ret2
            exact RecR.no HR.out hbel
        · have HR := Lib.hid (H.out.trans (records_none hlen (HQ.out ▸ recStep_no HA.out HD.out hd1 (.inr (.inr (.inr ⟨by omega, by rw [extract_get]; simpa [show k + (n - 1) = k + n - 1 from by omega] using h10⟩))))))
          have h10' : (((s.extract (k + a.size + 1) (k + n))[min (k + n) s.size - (k + a.size + 1) - 1].toNat : Int) != 10) = true := by
            rw [extract_get, bne_iff_ne]
            have e : k + a.size + 1 + (min (k + n) s.size - (k + a.size + 1) - 1) = k + n - 1 := by omega
            simp only [e]
            exact fun e => h10 (byte_eq (d := 10) e)
          clear h10
          go_wp2_with fail
          go_ret2
          exact RecR.no HR.out hbel
    · have HR := Lib.hid (H.out.trans (by rw [bl_drop_end s k (by omega), records_nil]))
      go_wp2_with fail
      go_ret2
      exact RecR.yes HR.out hown hbel (k := 0) (by omega)
end Tp
end Go.Proofs.YtiehjmjobcklmaaDoor
