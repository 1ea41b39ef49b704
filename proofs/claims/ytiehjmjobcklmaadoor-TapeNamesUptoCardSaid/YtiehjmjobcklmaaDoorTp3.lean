/- Walks: tape.Records, with strings.Cut at one byte. -/
import Derived.Test.YtiehjmjobcklmaaDoorTp2
import Derived.Deep.Draws
namespace Go.Proofs.YtiehjmjobcklmaaDoor
open Go.RowKit Go.Shelf Go.Lib
namespace Tp

/-- what strings.Cut at one byte gives -/
def CutR (s : ByteArray) (c : UInt8) (w : World) (e : Ending) (w' : World) : Prop :=
  ∃ a b : ByteArray, e = .returned (.tuple #[.string a, .string b, .bool (decide (a.size < s.size))]) ∧ bl a = takeTo c (bl s) ∧ bl b = (bl s).drop (a.size + 1) ∧ a.size ≤ s.size ∧ ∃ n, w' = w.drewN n
theorem cut_one (l : Bs) (c : UInt8) : Lib.cut l [c] = (takeTo c l, l.drop ((takeTo c l).length + 1), decide ((takeTo c l).length < l.length)) := by
  have hle := takeTo_len c l
  unfold Lib.cut
  rw [index_one, indexByte_takeTo]
  by_cases h : (takeTo c l).length < l.length
  · simp [h, take_takeTo]
  · have h1 : takeTo c l = l := by
      rw [← take_takeTo l c, List.take_of_length_le (by omega)]
    simp [h1]
theorem cut_any (s : ByteArray) (c : UInt8) (m : Int) (w : World) (hs : s.size ≤ 16777216) (hm : w.cell? ⟨2, 0, none⟩ = some (.int .i64 m)) :
    Calls Tryd.prog 39 #[.string s, .string ⟨#[c]⟩] w (CutR s c w) := by
  refine (Tryd.strings_Cut s ⟨#[c]⟩ m w (by omega) hm).mono fun e w' h => ?_
  have hc : Lib.cut s.data.toList (⟨#[c]⟩ : ByteArray).data.toList = _ := cut_one (bl s) c
  rw [hc] at h
  have hl : (⟨(takeTo c (bl s)).toArray⟩ : ByteArray).size = (takeTo c (bl s)).length := by simp [ByteArray.size]
  refine ⟨⟨(takeTo c (bl s)).toArray⟩, ⟨((bl s).drop ((takeTo c (bl s)).length + 1)).toArray⟩, ?_, by simp [bl], by rw [hl]; simp [bl], by rw [hl, ← bl_length]; exact takeTo_len _ _, h.2⟩
  rw [hl, ← bl_length s]; exact h.1

theorem decimal_none {s : ByteArray} {most : Nat} (h : digits (bl s) most = none) (w : World) (hs : s.size ≤ 16777216) (hm : most ≤ 12) :
    Calls Tryd.prog 37 #[.string s, .int .i64 most] w fun e w' => e = .returned (.tuple #[.int .i64 0, .bool false]) ∧ w = w' :=
  (decimal_any s most w hs hm).mono fun _ _ h' => by rw [h] at h'; exact h'
theorem decimal_some {s : ByteArray} {most n : Nat} (h : digits (bl s) most = some n) (w : World) (hs : s.size ≤ 16777216) (hm : most ≤ 12) :
    Calls Tryd.prog 37 #[.string s, .int .i64 most] w fun e w' => e = .returned (.tuple #[.int .i64 n, .bool true]) ∧ w = w' :=
  (decimal_any s most w hs hm).mono fun _ _ h' => by rw [h] at h'; exact h'

theorem digits_bd {l : Bs} {most n : Nat} (h : digits l most = some n) : 1 ≤ l.length ∧ l.length ≤ most ∧ n < 10 ^ most := by
  unfold digits at h
  split at h
  · cases h
  · have := digLoop_lt l 0 n h
    refine ⟨by omega, by omega, Nat.lt_of_lt_of_le this ?_⟩
    rw [Nat.zero_add, Nat.one_mul]
    exact Nat.pow_le_pow_right (by omega) (by omega)

theorem info93 : (Tryd.prog.info? 93).map (fun i => (i.zero, i.size, i.bytes)) = some (some (.agg #[.string ⟨#[]⟩, .string ⟨#[]⟩]), 2, 32) := by kernel_rfl

def RecR (s : ByteArray) (B : Nat) (w : World) (e : Ending) (w' : World) : Prop :=
  match records s.size (bl s) [] with
  | none => e = .returned (.tuple #[.slice none 0 0, .bool false]) ∧ Below B w w'
  | some rs => ∃ v, e = .returned (.tuple #[v, .bool true]) ∧ w'.ownsRow B 93 2 v rs.length (recCells rs) ∧ Below B w w' ∧ rs.length ≤ s.size

theorem RecR.no {s : ByteArray} {B : Nat} {w w' : World} (h : records s.size (bl s) [] = none) (hb : Below B w w') : RecR s B w (.returned (.tuple #[.slice none 0 0, .bool false])) w' := by
  unfold RecR; rw [h]; exact ⟨rfl, hb⟩
theorem RecR.yes {s : ByteArray} {B : Nat} {w w' : World} {rs : List Rec} {v : Value} {k : Nat} (h : records s.size (bl s) [] = some rs)
    (ho : w'.ownsRow B 93 2 v rs.length (recCells rs)) (hb : Below B w w') (hl : rs.length + k ≤ s.size) : RecR s B w (.returned (.tuple #[v, .bool true])) w' := by
  unfold RecR; rw [h]; exact ⟨v, rfl, ho, hb, by omega⟩

set_option maxRecDepth 100000 in
set_option maxHeartbeats 1000000 in
theorem records_any (s : ByteArray) (m : Int) (w : World) (hs : s.size ≤ 16777216) (hm : w.cell? ⟨2, 0, none⟩ = some (.int .i64 m)) :
    Calls Tryd.prog 62 #[.string s] w (RecR s w.heap.size w) := by
  obtain ⟨i0, hi, hz0, hz1, hz2⟩ := info_parts info93
  have hMB : 2 < w.heap.size := World.block_lt_of_cell? _ _ hm
  go_enter Tryd.func62, Tryd.ntmps62
  go_wp2_with fail
  go_loopg [0, 4] s.size (fun g f v wr => ∃ (q : ByteArray) (fu : Nat) (acc : List Rec), g = q.size ∧ q.size ≤ fu ∧ acc.length + q.size ≤ s.size ∧ f = .string q ∧ records s.size (bl s) [] = records fu (bl q) acc ∧
    wr.ownsRow w.heap.size 93 2 v acc.length (recCells acc) ∧ Below w.heap.size w wr)
  case atStart => exact ⟨s, s.size, [], rfl, Nat.le_refl _, by simp, rfl, rfl, World.ownsRow_nil _ _ _ _, Below.refl _ _⟩
  case round =>
    obtain ⟨q, fu, acc, hg, hfu, hacc, rfl, hd, hown, hbel⟩ := hrel
    have H := Lib.hid hd; clear hd
    have HG := Lib.hid hg; clear hg
    by_cases hq : q.size = 0
    · have hq0 := isEmpty_of hq
      have HR := Lib.hid (H.out.trans (by rw [bl_eq_nil hq, records_nil]))
      clear hq
      go_wp2_with fail
      go_ret2
      exact RecR.yes HR.out hown hbel hacc
    · have hpos : 0 < q.size := by omega
      have hq0 := not_isEmpty_of hpos
      have hlen : 0 < (bl q).length := by rw [bl_length]; exact hpos
      clear hq
      have hmr := (hbel.cell (p := ⟨2, 0, none⟩) hMB).trans hm
      go_wp2_with fail
      refine (cut_any q 32 m _ (by omega) hmr).mono ?_
      rintro e w' ⟨a, b, rfl, ha, hb, has, nn, rfl⟩
      have HA := Lib.hid ha; clear ha hb
      rcases hdig : digits (bl a) 9 with _ | n
      · have HR := Lib.hid (H.out.trans (records_none hlen (recStep_digits HA.out hdig)))
        go_wp2_with fail
        refine (decimal_none hdig _ (by omega) (by omega)).mono ?_
        rintro e w' ⟨rfl, rfl⟩
        clear hdig
        go_wp2_with fail
        go_ret2
        exact RecR.no HR.out (below_drewN hbel nn)
      · go_wp2_with fail
        refine (decimal_some hdig _ (by omega) (by omega)).mono ?_
        rintro e w' ⟨rfl, rfl⟩
        obtain ⟨hd1, hd2, hd3⟩ := digits_bd hdig
        rw [bl_length] at hd1 hd2
        have HD := Lib.hid hdig; clear hdig
        have hd3' : n < 1000000000 := Nat.lt_of_lt_of_le hd3 (by decide)
        clear hd3
        by_cases h48 : a[0] = 48
        · have HR := Lib.hid (H.out.trans (records_none hlen (recStep_no HA.out HD.out hd1 (.inl h48))))
          have h48' : ((a[0].toNat : Int) == 48) = true := by rw [h48]; rfl
          clear h48
          go_wp2_with fail
          go_ret2
          exact RecR.no HR.out (below_drewN hbel nn)
        have h48' : ((a[0].toNat : Int) == 48) = false := beq_eq_false_iff_ne.2 fun e => h48 (byte_eq (d := 48) e)
        have H48 := Lib.hid h48; clear h48
        by_cases hnq : q.size < n
        · have HR := Lib.hid (H.out.trans (records_none hlen (recStep_no HA.out HD.out hd1 (.inr (.inl hnq)))))
          go_wp2_with fail
          go_ret2
          exact RecR.no HR.out (below_drewN hbel nn)
        have hnq' : n ≤ q.size := by omega
        have b1 : decide (q.size < n) = false := decide_eq_false hnq
        clear hnq
        by_cases hna : n < a.size + 2
        · have HR := Lib.hid (H.out.trans (records_none hlen (recStep_no HA.out HD.out hd1 (.inr (.inr (.inl hna))))))
          go_wp2_with fail
          go_ret2
          exact RecR.no HR.out (below_drewN hbel nn)
        have hna' : a.size + 2 ≤ n := by omega
        have b2 : decide ((n : Int) < (a.size : Int) + 2) = false := decide_eq_false (by omega)
        clear hna
        have hn1 : n - 1 < q.size := by omega
        by_cases h10 : q[n - 1] = 10
        · have h10' : ((q[n - 1].toNat : Int) != 10) = false := by rw [h10]; rfl
          have H10 := Lib.hid h10; clear h10
          go_wp2_with fail
          refine (cut_any (q.extract (a.size + 1) (n - 1)) 61 m _ (by simp; omega) (by simpa using hmr)).mono ?_
          rintro e w' ⟨k, x, rfl, hk, hx, hks, n2, rfl⟩
          have HY := Lib.hid (recStep_yes HA.out HD.out hd1 H48.out hnq' hna' H10.out hk)
          have hxs : (q.extract (a.size + 1) (n - 1)).size = min (n - 1) q.size - (a.size + 1) := by simp
          have hmn : min (n - 1) q.size - (a.size + 1) = n - 1 - (a.size + 1) := by omega
          have HK := Lib.hid hk
          have HX := Lib.hid hx
          have HXS := Lib.hid hxs
          have HMN := Lib.hid hmn
          clear hk hx hxs hmn
          by_cases hf : k.size < min (n - 1) q.size - (a.size + 1)
          · have hf' : decide (k.size < min (n - 1) q.size - (a.size + 1)) = true := decide_eq_true hf
            by_cases hk0 : k.size = 0
            · have HR := Lib.hid (H.out.trans (records_none hlen (HY.out.trans (if_pos (.inr hk0)))))
              have hk0' := isEmpty_of hk0
              clear hk0
              go_wp2_with fail
              go_ret2
              exact RecR.no HR.out (below_drewN hbel (nn + n2))
            · have hk0' := not_isEmpty_of (s := k) (by omega)
              obtain ⟨f', hf1, hR⟩ := records_some (acc := acc) hlen (by rw [bl_length]; exact hfu) (HY.out.trans (if_neg (by have := HXS.out; omega)))
              have HF := Lib.hid hf1
              have HR := Lib.hid (H.out.trans hR)
              clear hf1 hR hk0
              go_wp2_with (at_builtin; refine wpList_append_own _ rfl _ _ 53 rfl w.heap.size 93 i0 (.agg #[.string ⟨#[]⟩, .string ⟨#[]⟩]) 2 32 Tryd.underlying53 hi hz0 hz1 hz2 rfl (by decide) _ _ _ rfl (hown.alloc _) ⟨wr.heap.size, 0, none⟩ 1 1 [.string k, .string x] rfl rfl ?c1 ?c2 ?c3 ?c4 ?c5 ?_)
              case c1 => exact new_cells _ [_, _] _ _ rfl
              case c2 => intro u hu; simp at hu; rcases hu with rfl | rfl <;> rfl
              case c3 => unfold maxLen; omega
              case c4 => omega
              case c5 => have := hbel.size; simp; omega
              intro v' w1 hown' hgrow _
              have hb2 := below_push (below_drewN hbel (nn + n2)) hbel.size (own_drewN hown (nn + n2)) hgrow
              have hown2 : w1.ownsRow w.heap.size 93 2 v' (acc ++ [(bl k, (bl (q.extract (a.size + 1) (n - 1))).drop (k.size + 1))]).length (recCells (acc ++ [(bl k, (bl (q.extract (a.size + 1) (n - 1))).drop (k.size + 1))])) := by
                rw [recCells_snoc, List.length_append, ← HX.out]; exact hown'
              have HO := Lib.hid hown2
              clear hown' hgrow hown hown2
              go_wp2_with fail
              go_roundg (q.size - n)
              case rel =>
                refine ⟨q.extract n q.size, f', _, by simp, by have := HF.out; simp; omega, ?_, rfl, ?_, HO.out, hb2⟩
                · simp; omega
                · rw [HR.out, bl_tail q n]
              case measure => have := HG.out; omega
          · have hf' : decide (k.size < min (n - 1) q.size - (a.size + 1)) = false := decide_eq_false hf
            have HR := Lib.hid (H.out.trans (records_none hlen (HY.out.trans (if_pos (.inl (by have := HXS.out; omega))))))
            go_wp2_with fail
            go_ret2
            exact RecR.no HR.out (below_drewN hbel (nn + n2))
        · have HR := Lib.hid (H.out.trans (records_none hlen (recStep_no HA.out HD.out hd1 (.inr (.inr (.inr ⟨hn1, h10⟩))))))
          have h10' : ((q[n - 1].toNat : Int) != 10) = true := bne_iff_ne.2 fun e => h10 (byte_eq (d := 10) e)
          clear h10
          go_wp2_with fail
          go_ret2
          exact RecR.no HR.out (below_drewN hbel nn)
end Tp
end Go.Proofs.YtiehjmjobcklmaaDoor
