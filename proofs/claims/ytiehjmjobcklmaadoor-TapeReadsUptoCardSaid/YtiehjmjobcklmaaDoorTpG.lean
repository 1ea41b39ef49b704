/- The reference's Read: the kind of a head. -/
import Derived.Test.YtiehjmjobcklmaaDoorTpF
namespace Go.Proofs.YtiehjmjobcklmaaDoor
open Go.RowKit Go.Shelf Go.Lib
namespace Tp
set_option maxRecDepth 100000 in
set_option maxHeartbeats 4000000 in
theorem ref_kind (t : Array Value) (s h lo : ByteArray) (named : Bool) (fv x y : Value) (p size0 mode time0 : Nat) (w : World) (Q : Exit → Act → World → Prop)
    (hF : Fr s fv x y lo named p t) (h11 : t[11]? = some (.string h)) (h17 : t[17]? = some (.int .i64 size0)) (h18 : t[18]? = some (.int .i64 mode)) (h19 : t[19]? = some (.int .i64 time0)) (hh : h.size = 512)
    (hN : ∀ (t : Array Value), Fr s fv x y lo named p t → t[11]? = some (.string h) → t[17]? = some (.int .i64 size0) → t[18]? = some (.int .i64 mode) → t[19]? = some (.int .i64 time0) →
      t[20]? = some (.int .u8 (kindM (bl h)).toNat) → t[21]? = some (.bool (!specB (kindM (bl h)))) → Code.wp Tryd.prog (cDrop 17 refBody) Q ⟨t, []⟩ w) :
    Code.wp Tryd.prog (cDrop 14 refBody) Q ⟨t, []⟩ w := by
  obtain ⟨hsz, h0, h5, h6, h7, h8, h9, h10⟩ := hF
  obtain ⟨u, rfl⟩ := spread t hsz
  replace h0 : u 0 = .string s := Option.some.inj h0
  replace h5 : u 5 = fv := Option.some.inj h5
  replace h6 : u 6 = x := Option.some.inj h6
  replace h7 : u 7 = y := Option.some.inj h7
  replace h8 : u 8 = .string lo := Option.some.inj h8
  replace h9 : u 9 = .bool named := Option.some.inj h9
  replace h10 : u 10 = .int .i64 p := Option.some.inj h10
  replace h11 : u 11 = .string h := Option.some.inj h11
  replace h17 : u 17 = .int .i64 size0 := Option.some.inj h17
  replace h18 : u 18 = .int .i64 mode := Option.some.inj h18
  replace h19 : u 19 = .int .i64 time0 := Option.some.inj h19
  rw [h0, h5, h6, h7, h8, h9, h10, h11, h17, h18, h19]
  clear h0 h5 h6 h7 h8 h9 h10 h11 h17 h18 h19 hsz
  have e : cDrop 14 refBody = cUpto 3 (cDrop 14 refBody) (cDrop 17 refBody) := by kernel_rfl
  rw [e]
  clear e
  generalize cDrop 17 refBody = tl at hN ⊢
  dsimp only [cUpto, refBody, refLoop, refTop, cDrop, cLeft, cRight, cBlk, cLoop, Tryd.f8, Option.getD]
  go_upto_region 32 with fail
  have hk156 := kind_get (h := h) (by omega)
  have hh156 : 156 < h.size := by omega
  have hkb8 : h[156].toNat < 256 := h[156].toNat_lt
  go_upto_region 33 with fail
  obtain ⟨kind, hkind⟩ : ∃ k, k = kindM (bl h) := ⟨_, rfl⟩
  have HKD := Lib.hid hkind
  obtain ⟨z, hz⟩ : ∃ b, b = (h[156] == 0) := ⟨_, rfl⟩
  have HZ := Lib.hid hz
  clear hz
  go_cut [134] from 44 to 345 (fun c wx => c = .bool z ∧ w = wx)
  case first => as_aux_lemma =>
    clear hkind hk156
    by_cases h0 : h[156] = 0
    · have h0b : ((h[156].toNat : Int) == 0) = true := by rw [h0]; rfl
      have HX := Lib.hid (show z = true by rw [HZ.out, h0]; rfl)
      clear h0
      go_wp2_with fail
      go_meet
      exact ⟨by rw [HX.out], rfl⟩
    · have h0b : ((h[156].toNat : Int) == 0) = false := beq_eq_false_iff_ne.2 fun e => h0 (byte_eq (d := 0) e)
      have HX := Lib.hid (show z = false by rw [HZ.out]; simpa using h0)
      clear h0
      go_wp2_with fail
      go_meet
      exact ⟨by rw [HX.out], rfl⟩
  case rest =>
  obtain ⟨rfl, rfl⟩ := hcut
  go_upto_if 134 with fail
  go_cut [20] from 44 to 345 (fun k wx => k = .int .u8 kind.toNat ∧ w = wx)
  case first => as_aux_lemma =>
    have hk2 : kind = (if h[156] = 0 then (48 : UInt8) else h[156]) := by rw [hkind, kindM, hk156]
    clear hkind hk156
    rcases z with _ | _
    · have HX := Lib.hid (show kind = h[156] by rw [hk2, if_neg (by have := HZ.out; simpa using this.symm)])
      clear hk2
      go_wp2_with fail
      go_meet
      exact ⟨by rw [HX.out], rfl⟩
    · have HX := Lib.hid (show kind = 48 by rw [hk2, if_pos (by have := HZ.out; simpa using this.symm)])
      clear hk2
      go_wp2_with fail
      go_meet
      exact ⟨by rw [HX.out]; rfl, rfl⟩
  case rest =>
  obtain ⟨rfl, rfl⟩ := hcut
  clear hkind hk156
  have hkb : kind.toNat < 256 := kind.toNat_lt
  go_step
  have FIN := Lib.hid hN
  clear hN
  by_cases h1 : kind.toNat = 120
  · have e1 : ((kind.toNat : Int) != 120) = false := by rw [bne_eq_false_iff_eq]; omega
    have HX := Lib.hid (show specB kind = true by simp [specB, h1])
    clear h1
    go_wp2_with fail
    refine FIN.out _ ?_ ?_ ?_ ?_ ?_ ?_ ?_
    · exact ⟨rfl, rfl, rfl, rfl, rfl, rfl, rfl, rfl⟩
    · rfl
    · rfl
    · rfl
    · rfl
    · rw [← HKD.out]; rfl
    · rw [← HKD.out, HX.out]; rfl
  have e1 : ((kind.toNat : Int) != 120) = true := bne_iff_ne.2 (by omega)
  by_cases h2 : kind.toNat = 103
  · have e2 : ((kind.toNat : Int) != 103) = false := by rw [bne_eq_false_iff_eq]; omega
    have HX := Lib.hid (show specB kind = true by simp [specB, h2])
    clear h1 h2
    go_wp2_with fail
    refine FIN.out _ ?_ ?_ ?_ ?_ ?_ ?_ ?_
    · exact ⟨rfl, rfl, rfl, rfl, rfl, rfl, rfl, rfl⟩
    · rfl
    · rfl
    · rfl
    · rfl
    · rw [← HKD.out]; rfl
    · rw [← HKD.out, HX.out]; rfl
  have e2 : ((kind.toNat : Int) != 103) = true := bne_iff_ne.2 (by omega)
  by_cases h3 : kind.toNat = 76
  · have e3 : ((kind.toNat : Int) != 76) = false := by rw [bne_eq_false_iff_eq]; omega
    have HX := Lib.hid (show specB kind = true by simp [specB, h3])
    clear h1 h2 h3
    go_wp2_with fail
    refine FIN.out _ ?_ ?_ ?_ ?_ ?_ ?_ ?_
    · exact ⟨rfl, rfl, rfl, rfl, rfl, rfl, rfl, rfl⟩
    · rfl
    · rfl
    · rfl
    · rfl
    · rw [← HKD.out]; rfl
    · rw [← HKD.out, HX.out]; rfl
  have e3 : ((kind.toNat : Int) != 76) = true := bne_iff_ne.2 (by omega)
  have HX := Lib.hid (show specB kind = false by simp [specB, h1, h2, h3])
  clear h1 h2 h3
  go_wp2_with fail
  refine FIN.out _ ?_ ?_ ?_ ?_ ?_ ?_ ?_
  · exact ⟨rfl, rfl, rfl, rfl, rfl, rfl, rfl, rfl⟩
  · rfl
  · rfl
  · rfl
  · rfl
  · rw [← HKD.out]; rfl
  · rw [← HKD.out, HX.out]; rfl
end Tp
end Go.Proofs.YtiehjmjobcklmaaDoor
