/- The reference's Read: the start of a round. -/
import Derived.Test.YtiehjmjobcklmaaDoorTpL
namespace Go.Proofs.YtiehjmjobcklmaaDoor
open Go.RowKit Go.Shelf Go.Lib
namespace Tp
theorem zero_step (l : Bs) (b : Bool) (c : UInt8) : (b || !(zeroB (c :: l))) = ((b || c != 0) || !(zeroB l)) := by
  unfold zeroB; rw [List.all_cons]; cases b <;> simp [bne]
section
variable (t : Array Value) (s lo : ByteArray) (named : Bool) (fv x y : Value) (p : Nat) (w0 w : World) (Q : Exit → Act → World → Prop)
set_option maxRecDepth 100000 in
set_option maxHeartbeats 4000000 in
theorem ref_h1 (hF : Fr s fv x y lo named p t) (hs : s.size ≤ 1048576) (hlt : p < s.size) (hB : Below w0.heap.size w0 w) (hQ : Qs s w0 p Q) (hcut : s.size - p < 512 → readM s.size (bl s) 0 st0 = .error (3, p))
    (hN : ∀ (t : Array Value) (h : ByteArray), Fr s fv x y lo named p t → t[11]? = some (.string h) → t[12]? = some (.int .i64 0) → t[13]? = some (.bool false) → bl h = fld (bl s) p 512 → h.size = 512 → p + 512 ≤ s.size → Code.wp Tryd.prog (cDrop 3 refBody) Q ⟨t, []⟩ w) :
    Code.wp Tryd.prog (cDrop 0 refBody) Q ⟨t, []⟩ w := by
  obtain ⟨hsz, h0, h5, h6, h7, h8, h9, h10⟩ := hF
  obtain ⟨u, rfl⟩ := spread t hsz
  replace h0 : u 0 = .string s := Option.some.inj h0
  replace h5 : u 5 = fv := Option.some.inj h5
  replace h6 : u 6 = x := Option.some.inj h6
  replace h7 : u 7 = y := Option.some.inj h7
  replace h8 : u 8 = .string lo := Option.some.inj h8
  replace h9 : u 9 = .bool named := Option.some.inj h9
  replace h10 : u 10 = .int .i64 p := Option.some.inj h10
  rw [h0, h5, h6, h7, h8, h9, h10]
  clear h0 h5 h6 h7 h8 h9 h10 hsz
  have e : cDrop 0 refBody = cUpto 3 (cDrop 0 refBody) (cDrop 3 refBody) := by kernel_rfl
  rw [e]
  clear e
  generalize cDrop 3 refBody = tl at hN ⊢
  dsimp only [cUpto, refBody, refLoop, refTop, cDrop, cLeft, cRight, cBlk, cLoop, Tryd.f8, Option.getD]
  have FIN := Lib.hid hN
  clear hN
  by_cases hc : s.size - p < 512
  · have HE := Lib.hid (hcut hc)
    have hcb : (s.size : Int) - (p : Int) < 512 := by omega
    clear hc hcut
    go_wp2_with fail
    exact hQ.ret _ _ _ _ _ rfl rfl rfl (RefR.err HE.out rfl (by simp) hB)
  have hcb : 512 ≤ (s.size : Int) - (p : Int) := by omega
  have HD := Lib.hid (show bl (s.extract p (p + 512)) = fld (bl s) p 512 by rw [bl_extract, fld]; congr 1; omega)
  have HDS := Lib.hid (show (s.extract p (p + 512)).size = 512 by simp; omega)
  have hle : p + 512 ≤ s.size := by omega
  clear hc hcut
  go_wp2_with fail
  exact FIN.out _ _ ⟨rfl, rfl, rfl, rfl, rfl, rfl, rfl, rfl⟩ rfl rfl rfl HD.out HDS.out hle
set_option maxRecDepth 100000 in
set_option maxHeartbeats 4000000 in
theorem ref_sum (h : ByteArray) (hF : Fr s fv x y lo named p t) (h11 : t[11]? = some (.string h)) (h12 : t[12]? = some (.int .i64 0)) (h13 : t[13]? = some (.bool false)) (hh : h.size = 512)
    (hN : ∀ (t : Array Value) (m : Nat), Fr s fv x y lo named p t → t[11]? = some (.string h) → t[12]? = some (.int .i64 m) → t[13]? = some (.bool (!(zeroB (bl h)))) → sumFrom 0 0 (bl h) = m → Code.wp Tryd.prog (cDrop 4 refBody) Q ⟨t, []⟩ w) :
    Code.wp Tryd.prog (cDrop 3 refBody) Q ⟨t, []⟩ w := by
  obtain ⟨hsz, h0, h5, h6, h7, h8, h9, h10⟩ := hF
  obtain ⟨u, rfl⟩ := spread t hsz
  replace h0 : u 0 = .string s := Option.some.inj h0
  replace h5 : u 5 = fv := Option.some.inj h5
  replace h6 : u 6 = x := Option.some.inj h6
  replace h7 : u 7 = y := Option.some.inj h7
  replace h8 : u 8 = .string lo := Option.some.inj h8
  replace h9 : u 9 = .bool named := Option.some.inj h9
  replace h10 : u 10 = .int .i64 p := Option.some.inj h10
  replace h11 : u 11 = .string h := Option.some.inj h11
  replace h12 : u 12 = .int .i64 0 := Option.some.inj h12
  replace h13 : u 13 = .bool false := Option.some.inj h13
  rw [h0, h5, h6, h7, h8, h9, h10, h11, h12, h13]
  clear h0 h5 h6 h7 h8 h9 h10 h11 h12 h13 hsz
  have e : cDrop 3 refBody = cUpto 1 (cDrop 3 refBody) (cDrop 4 refBody) := by kernel_rfl
  rw [e]
  clear e
  generalize cDrop 4 refBody = tl at hN ⊢
  dsimp only [cUpto, refBody, refLoop, refTop, cDrop, cLeft, cRight, cBlk, cLoop, Tryd.f8, Option.getD]
  have FIN := Lib.hid hN
  clear hN
  go_wp2_with fail
  go_loopg [12, 13, 14] 512 (fun gk sv bv iv wx => ∃ (k m : Nat) (b : Bool), gk = 512 - k ∧ k ≤ 512 ∧ m ≤ 256 * k ∧ iv = .int .i64 k ∧ sv = .int .i64 m ∧ bv = .bool b ∧ sumFrom 0 0 (bl h) = sumFrom k m ((bl h).drop k) ∧ (!(zeroB (bl h))) = (b || !(zeroB ((bl h).drop k))) ∧ w = wx)
  case atStart => exact ⟨0, 0, false, rfl, by omega, by omega, rfl, rfl, rfl, rfl, by simp, rfl⟩
  case round =>
    obtain ⟨k, m, b, hg, hk, hm, rfl, rfl, rfl, hsum, hzero, rfl⟩ := hrel
    have HGK := Lib.hid hg
    have HSUM := Lib.hid hsum
    have HZERO := Lib.hid hzero
    clear hg hsum hzero
    by_cases hk5 : k < 512
    · have hlt' : k < h.size := by omega
      have hb8 : h[k].toNat < 256 := h[k].toNat_lt
      have HSTEP := Lib.hid (HSUM.out.trans (by rw [bl_drop h k hlt', sumFrom] : _ = sumFrom (k + 1) (if 148 ≤ k ∧ k < 156 then m + 32 else m + h[k].toNat) ((bl h).drop (k + 1))))
      have HZ2 := Lib.hid (HZERO.out.trans (by rw [bl_drop h k hlt']; exact zero_step _ _ _ : _ = ((b || h[k] != 0) || !(zeroB ((bl h).drop (k + 1))))))
      obtain ⟨b', hb'⟩ : ∃ c, c = (b || h[k] != 0) := ⟨_, rfl⟩
      have HB' := Lib.hid hb'
      clear hb'
      rw [← HB'.out] at HZ2
      go_upto_region 13 with fail
      go_cut [13] from 59 to 83 (fun v wx => v = .bool b' ∧ w = wx)
      case first => as_aux_lemma =>
        rcases b with _ | _
        · by_cases h0 : h[k] = 0
          · have h0b : ((h[k].toNat : Int) != 0) = false := by rw [h0]; rfl
            have HX := Lib.hid (show b' = false by rw [HB'.out, h0]; rfl)
            clear h0
            go_wp2_with fail
            go_meet
            exact ⟨by rw [HX.out], rfl⟩
          · have h0b : ((h[k].toNat : Int) != 0) = true := bne_iff_ne.2 fun e => h0 (byte_eq (d := 0) e)
            have HX := Lib.hid (show b' = true by rw [HB'.out]; simpa using h0)
            clear h0
            go_wp2_with fail
            go_meet
            exact ⟨by rw [HX.out], rfl⟩
        · have HX := Lib.hid (show b' = true by rw [HB'.out]; rfl)
          go_wp2_with fail
          go_meet
          exact ⟨by rw [HX.out], rfl⟩
      case rest =>
      obtain ⟨rfl, rfl⟩ := hcut
      obtain ⟨m', hm'⟩ : ∃ n, n = (if 148 ≤ k ∧ k < 156 then m + 32 else m + h[k].toNat) := ⟨_, rfl⟩
      have hmb : m' ≤ 256 * (k + 1) := by rw [hm']; split <;> omega
      have HM' := Lib.hid hm'
      clear hm'
      rw [← HM'.out] at HSTEP
      by_cases h1 : 148 ≤ k
      · by_cases h2 : k < 156
        · have HX := Lib.hid (show m' = m + 32 by rw [HM'.out, if_pos ⟨h1, h2⟩])
          go_wp2_with fail
          go_roundg (512 - (k + 1))
          case rel => exact ⟨k + 1, m', b', rfl, by omega, hmb, by go_num, by rw [HX.out]; go_num, rfl, HSTEP.out, HZ2.out, rfl⟩
          case measure => have := HGK.out; omega
        · have HX := Lib.hid (show m' = m + h[k].toNat by rw [HM'.out, if_neg (fun h => h2 h.2)])
          go_wp2_with fail
          go_roundg (512 - (k + 1))
          case rel => exact ⟨k + 1, m', b', rfl, by omega, hmb, by go_num, by rw [HX.out]; go_num, rfl, HSTEP.out, HZ2.out, rfl⟩
          case measure => have := HGK.out; omega
      · have HX := Lib.hid (show m' = m + h[k].toNat by rw [HM'.out, if_neg (fun h => h1 h.1)])
        go_wp2_with fail
        go_roundg (512 - (k + 1))
        case rel => exact ⟨k + 1, m', b', rfl, by omega, hmb, by go_num, by rw [HX.out]; go_num, rfl, HSTEP.out, HZ2.out, rfl⟩
        case measure => have := HGK.out; omega
    · have hk512 : k = 512 := by omega
      subst hk512
      have HX := Lib.hid (show sumFrom 0 0 (bl h) = m by rw [HSUM.out, bl_drop_end h _ (by omega), sumFrom])
      have HY := Lib.hid (show (!(zeroB (bl h))) = b by rw [HZERO.out, bl_drop_end h _ (by omega)]; simp [zeroB])
      rw [HY.out] at FIN
      clear HSUM HZERO HGK hk5
      go_wp2_with fail
      exact FIN.out _ _ ⟨rfl, rfl, rfl, rfl, rfl, rfl, rfl, rfl⟩ rfl rfl rfl HX.out
set_option maxRecDepth 100000 in
set_option maxHeartbeats 4000000 in
theorem ref_zero (h : ByteArray) (m : Nat) (b : Bool) (hF : Fr s fv x y lo named p t) (h11 : t[11]? = some (.string h)) (h12 : t[12]? = some (.int .i64 m)) (h13 : t[13]? = some (.bool b))
    (hx : b = false → ∀ (t : Array Value), t.size = 346 → t[5]? = some fv → Q (.exit 0) ⟨t, []⟩ w)
    (hN : b = true → ∀ (t : Array Value), Fr s fv x y lo named p t → t[11]? = some (.string h) → t[12]? = some (.int .i64 m) → Code.wp Tryd.prog (cDrop 5 refBody) Q ⟨t, []⟩ w) :
    Code.wp Tryd.prog (cDrop 4 refBody) Q ⟨t, []⟩ w := by
  obtain ⟨hsz, h0, h5, h6, h7, h8, h9, h10⟩ := hF
  obtain ⟨u, rfl⟩ := spread t hsz
  replace h0 : u 0 = .string s := Option.some.inj h0
  replace h5 : u 5 = fv := Option.some.inj h5
  replace h6 : u 6 = x := Option.some.inj h6
  replace h7 : u 7 = y := Option.some.inj h7
  replace h8 : u 8 = .string lo := Option.some.inj h8
  replace h9 : u 9 = .bool named := Option.some.inj h9
  replace h10 : u 10 = .int .i64 p := Option.some.inj h10
  replace h11 : u 11 = .string h := Option.some.inj h11
  replace h12 : u 12 = .int .i64 m := Option.some.inj h12
  replace h13 : u 13 = .bool b := Option.some.inj h13
  rw [h0, h5, h6, h7, h8, h9, h10, h11, h12, h13]
  clear h0 h5 h6 h7 h8 h9 h10 h11 h12 h13 hsz
  have e : cDrop 4 refBody = cUpto 1 (cDrop 4 refBody) (cDrop 5 refBody) := by kernel_rfl
  rw [e]
  clear e
  generalize cDrop 5 refBody = tl at hN ⊢
  dsimp only [cUpto, refBody, refLoop, refTop, cDrop, cLeft, cRight, cBlk, cLoop, Tryd.f8, Option.getD]
  have FIN := Lib.hid hN
  have HX := Lib.hid hx
  clear hN hx
  rcases b with _ | _
  · have HX2 := Lib.hid (HX.out rfl)
    clear FIN HX
    go_wp2_with fail
    exact HX2.out _ rfl rfl
  · have FI2 := Lib.hid (FIN.out rfl)
    clear FIN HX
    go_wp2_with fail
    exact FI2.out _ ⟨rfl, rfl, rfl, rfl, rfl, rfl, rfl, rfl⟩ rfl rfl
end
end Tp
end Go.Proofs.YtiehjmjobcklmaaDoor
