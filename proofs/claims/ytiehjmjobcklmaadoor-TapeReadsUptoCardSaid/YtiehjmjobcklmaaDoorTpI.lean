/- The reference's Read: the data of a member, and where the next head stands. -/
import Derived.Test.YtiehjmjobcklmaaDoorTpH
namespace Go.Proofs.YtiehjmjobcklmaaDoor
open Go.RowKit Go.Shelf Go.Lib
namespace Tp
/-- the frame behind the numbers -/
structure Fk (s h lo : ByteArray) (named : Bool) (fv x y : Value) (p size mode time : Nat) (kind : UInt8) (ot : Bool) (t : Array Value) : Prop where
  fr : Fr s fv x y lo named p t
  h11 : t[11]? = some (.string h)
  h17 : t[17]? = some (.int .i64 size)
  h18 : t[18]? = some (.int .i64 mode)
  h19 : t[19]? = some (.int .i64 time)
  h20 : t[20]? = some (.int .u8 kind.toNat)
  h21 : t[21]? = some (.bool ot)
section
variable (t : Array Value) (s h lo : ByteArray) (named : Bool) (fv x y : Value) (p size mode time : Nat) (kind : UInt8) (ot : Bool) (w0 w : World) (Q : Exit → Act → World → Prop)
set_option maxRecDepth 100000 in
set_option maxHeartbeats 4000000 in
theorem ref_len (hFk : Fk s h lo named fv x y p size mode time kind ot t)
    (hN : ∀ (t : Array Value), Fk s h lo named fv x y p size mode time kind ot t → t[30]? = some (.int .i64 (lenM kind size)) → Code.wp Tryd.prog (cDrop 21 refBody) Q ⟨t, []⟩ w) :
    Code.wp Tryd.prog (cDrop 19 refBody) Q ⟨t, []⟩ w := by
  obtain ⟨hF, h11, h17, h18, h19, h20, h21⟩ := hFk
  obtain ⟨hsz, h0, h5, h6, h7, h8, h9, h10⟩ := hF
  obtain ⟨u, rfl⟩ := spread t hsz
  replace h0 : u 0 = .string s := Option.some.inj h0
  replace h5 : u 5 = fv := Option.some.inj h5
  replace h6 : u 6 = x := Option.some.inj h6
  replace h7 : u 7 = y := Option.some.inj h7
  replace h8 : u 8 = .string lo := Option.some.inj h8
  replace h9 : u 9 = .bool named := Option.some.inj h9
  replace h10 : u 10 = .int .i64 p := Option.some.inj h10
  replace h11 : u 11 = .string h := Option.some.inj h11
  replace h17 : u 17 = .int .i64 size := Option.some.inj h17
  replace h18 : u 18 = .int .i64 mode := Option.some.inj h18
  replace h19 : u 19 = .int .i64 time := Option.some.inj h19
  replace h20 : u 20 = .int .u8 kind.toNat := Option.some.inj h20
  replace h21 : u 21 = .bool ot := Option.some.inj h21
  rw [h0, h5, h6, h7, h8, h9, h10, h11, h17, h18, h19, h20, h21]
  clear h0 h5 h6 h7 h8 h9 h10 h11 h17 h18 h19 h20 h21 hsz
  have e : cDrop 19 refBody = cUpto 2 (cDrop 19 refBody) (cDrop 21 refBody) := by kernel_rfl
  rw [e]
  clear e
  generalize cDrop 21 refBody = tl at hN ⊢
  dsimp only [cUpto, refBody, refLoop, refTop, cDrop, cLeft, cRight, cBlk, cLoop, Tryd.f8, Option.getD]
  have FIN := Lib.hid hN
  clear hN
  have hkb : kind.toNat < 256 := kind.toNat_lt
  by_cases h1 : 49 ≤ kind.toNat
  · by_cases h2 : kind.toNat ≤ 54
    · have h1' : (49 : Int) ≤ (kind.toNat : Int) := by omega
      have h2' : (kind.toNat : Int) ≤ 54 := by omega
      have HX := Lib.hid (show lenM kind size = 0 by rw [lenM, if_pos ⟨h1, h2⟩])
      clear h1 h2
      go_wp2_with fail
      exact FIN.out _ ⟨⟨rfl, rfl, rfl, rfl, rfl, rfl, rfl, rfl⟩, rfl, rfl, rfl, rfl, rfl, rfl⟩ (by rw [HX.out]; rfl)
    · have h1' : (49 : Int) ≤ (kind.toNat : Int) := by omega
      have h2' : (54 : Int) < (kind.toNat : Int) := by omega
      have HX := Lib.hid (show lenM kind size = size by rw [lenM, if_neg (fun h => h2 h.2)])
      clear h1 h2
      go_wp2_with fail
      exact FIN.out _ ⟨⟨rfl, rfl, rfl, rfl, rfl, rfl, rfl, rfl⟩, rfl, rfl, rfl, rfl, rfl, rfl⟩ (by rw [HX.out]; rfl)
  · have h1' : (kind.toNat : Int) < 49 := by omega
    have HX := Lib.hid (show lenM kind size = size by rw [lenM, if_neg (fun h => h1 h.1)])
    clear h1
    go_wp2_with fail
    exact FIN.out _ ⟨⟨rfl, rfl, rfl, rfl, rfl, rfl, rfl, rfl⟩, rfl, rfl, rfl, rfl, rfl, rfl⟩ (by rw [HX.out]; rfl)
set_option maxRecDepth 100000 in
set_option maxHeartbeats 4000000 in
theorem ref_fit (len : Nat) (hFk : Fk s h lo named fv x y p size mode time kind ot t) (h30 : t[30]? = some (.int .i64 len)) (hl : len ≤ 10000000000000)
    (hs : s.size ≤ 1048576) (hp : p + 512 ≤ s.size) (hB : Below w0.heap.size w0 w) (hQ : Qs s w0 p Q) (hst : s.size < p + 512 + len → readM s.size (bl s) 0 st0 = .error (3, p + 512))
    (hN : ∀ (t : Array Value) (D : ByteArray), Fk s h lo named fv x y (p + 512 + len) size mode time kind ot t → t[31]? = some (.string D) → t[32]? = some (.int .i64 p) → bl D = fld (bl s) (p + 512) len → D.size = len → p + 512 + len ≤ s.size →
      Code.wp Tryd.prog (cDrop 25 refBody) Q ⟨t, []⟩ w) :
    Code.wp Tryd.prog (cDrop 21 refBody) Q ⟨t, []⟩ w := by
  obtain ⟨hF, h11, h17, h18, h19, h20, h21⟩ := hFk
  obtain ⟨hsz, h0, h5, h6, h7, h8, h9, h10⟩ := hF
  obtain ⟨u, rfl⟩ := spread t hsz
  replace h0 : u 0 = .string s := Option.some.inj h0
  replace h5 : u 5 = fv := Option.some.inj h5
  replace h6 : u 6 = x := Option.some.inj h6
  replace h7 : u 7 = y := Option.some.inj h7
  replace h8 : u 8 = .string lo := Option.some.inj h8
  replace h9 : u 9 = .bool named := Option.some.inj h9
  replace h10 : u 10 = .int .i64 p := Option.some.inj h10
  replace h11 : u 11 = .string h := Option.some.inj h11
  replace h17 : u 17 = .int .i64 size := Option.some.inj h17
  replace h18 : u 18 = .int .i64 mode := Option.some.inj h18
  replace h19 : u 19 = .int .i64 time := Option.some.inj h19
  replace h20 : u 20 = .int .u8 kind.toNat := Option.some.inj h20
  replace h21 : u 21 = .bool ot := Option.some.inj h21
  replace h30 : u 30 = .int .i64 len := Option.some.inj h30
  rw [h0, h5, h6, h7, h8, h9, h10, h11, h17, h18, h19, h20, h21, h30]
  clear h0 h5 h6 h7 h8 h9 h10 h11 h17 h18 h19 h20 h21 h30 hsz
  have e : cDrop 21 refBody = cUpto 4 (cDrop 21 refBody) (cDrop 25 refBody) := by kernel_rfl
  rw [e]
  clear e
  generalize cDrop 25 refBody = tl at hN ⊢
  dsimp only [cUpto, refBody, refLoop, refTop, cDrop, cLeft, cRight, cBlk, cLoop, Tryd.f8, Option.getD]
  have FIN := Lib.hid hN
  clear hN
  by_cases hfit : s.size < p + 512 + len
  · have hfb : (s.size : Int) - (p : Int) - 512 < (len : Int) := by omega
    have HE := Lib.hid (hst hfit)
    clear hfit hst
    go_wp2_with fail
    exact hQ.ret _ _ _ _ _ rfl rfl rfl (RefR.err HE.out rfl (by simp) hB)
  · have hfb : (len : Int) ≤ (s.size : Int) - (p : Int) - 512 := by omega
    have hD : bl (s.extract (p + 512) (p + 512 + len)) = fld (bl s) (p + 512) len := by
      rw [bl_extract, fld]; congr 1; omega
    have hDs : (s.extract (p + 512) (p + 512 + len)).size = len := by simp; omega
    have hle : p + 512 + len ≤ s.size := by omega
    have HD := Lib.hid hD
    have HDS := Lib.hid hDs
    clear hst hfit hD hDs
    go_wp2_with fail
    exact FIN.out _ _ ⟨⟨rfl, rfl, rfl, rfl, rfl, rfl, rfl, (rfl : _ = some (Value.int .i64 ((p : Int) + (512 + (len : Int))))).trans (congrArg some (by go_num))⟩, rfl, rfl, rfl, rfl, rfl, rfl⟩ rfl rfl HD.out HDS.out hle
theorem pad_step {k n N : Nat} (h : k % 512 ≠ 0) (hk : k < n) (e : (k + 511) / 512 = N) : (k + 1 + 511) / 512 = N := by omega
set_option maxRecDepth 100000 in
set_option maxHeartbeats 4000000 in
theorem ref_pad (D : ByteArray) (here p' : Nat) (hFk : Fk s h lo named fv x y p size mode time kind ot t) (h31 : t[31]? = some (.string D)) (h32 : t[32]? = some (.int .i64 here))
    (hs : s.size ≤ 1048576) (hp : p ≤ s.size) (hp' : p' = min ((p + 511) / 512 * 512) s.size)
    (hN : ∀ (t : Array Value), Fk s h lo named fv x y p' size mode time kind ot t → t[31]? = some (.string D) → t[32]? = some (.int .i64 here) → Code.wp Tryd.prog (cDrop 26 refBody) Q ⟨t, []⟩ w) :
    Code.wp Tryd.prog (cDrop 25 refBody) Q ⟨t, []⟩ w := by
  obtain ⟨hF, h11, h17, h18, h19, h20, h21⟩ := hFk
  obtain ⟨hsz, h0, h5, h6, h7, h8, h9, h10⟩ := hF
  obtain ⟨u, rfl⟩ := spread t hsz
  replace h0 : u 0 = .string s := Option.some.inj h0
  replace h5 : u 5 = fv := Option.some.inj h5
  replace h6 : u 6 = x := Option.some.inj h6
  replace h7 : u 7 = y := Option.some.inj h7
  replace h8 : u 8 = .string lo := Option.some.inj h8
  replace h9 : u 9 = .bool named := Option.some.inj h9
  replace h10 : u 10 = .int .i64 p := Option.some.inj h10
  replace h11 : u 11 = .string h := Option.some.inj h11
  replace h17 : u 17 = .int .i64 size := Option.some.inj h17
  replace h18 : u 18 = .int .i64 mode := Option.some.inj h18
  replace h19 : u 19 = .int .i64 time := Option.some.inj h19
  replace h20 : u 20 = .int .u8 kind.toNat := Option.some.inj h20
  replace h21 : u 21 = .bool ot := Option.some.inj h21
  replace h31 : u 31 = .string D := Option.some.inj h31
  replace h32 : u 32 = .int .i64 here := Option.some.inj h32
  rw [h0, h5, h6, h7, h8, h9, h10, h11, h17, h18, h19, h20, h21, h31, h32]
  clear h0 h5 h6 h7 h8 h9 h10 h11 h17 h18 h19 h20 h21 h31 h32 hsz
  have e : cDrop 25 refBody = cUpto 1 (cDrop 25 refBody) (cDrop 26 refBody) := by kernel_rfl
  rw [e]
  clear e
  generalize cDrop 26 refBody = tl at hN ⊢
  dsimp only [cUpto, refBody, refLoop, refTop, cDrop, cLeft, cRight, cBlk, cLoop, Tryd.f8, Option.getD]
  have FIN := Lib.hid hN
  have HP := Lib.hid hp'
  clear hN hp'
  obtain ⟨N, hN⟩ : ∃ N, N = (p + 511) / 512 := ⟨_, rfl⟩
  have HN := Lib.hid hN
  clear hN
  go_wp2_with fail
  go_loopg [10] (s.size - p) (fun gk v wr => ∃ k : Nat, gk = s.size - k ∧ p ≤ k ∧ k ≤ s.size ∧ (k + 511) / 512 = N ∧ v = .int .i64 k ∧ w = wr)
  case atStart => exact ⟨p, rfl, Nat.le_refl _, hp, HN.out.symm, rfl, rfl⟩
  case round =>
    obtain ⟨k, hg, hpk, hks, hkn, rfl, rfl⟩ := hrel
    have HG := Lib.hid hg
    have HKN := Lib.hid hkn
    clear hg hkn
    by_cases h1 : k % 512 = 0
    · have h1' : (((k : Int) % 512) != 0) = false := by rw [bne_eq_false_iff_eq]; omega
      have HX := Lib.hid (show p' = k by have := HP.out; have := HN.out; have := HKN.out; omega)
      clear h1
      go_wp2_with fail
      rw [← HX.out]
      exact FIN.out _ ⟨⟨rfl, rfl, rfl, rfl, rfl, rfl, rfl, rfl⟩, rfl, rfl, rfl, rfl, rfl, rfl⟩ rfl rfl
    · have h1' : (((k : Int) % 512) != 0) = true := bne_iff_ne.2 (by omega)
      by_cases h2 : k < s.size
      · have HX := Lib.hid (pad_step h1 h2 HKN.out)
        clear h1
        go_wp2_with fail
        go_roundg (s.size - (k + 1))
        case rel => exact ⟨k + 1, rfl, by omega, by omega, HX.out, by go_num, rfl⟩
        case measure => have := HG.out; omega
      · have HX := Lib.hid (show p' = k by have := HP.out; have := HN.out; have := HKN.out; omega)
        clear h1
        go_wp2_with fail
        rw [← HX.out]
        exact FIN.out _ ⟨⟨rfl, rfl, rfl, rfl, rfl, rfl, rfl, rfl⟩, rfl, rfl, rfl, rfl, rfl, rfl⟩ rfl rfl
end
end Tp
end Go.Proofs.YtiehjmjobcklmaaDoor
