/- The reference's Read: what is told of a size, and of a time. -/
import Derived.Test.YtiehjmjobcklmaaDoorTpG
namespace Go.Proofs.YtiehjmjobcklmaaDoor
open Go.RowKit Go.Shelf Go.Lib
namespace Tp
theorem toldM_len {N : Nat} {rs : List Rec} {k l : Bs} (h : toldM rs k = some l) (hb : ∀ r ∈ rs, r.2.length ≤ N) : l.length ≤ N := by
  unfold toldM at h
  rcases hf : rs.reverse.find? (fun r => r.1 == k) with _ | r
  · rw [hf] at h; cases h
  · rw [hf] at h
    injection h with h
    subst h
    exact hb _ (by simpa using List.mem_of_find?_eq_some hf)
theorem pickM_len {N : Nat} {xs ys : List Rec} {k l : Bs} (h : pickM xs ys k = some l) (hx : ∀ r ∈ xs, r.2.length ≤ N) (hy : ∀ r ∈ ys, r.2.length ≤ N) : l.length ≤ N := by
  unfold pickM at h
  rcases hf : toldM xs k with _ | v
  · rw [hf] at h; exact toldM_len h hy
  · rw [hf] at h; injection h with h; subst h; exact toldM_len hf hx
set_option maxRecDepth 100000 in
set_option maxHeartbeats 4000000 in
theorem ref_size (t : Array Value) (s h lo : ByteArray) (named : Bool) (fv x y : Value) (xs ys : List Rec) (fs : List FileM) (p size0 mode time0 : Nat) (kind : UInt8) (ot : Bool) (w0 w : World) (Q : Exit → Act → World → Prop)
    (hF : Fr s fv x y lo named p t) (h11 : t[11]? = some (.string h)) (h17 : t[17]? = some (.int .i64 size0)) (h18 : t[18]? = some (.int .i64 mode)) (h19 : t[19]? = some (.int .i64 time0)) (h20 : t[20]? = some (.int .u8 kind.toNat)) (h21 : t[21]? = some (.bool ot))
    (hs : s.size ≤ 1048576) (hp : p + 512 ≤ s.size) (hK : RK s w0 fv x y xs ys fs p w) (hQ : Qs s w0 p Q) (hnum : numbersM (bl h) = .ok (mode, size0, time0)) (hkd : kindM (bl h) = kind) (hot : ot = !specB kind)
    (hst : ∀ e, headM (bl s) (bl h) p (stOf xs ys lo named fs) = .error e → readM s.size (bl s) 0 st0 = .error e)
    (hN : ∀ (t : Array Value) (size : Nat), Fr s fv x y lo named p t → t[11]? = some (.string h) → t[17]? = some (.int .i64 size) → t[18]? = some (.int .i64 mode) → t[19]? = some (.int .i64 time0) → t[20]? = some (.int .u8 kind.toNat) → t[21]? = some (.bool ot) →
      sizeM kind (stOf xs ys lo named fs) size0 = some size → size ≤ 10000000000000 → Code.wp Tryd.prog (cDrop 18 refBody) Q ⟨t, []⟩ w) :
    Code.wp Tryd.prog (cDrop 17 refBody) Q ⟨t, []⟩ w := by
  have hsb := (numbersM_bd hnum).2.1
  have HSM := Lib.hid (show sizeM kind (stOf xs ys lo named fs) size0 = (if ot = true then optNum (pickM xs ys kSize) size0 (fun t => digits t 12) else some size0) by
    unfold sizeM; rw [stOf_size, hot]; cases specB kind <;> rfl)
  have HST := Lib.hid (fun (e : sizeM kind (stOf xs ys lo named fs) size0 = none) => hst _ (headM_size hnum (by rw [hkd]; exact e)))
  have HXL := Lib.hid hK.xl
  have HYL := Lib.hid hK.yl
  have HKK := Lib.hid hK
  have C := Lib.hid (pick_any xs ys ⟨#[115, 105, 122, 101]⟩ x y w0.heap.size w0.heap.size w (by have := hK.xy; have := hK.le; omega) (by have := hK.xy; have := hK.le; omega) hK.rs.rx hK.rs.ry)
  clear hst hnum hkd hot hK
  obtain ⟨hsz, h0, h5, h6, h7, h8, h9, h10⟩ := hF
  obtain ⟨u, rfl⟩ := spread t hsz
  replace h0 : u 0 = .string s := Option.some.inj h0
  replace h5 : u 5 = fv := Option.some.inj h5
  replace h6 : u 6 = x := Option.some.inj h6
  replace h7 : u 7 = y := Option.some.inj h7
  replace h8 : u 8 = .string lo := Option.some.inj h8
  replace h9 : u 9 = .bool named := Option.some.inj h9
  replace h10 : u 10 = .int .i64 p := Option.some.inj h10
  replace h11 : u 11 = .string h := Option.some.inj h11
  replace h17 : u 17 = .int .i64 size0 := Option.some.inj h17
  replace h18 : u 18 = .int .i64 mode := Option.some.inj h18
  replace h19 : u 19 = .int .i64 time0 := Option.some.inj h19
  replace h20 : u 20 = .int .u8 kind.toNat := Option.some.inj h20
  replace h21 : u 21 = .bool ot := Option.some.inj h21
  rw [h0, h5, h6, h7, h8, h9, h10, h11, h17, h18, h19, h20, h21]
  clear h0 h5 h6 h7 h8 h9 h10 h11 h17 h18 h19 h20 h21 hsz
  have e : cDrop 17 refBody = cUpto 1 (cDrop 17 refBody) (cDrop 18 refBody) := by kernel_rfl
  rw [e]
  clear e
  generalize cDrop 18 refBody = tl at hN ⊢
  dsimp only [cUpto, refBody, refLoop, refTop, cDrop, cLeft, cRight, cBlk, cLoop, Tryd.f8, Option.getD]
  have FIN := Lib.hid hN
  clear hN
  go_wp2_with fail
  refine C.out.mono ?_
  rintro e w' ⟨r, b, rfl, hr, rfl⟩
  have HR := Lib.hid (show pickM xs ys kSize = _ from hr)
  clear hr C
  by_cases hb : b = true ∧ ot = true
  · obtain ⟨rfl, rfl⟩ := hb
    have hr12 : r.size ≤ 1048576 := by rw [← bl_length]; exact pickM_len HR.out HXL.out HYL.out
    have HS := Lib.hid (HSM.out.trans (by rw [if_pos rfl, HR.out]; rfl : _ = digits (bl r) 12))
    clear HSM HR HXL HYL
    rcases hd : digits (bl r) 12 with _ | n
    · have HE := Lib.hid (HST.out (HS.out.trans hd))
      have C := Lib.hid (fun W => digits_none hd W hr12 (by omega))
      clear hd
      go_wp2_with fail
      refine (C.out _).mono ?_
      rintro e w' ⟨rfl, rfl⟩
      go_wp2_with fail
      exact hQ.ret _ _ _ _ _ rfl rfl rfl (RefR.err HE.out rfl (by simp) HKK.out.b)
    · have hn := (digits_bd hd).2.2
      have hn' : n < 1000000000000 := Nat.lt_of_lt_of_le hn (by decide)
      have HS := Lib.hid (HS.out.trans hd)
      have C := Lib.hid (fun W => digits_some hd W hr12 (by omega))
      clear hd hn
      go_wp2_with fail
      refine (C.out _).mono ?_
      rintro e w' ⟨rfl, rfl⟩
      go_wp2_with fail
      exact FIN.out _ _ ⟨rfl, rfl, rfl, rfl, rfl, rfl, rfl, rfl⟩ rfl rfl rfl rfl rfl rfl HS.out (by omega)
  · have HS := Lib.hid (HSM.out.trans (show _ = some size0 by
      rcases ot with _ | _
      · rfl
      · rcases b with _ | _
        · rw [if_pos rfl, HR.out]; rfl
        · exact absurd ⟨rfl, rfl⟩ hb))
    have hbo : (b = false) ∨ (b = true ∧ ot = false) := by
      rcases b with _ | _
      · exact .inl rfl
      · rcases ot with _ | _
        · exact .inr ⟨rfl, rfl⟩
        · exact absurd ⟨rfl, rfl⟩ hb
    clear hb HSM HR HXL HYL
    rcases hbo with rfl | ⟨rfl, rfl⟩
    all_goals
      go_wp2_with fail
      exact FIN.out _ _ ⟨rfl, rfl, rfl, rfl, rfl, rfl, rfl, rfl⟩ rfl rfl rfl rfl rfl rfl HS.out (by omega)
set_option maxRecDepth 100000 in
set_option maxHeartbeats 4000000 in
theorem ref_time (t : Array Value) (s h lo : ByteArray) (named : Bool) (fv x y : Value) (xs ys : List Rec) (fs : List FileM) (p size0 size mode time0 : Nat) (kind : UInt8) (ot : Bool) (w0 w : World) (Q : Exit → Act → World → Prop)
    (hF : Fr s fv x y lo named p t) (h11 : t[11]? = some (.string h)) (h17 : t[17]? = some (.int .i64 size)) (h18 : t[18]? = some (.int .i64 mode)) (h19 : t[19]? = some (.int .i64 time0)) (h20 : t[20]? = some (.int .u8 kind.toNat)) (h21 : t[21]? = some (.bool ot))
    (hs : s.size ≤ 1048576) (hp : p + 512 ≤ s.size) (hK : RK s w0 fv x y xs ys fs p w) (hQ : Qs s w0 p Q) (hnum : numbersM (bl h) = .ok (mode, size0, time0)) (hkd : kindM (bl h) = kind) (hot : ot = !specB kind)
    (hst : ∀ e, headM (bl s) (bl h) p (stOf xs ys lo named fs) = .error e → readM s.size (bl s) 0 st0 = .error e) (hsz : sizeM kind (stOf xs ys lo named fs) size0 = some size)
    (hN : ∀ (t : Array Value) (time : Nat), Fr s fv x y lo named p t → t[11]? = some (.string h) → t[17]? = some (.int .i64 size) → t[18]? = some (.int .i64 mode) → t[19]? = some (.int .i64 time) → t[20]? = some (.int .u8 kind.toNat) → t[21]? = some (.bool ot) →
      timeM kind (stOf xs ys lo named fs) time0 = some time → time ≤ 10000000000000 → Code.wp Tryd.prog (cDrop 19 refBody) Q ⟨t, []⟩ w) :
    Code.wp Tryd.prog (cDrop 18 refBody) Q ⟨t, []⟩ w := by
  have htb := (numbersM_bd hnum).2.2
  have HSM := Lib.hid (show timeM kind (stOf xs ys lo named fs) time0 = (if ot = true then optNum (pickM xs ys kTime) time0 (fun t => digits (takeTo 46 t) 12) else some time0) by
    unfold timeM; rw [stOf_time, hot]; cases specB kind <;> rfl)
  have HST := Lib.hid (fun (e : timeM kind (stOf xs ys lo named fs) time0 = none) => hst _ (headM_time hnum (by rw [hkd]; exact hsz) (by rw [hkd]; exact e)))
  have HXL := Lib.hid hK.xl
  have HYL := Lib.hid hK.yl
  have HKK := Lib.hid hK
  have C := Lib.hid (pick_any xs ys ⟨#[109, 116, 105, 109, 101]⟩ x y w0.heap.size w0.heap.size w (by have := hK.xy; have := hK.le; omega) (by have := hK.xy; have := hK.le; omega) hK.rs.rx hK.rs.ry)
  clear hst hnum hkd hot hK hsz
  obtain ⟨hsz, h0, h5, h6, h7, h8, h9, h10⟩ := hF
  obtain ⟨u, rfl⟩ := spread t hsz
  replace h0 : u 0 = .string s := Option.some.inj h0
  replace h5 : u 5 = fv := Option.some.inj h5
  replace h6 : u 6 = x := Option.some.inj h6
  replace h7 : u 7 = y := Option.some.inj h7
  replace h8 : u 8 = .string lo := Option.some.inj h8
  replace h9 : u 9 = .bool named := Option.some.inj h9
  replace h10 : u 10 = .int .i64 p := Option.some.inj h10
  replace h11 : u 11 = .string h := Option.some.inj h11
  replace h17 : u 17 = .int .i64 size := Option.some.inj h17
  replace h18 : u 18 = .int .i64 mode := Option.some.inj h18
  replace h19 : u 19 = .int .i64 time0 := Option.some.inj h19
  replace h20 : u 20 = .int .u8 kind.toNat := Option.some.inj h20
  replace h21 : u 21 = .bool ot := Option.some.inj h21
  rw [h0, h5, h6, h7, h8, h9, h10, h11, h17, h18, h19, h20, h21]
  clear h0 h5 h6 h7 h8 h9 h10 h11 h17 h18 h19 h20 h21 hsz
  have e : cDrop 18 refBody = cUpto 1 (cDrop 18 refBody) (cDrop 19 refBody) := by kernel_rfl
  rw [e]
  clear e
  generalize cDrop 19 refBody = tl at hN ⊢
  dsimp only [cUpto, refBody, refLoop, refTop, cDrop, cLeft, cRight, cBlk, cLoop, Tryd.f8, Option.getD]
  have FIN := Lib.hid hN
  clear hN
  go_wp2_with fail
  refine C.out.mono ?_
  rintro e w' ⟨r, b, rfl, hr, rfl⟩
  have HR := Lib.hid (show pickM xs ys kTime = _ from hr)
  clear hr C
  by_cases hb : b = true ∧ ot = true
  · obtain ⟨rfl, rfl⟩ := hb
    have hr12 : r.size ≤ 1048576 := by rw [← bl_length]; exact pickM_len HR.out HXL.out HYL.out
    have HS := Lib.hid (HSM.out.trans (by rw [if_pos rfl, HR.out]; rfl : _ = digits (takeTo 46 (bl r)) 12))
    clear HSM HR HXL HYL
    go_wp2_with fail
    refine (upto_any r 46 _ hr12).mono ?_
    rintro e w' ⟨a, rfl, ha, has, rfl⟩
    have ha12 : a.size ≤ 1048576 := by omega
    rw [← ha] at HS
    clear ha has
    rcases hd : digits (bl a) 12 with _ | n
    · have HE := Lib.hid (HST.out (HS.out.trans hd))
      have C := Lib.hid (fun W => digits_none hd W ha12 (by omega))
      clear hd
      go_wp2_with fail
      refine (C.out _).mono ?_
      rintro e w' ⟨rfl, rfl⟩
      go_wp2_with fail
      exact hQ.ret _ _ _ _ _ rfl rfl rfl (RefR.err HE.out rfl (by simp) HKK.out.b)
    · have hn := (digits_bd hd).2.2
      have hn' : n < 1000000000000 := Nat.lt_of_lt_of_le hn (by decide)
      have HS := Lib.hid (HS.out.trans hd)
      have C := Lib.hid (fun W => digits_some hd W ha12 (by omega))
      clear hd hn
      go_wp2_with fail
      refine (C.out _).mono ?_
      rintro e w' ⟨rfl, rfl⟩
      go_wp2_with fail
      exact FIN.out _ _ ⟨rfl, rfl, rfl, rfl, rfl, rfl, rfl, rfl⟩ rfl rfl rfl rfl rfl rfl HS.out (by omega)
  · have HS := Lib.hid (HSM.out.trans (show _ = some time0 by
      rcases ot with _ | _
      · rfl
      · rcases b with _ | _
        · rw [if_pos rfl, HR.out]; rfl
        · exact absurd ⟨rfl, rfl⟩ hb))
    have hbo : (b = false) ∨ (b = true ∧ ot = false) := by
      rcases b with _ | _
      · exact .inl rfl
      · rcases ot with _ | _
        · exact .inr ⟨rfl, rfl⟩
        · exact absurd ⟨rfl, rfl⟩ hb
    clear hb HSM HR HXL HYL
    rcases hbo with rfl | ⟨rfl, rfl⟩
    all_goals
      go_wp2_with fail
      exact FIN.out _ _ ⟨rfl, rfl, rfl, rfl, rfl, rfl, rfl, rfl⟩ rfl rfl rfl rfl rfl rfl HS.out (by omega)
end Tp
end Go.Proofs.YtiehjmjobcklmaaDoor
