/- The reference's Read: the numbers of a head. -/
import Derived.Test.YtiehjmjobcklmaaDoorTpE
namespace Go.Proofs.YtiehjmjobcklmaaDoor
open Go.RowKit Go.Shelf Go.Lib
namespace Tp
set_option maxRecDepth 100000 in
set_option maxHeartbeats 4000000 in
theorem ref_numbers (t : Array Value) (s h lo : ByteArray) (named : Bool) (fv x y : Value) (xs ys : List Rec) (fs : List FileM) (p f' m : Nat) (w0 w : World) (Q : Exit → Act → World → Prop)
    (hF : Fr s fv x y lo named p t) (h11 : t[11]? = some (.string h)) (h12 : t[12]? = some (.int .i64 m)) (hs : s.size ≤ 1048576) (hh : h.size = 512) (hp : p + 512 ≤ s.size) (hK : RK s w0 fv x y xs ys fs p w) (hQ : Qs s w0 p Q)
    (hsm : sumFrom 0 0 (bl h) = m)
    (hst : readM s.size (bl s) 0 st0 = (match headM (bl s) (bl h) p (stOf xs ys lo named fs) with | .error x => .error x | .ok (p', st') => readM f' (bl s) p' st'))
    (hN : ∀ (t : Array Value) (size0 mode time0 : Nat), Fr s fv x y lo named p t → t[11]? = some (.string h) → t[17]? = some (.int .i64 size0) → t[18]? = some (.int .i64 mode) → t[19]? = some (.int .i64 time0) → numbersM (bl h) = .ok (mode, size0, time0) →
      Code.wp Tryd.prog (cDrop 14 refBody) Q ⟨t, []⟩ w) :
    Code.wp Tryd.prog (cDrop 5 refBody) Q ⟨t, []⟩ w := by
  have HST := Lib.hid hst
  clear hst
  obtain ⟨hsz, h0, h5, h6, h7, h8, h9, h10⟩ := hF
  obtain ⟨u, rfl⟩ := spread t hsz
  replace h0 : u 0 = .string s := Option.some.inj h0
  replace h5 : u 5 = fv := Option.some.inj h5
  replace h6 : u 6 = x := Option.some.inj h6
  replace h7 : u 7 = y := Option.some.inj h7
  replace h8 : u 8 = .string lo := Option.some.inj h8
  replace h9 : u 9 = .bool named := Option.some.inj h9
  replace h10 : u 10 = .int .i64 p := Option.some.inj h10
  replace h11 : u 11 = .string h := Option.some.inj h11
  replace h12 : u 12 = .int .i64 m := Option.some.inj h12
  rw [h0, h5, h6, h7, h8, h9, h10, h11, h12]
  clear h0 h5 h6 h7 h8 h9 h10 h11 h12 hsz
  have e : cDrop 5 refBody = cUpto 9 (cDrop 5 refBody) (cDrop 14 refBody) := by kernel_rfl
  rw [e]
  clear e
  generalize cDrop 14 refBody = tl at hN ⊢
  dsimp only [cUpto, refBody, refLoop, refTop, cDrop, cLeft, cRight, cBlk, cLoop, Tryd.f8, Option.getD]
  have F1 := Lib.hid (show bl (h.extract 148 156) = fld (bl h) 148 8 by rw [bl_extract]; rfl)
  have F2 := Lib.hid (show bl (h.extract 124 136) = fld (bl h) 124 12 by rw [bl_extract]; rfl)
  have F3 := Lib.hid (show bl (h.extract 100 108) = fld (bl h) 100 8 by rw [bl_extract]; rfl)
  have F4 := Lib.hid (show bl (h.extract 136 148) = fld (bl h) 136 12 by rw [bl_extract]; rfl)
  rcases n1 : number (fld (bl h) 148 8) with _ | want
  · have HE := Lib.hid (HST.out.trans (by rw [headM_num (numbersM_1 n1)]) : _ = .error (14, p + 148))
    have C := Lib.hid (refNum_none (s := h.extract 148 156) (by rw [F1.out]; exact n1) w (by simp; omega))
    clear n1
    go_wp2_with fail
    refine C.out.mono ?_
    rintro e w' ⟨rfl, rfl⟩
    go_wp2_with fail
    exact hQ.ret _ _ _ _ _ rfl rfl rfl (RefR.err HE.out rfl (by simp) hK.b)
  have N1 := Lib.hid n1
  have C := Lib.hid (refNum_some (s := h.extract 148 156) (by rw [F1.out]; exact n1) w (by simp; omega))
  clear n1
  go_wp2_with fail
  refine C.out.mono ?_
  rintro e w' ⟨rfl, rfl⟩
  clear C F1
  by_cases hsum : m = want
  case neg =>
    have hsb : ((m : Int) != (want : Int)) = true := bne_iff_ne.2 (by omega)
    have HE := Lib.hid (HST.out.trans (by rw [headM_num (numbersM_2 N1.out (by rw [hsm]; exact hsum))]) : _ = .error (10, p + 148))
    clear hsum
    go_wp2_with fail
    exact hQ.ret _ _ _ _ _ rfl rfl rfl (RefR.err HE.out rfl (by simp) hK.b)
  have hsb : ((m : Int) != (want : Int)) = false := by rw [hsum]; simp
  have N2 := Lib.hid (show sumFrom 0 0 (bl h) = want by rw [hsm]; exact hsum)
  clear hsum
  rcases n3 : number (fld (bl h) 124 12) with _ | size0
  · have HE := Lib.hid (HST.out.trans (by rw [headM_num (numbersM_3 N1.out N2.out n3)]) : _ = .error (14, p + 124))
    have C := Lib.hid (refNum_none (s := h.extract 124 136) (by rw [F2.out]; exact n3) w (by simp; omega))
    clear n3
    go_wp2_with fail
    refine C.out.mono ?_
    rintro e w' ⟨rfl, rfl⟩
    go_wp2_with fail
    exact hQ.ret _ _ _ _ _ rfl rfl rfl (RefR.err HE.out rfl (by simp) hK.b)
  have N3 := Lib.hid n3
  have C := Lib.hid (refNum_some (s := h.extract 124 136) (by rw [F2.out]; exact n3) w (by simp; omega))
  clear n3
  go_wp2_with fail
  refine C.out.mono ?_
  rintro e w' ⟨rfl, rfl⟩
  clear C F2 hsb
  rcases n4 : number (fld (bl h) 100 8) with _ | mode
  · have HE := Lib.hid (HST.out.trans (by rw [headM_num (numbersM_4 N1.out N2.out N3.out n4)]) : _ = .error (14, p + 100))
    have C := Lib.hid (refNum_none (s := h.extract 100 108) (by rw [F3.out]; exact n4) w (by simp; omega))
    clear n4
    go_wp2_with fail
    refine C.out.mono ?_
    rintro e w' ⟨rfl, rfl⟩
    go_wp2_with fail
    exact hQ.ret _ _ _ _ _ rfl rfl rfl (RefR.err HE.out rfl (by simp) hK.b)
  have N4 := Lib.hid n4
  have C := Lib.hid (refNum_some (s := h.extract 100 108) (by rw [F3.out]; exact n4) w (by simp; omega))
  clear n4
  go_wp2_with fail
  refine C.out.mono ?_
  rintro e w' ⟨rfl, rfl⟩
  clear C F3
  rcases n5 : number (fld (bl h) 136 12) with _ | time0
  · have HE := Lib.hid (HST.out.trans (by rw [headM_num (numbersM_5 N1.out N2.out N3.out N4.out n5)]) : _ = .error (14, p + 136))
    have C := Lib.hid (refNum_none (s := h.extract 136 148) (by rw [F4.out]; exact n5) w (by simp; omega))
    clear n5
    go_wp2_with fail
    refine C.out.mono ?_
    rintro e w' ⟨rfl, rfl⟩
    go_wp2_with fail
    exact hQ.ret _ _ _ _ _ rfl rfl rfl (RefR.err HE.out rfl (by simp) hK.b)
  have HNUM := Lib.hid (numbersM_6 N1.out N2.out N3.out N4.out n5)
  have C := Lib.hid (refNum_some (s := h.extract 136 148) (by rw [F4.out]; exact n5) w (by simp; omega))
  clear n5
  go_wp2_with fail
  refine C.out.mono ?_
  rintro e w' ⟨rfl, rfl⟩
  obtain ⟨hb1, hb2, hb3⟩ := numbersM_bd HNUM.out
  clear C F4 N1 N2 N3 N4
  go_wp2_with fail
  exact hN _ _ _ _ ⟨rfl, rfl, rfl, rfl, rfl, rfl, rfl, rfl⟩ rfl rfl rfl rfl HNUM.out
end Tp
end Go.Proofs.YtiehjmjobcklmaaDoor
