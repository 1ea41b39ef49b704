/- The reference's Read: what is told of further members. -/
import Derived.Test.YtiehjmjobcklmaaDoorTpI
namespace Go.Proofs.YtiehjmjobcklmaaDoor
open Go.RowKit Go.Shelf Go.Lib
namespace Tp
theorem recCells_one (rs : List Rec) : ∀ u ∈ recCells rs, u.oneCell' = true := by
  intro u hu
  simp only [recCells, List.mem_flatMap] at hu
  obtain ⟨r, _, hu⟩ := hu
  simp at hu
  rcases hu with rfl | rfl <;> rfl
theorem recCells_len (rs : List Rec) : (recCells rs).length = rs.length * 2 := by
  induction rs with
  | nil => rfl
  | cons r rs ih => simp only [recCells, List.flatMap_cons, List.length_append] at ih ⊢; rw [ih]; simp; omega
def Goes (s : ByteArray) (f p : Nat) (r : Except (Nat × Nat) StM) : Prop := readM s.size (bl s) 0 st0 = (match r with | .error e => .error e | .ok st' => readM f (bl s) p st')
theorem Goes.err {s : ByteArray} {f p : Nat} {r : Except (Nat × Nat) StM} {e : Nat × Nat} (h : Goes s f p r) (hr : r = .error e) : readM s.size (bl s) 0 st0 = .error e := by subst hr; exact h
theorem Goes.ok {s : ByteArray} {f p : Nat} {r : Except (Nat × Nat) StM} {st : StM} (h : Goes s f p r) (hr : r = .ok st) : readM s.size (bl s) 0 st0 = readM f (bl s) p st := by subst hr; exact h
theorem special_L {st : StM} {d : Bs} {p : Nat} : specialM st 76 d p = .ok { st with long := some (takeTo 0 d) } := by unfold specialM; rw [if_pos rfl]
theorem special_no {st : StM} {k : Nat} {d : Bs} {p : Nat} (h : k ≠ 76) (e : records d.length d [] = none) : specialM st k d p = .error (4, p + 512) := by unfold specialM; rw [if_neg h, e]
theorem special_x {st : StM} {d : Bs} {p : Nat} {rs : List Rec} (e : records d.length d [] = some rs) : specialM st 120 d p = .ok { st with next := layM st.next rs } := by unfold specialM; rw [if_neg (by decide), e]; simp
theorem special_g {st : StM} {k : Nat} {d : Bs} {p : Nat} {rs : List Rec} (h : k ≠ 76) (h2 : k ≠ 120) (e : records d.length d [] = some rs) : specialM st k d p = .ok { st with all := layM st.all rs } := by unfold specialM; rw [if_neg h, e]; simp [h2]
theorem refRecs_none {s : ByteArray} (h : records s.size (bl s) [] = none) (w : World) (hs : s.size ≤ 1048576) :
    Calls Tryd.prog 18 #[.string s] w fun e w' => e = .returned (.tuple #[.slice none 0 0, .bool false]) ∧ Below w.heap.size w w' :=
  (refRecords_any s w hs).mono fun _ _ h' => by unfold RecR at h'; rw [h] at h'; exact h'
theorem refRecs_some {s : ByteArray} {rs : List Rec} (h : records s.size (bl s) [] = some rs) (w : World) (hs : s.size ≤ 1048576) :
    Calls Tryd.prog 18 #[.string s] w fun e w' => ∃ v, e = .returned (.tuple #[v, .bool true]) ∧ w'.ownsRow w.heap.size 93 2 v rs.length (recCells rs) ∧ Below w.heap.size w w' ∧ rs.length ≤ s.size :=
  (refRecords_any s w hs).mono fun _ _ h' => by unfold RecR at h'; rw [h] at h'; exact h'
section
variable (t : Array Value) (s h lo : ByteArray) (named : Bool) (fv x y : Value) (p size mode time : Nat) (kind : UInt8) (ot : Bool) (w0 w : World) (Q : Exit → Act → World → Prop)
set_option maxRecDepth 100000 in
set_option maxHeartbeats 4000000 in
theorem ref_long (D : ByteArray) (xs ys : List Rec) (fs : List FileM) (p' f' : Nat) (hFk : Fk s h lo named fv x y p' size mode time kind ot t) (h31 : t[31]? = some (.string D)) (h32 : t[32]? = some (.int .i64 p))
    (hD : D.size ≤ 1048576) (hK : RK s w0 fv x y xs ys fs p w) (hpp : p < p') (hle : p' ≤ s.size) (hal : p' % 512 = 0 ∨ p' = s.size) (hf : s.size - p' ≤ f') (hQ : Qs s w0 p Q)
    (hgo : kind.toNat = 76 → Goes s f' p' (specialM (stOf xs ys lo named fs) kind.toNat (bl D) p))
    (hN : kind.toNat ≠ 76 → ∀ (t : Array Value), Fk s h lo named fv x y p' size mode time kind ot t → t[31]? = some (.string D) → t[32]? = some (.int .i64 p) → Code.wp Tryd.prog (cDrop 27 refBody) Q ⟨t, []⟩ w) :
    Code.wp Tryd.prog (cDrop 26 refBody) Q ⟨t, []⟩ w := by
  obtain ⟨hF, h11, h17, h18, h19, h20, h21⟩ := hFk
  obtain ⟨hsz, h0, h5, h6, h7, h8, h9, h10⟩ := hF
  obtain ⟨u, rfl⟩ := spread t hsz
  replace h0 : u 0 = .string s := Option.some.inj h0
  replace h5 : u 5 = fv := Option.some.inj h5
  replace h6 : u 6 = x := Option.some.inj h6
  replace h7 : u 7 = y := Option.some.inj h7
  replace h8 : u 8 = .string lo := Option.some.inj h8
  replace h9 : u 9 = .bool named := Option.some.inj h9
  replace h10 : u 10 = .int .i64 p' := Option.some.inj h10
  replace h11 : u 11 = .string h := Option.some.inj h11
  replace h17 : u 17 = .int .i64 size := Option.some.inj h17
  replace h18 : u 18 = .int .i64 mode := Option.some.inj h18
  replace h19 : u 19 = .int .i64 time := Option.some.inj h19
  replace h20 : u 20 = .int .u8 kind.toNat := Option.some.inj h20
  replace h21 : u 21 = .bool ot := Option.some.inj h21
  replace h31 : u 31 = .string D := Option.some.inj h31
  replace h32 : u 32 = .int .i64 p := Option.some.inj h32
  rw [h0, h5, h6, h7, h8, h9, h10, h11, h17, h18, h19, h20, h21, h31, h32]
  clear h0 h5 h6 h7 h8 h9 h10 h11 h17 h18 h19 h20 h21 h31 h32 hsz
  have e : cDrop 26 refBody = cUpto 1 (cDrop 26 refBody) (cDrop 27 refBody) := by kernel_rfl
  rw [e]
  clear e
  generalize cDrop 27 refBody = tl at hN ⊢
  dsimp only [cUpto, refBody, refLoop, refTop, cDrop, cLeft, cRight, cBlk, cLoop, Tryd.f8, Option.getD]
  have FIN := Lib.hid hN
  have HGO := Lib.hid hgo
  have HAL := Lib.hid hal
  have HK := Lib.hid hK
  clear hN hgo hal hK
  by_cases hk : kind.toNat = 76
  · have hkb : ((kind.toNat : Int) == 76) = true := beq_iff_eq.2 (by omega)
    have HE := Lib.hid ((HGO.out hk).ok (by rw [hk]; exact special_L))
    clear hk
    go_wp2_with fail
    refine (upto_any D 0 _ hD).mono ?_
    rintro e w' ⟨a, rfl, ha, has, rfl⟩
    have HA := Lib.hid ha
    clear ha has
    go_wp2_with fail
    exact (hQ.next _ _ _ hpp ⟨_, _, _, a, true, xs, ys, fs, f', ⟨rfl, rfl, rfl, rfl, rfl, rfl, rfl, rfl⟩, ⟨hle, HAL.out, HK.out.fl, Nat.le_trans HK.out.xy (by omega), HK.out.xl, HK.out.yl, HK.out.rs, HK.out.b⟩, hf, by rw [HE.out, ← HA.out]; rfl⟩).2
  · have hkb : ((kind.toNat : Int) == 76) = false := beq_eq_false_iff_ne.2 (by omega)
    have FI2 := Lib.hid (FIN.out hk)
    clear hk
    go_wp2_with fail
    exact FI2.out _ ⟨⟨rfl, rfl, rfl, rfl, rfl, rfl, rfl, rfl⟩, rfl, rfl, rfl, rfl, rfl, rfl⟩ rfl rfl
set_option maxRecDepth 100000 in
set_option maxHeartbeats 4000000 in
theorem ref_special (D : ByteArray) (xs ys : List Rec) (fs : List FileM) (p' f' : Nat) (hFk : Fk s h lo named fv x y p' size mode time kind ot t) (h31 : t[31]? = some (.string D)) (h32 : t[32]? = some (.int .i64 p))
    (hs : s.size ≤ 1048576) (hp : p ≤ 1048576) (hD : D.size ≤ 1048576) (hK : RK s w0 fv x y xs ys fs p w) (hpp : p + 512 + D.size ≤ p') (hle : p' ≤ s.size) (hal : p' % 512 = 0 ∨ p' = s.size) (hf : s.size - p' ≤ f') (hQ : Qs s w0 p Q) (hk76 : kind.toNat ≠ 76)
    (hgo : ot = false → Goes s f' p' (specialM (stOf xs ys lo named fs) kind.toNat (bl D) p))
    (hN : ot = true → ∀ (t : Array Value), Fk s h lo named fv x y p' size mode time kind ot t → t[31]? = some (.string D) → t[32]? = some (.int .i64 p) → Code.wp Tryd.prog (cDrop 28 refBody) Q ⟨t, []⟩ w) :
    Code.wp Tryd.prog (cDrop 27 refBody) Q ⟨t, []⟩ w := by
  obtain ⟨i0, hi, hz0, hz1, hz2⟩ := info_parts info93
  obtain ⟨hF, h11, h17, h18, h19, h20, h21⟩ := hFk
  obtain ⟨hsz, h0, h5, h6, h7, h8, h9, h10⟩ := hF
  obtain ⟨u, rfl⟩ := spread t hsz
  replace h0 : u 0 = .string s := Option.some.inj h0
  replace h5 : u 5 = fv := Option.some.inj h5
  replace h6 : u 6 = x := Option.some.inj h6
  replace h7 : u 7 = y := Option.some.inj h7
  replace h8 : u 8 = .string lo := Option.some.inj h8
  replace h9 : u 9 = .bool named := Option.some.inj h9
  replace h10 : u 10 = .int .i64 p' := Option.some.inj h10
  replace h11 : u 11 = .string h := Option.some.inj h11
  replace h17 : u 17 = .int .i64 size := Option.some.inj h17
  replace h18 : u 18 = .int .i64 mode := Option.some.inj h18
  replace h19 : u 19 = .int .i64 time := Option.some.inj h19
  replace h20 : u 20 = .int .u8 kind.toNat := Option.some.inj h20
  replace h21 : u 21 = .bool ot := Option.some.inj h21
  replace h31 : u 31 = .string D := Option.some.inj h31
  replace h32 : u 32 = .int .i64 p := Option.some.inj h32
  rw [h0, h5, h6, h7, h8, h9, h10, h11, h17, h18, h19, h20, h21, h31, h32]
  clear h0 h5 h6 h7 h8 h9 h10 h11 h17 h18 h19 h20 h21 h31 h32 hsz
  have e : cDrop 27 refBody = cUpto 1 (cDrop 27 refBody) (cDrop 28 refBody) := by kernel_rfl
  rw [e]
  clear e
  generalize cDrop 28 refBody = tl at hN ⊢
  dsimp only [cUpto, refBody, refLoop, refTop, cDrop, cLeft, cRight, cBlk, cLoop, Tryd.f8, Option.getD]
  have FIN := Lib.hid hN
  have HGO := Lib.hid hgo
  have HAL := Lib.hid hal
  have HK := Lib.hid hK
  have HK76 := Lib.hid hk76
  have hxy : xs.length + ys.length ≤ p := hK.xy
  clear hN hgo hal hK hk76
  rcases ot with _ | _
  case true =>
    have FI2 := Lib.hid (FIN.out rfl)
    go_wp2_with fail
    exact FI2.out _ ⟨⟨rfl, rfl, rfl, rfl, rfl, rfl, rfl, rfl⟩, rfl, rfl, rfl, rfl, rfl, rfl⟩ rfl rfl
  case false =>
    have HG := Lib.hid (HGO.out rfl)
    clear FIN HGO
    rcases hrec : records D.size (bl D) [] with _ | rs
    · have HE := Lib.hid (HG.out.err (special_no HK76.out (by rw [bl_length]; exact hrec)))
      have C := Lib.hid (refRecs_none hrec w hD)
      clear hrec
      go_wp2_with fail
      refine C.out.mono ?_
      rintro e w' ⟨rfl, hb⟩
      have HB := Lib.hid hb
      clear hb
      go_wp2_with fail
      exact hQ.ret _ _ _ _ _ rfl rfl rfl (RefR.err HE.out rfl (by simp) (HK.out.b.trans (HB.out.mono HK.out.b.size)))
    · have HREC := Lib.hid (show records (bl D).length (bl D) [] = some rs by rw [bl_length]; exact hrec)
      have HRL := Lib.hid (records_le _ _ _ _ 1048576 hrec (by rw [bl_length]; exact hD) (fun _ h => by cases h))
      have C := Lib.hid (refRecs_some hrec w hD)
      clear hrec
      go_wp2_with fail
      refine C.out.mono ?_
      rintro e w1 ⟨v, rfl, hown, hb, hrl⟩
      have HRS := Lib.hid (HK.out.rs.kept hb)
      have HB1 := Lib.hid (HK.out.b.trans (hb.mono HK.out.b.size))
      have hsz1 : w0.heap.size ≤ w1.heap.size := HB1.out.size
      have hwle := hb.size
      have hvc := fun g0 hg0 => hown.cells (g := g0) hg0
      obtain ⟨ao, cap, rfl, hao⟩ : ∃ ao cap, v = .slice ao rs.length cap ∧ ((ao = none ∧ cap = 0 ∧ rs = []) ∨ ∃ g0, ao = some ⟨g0, 0, none⟩) := by
        rcases hown.2 with ⟨h, h'⟩ | ⟨g0, cap0, cur, h, _⟩
        · exact ⟨none, 0, by rw [h, h'], .inl ⟨rfl, rfl, List.eq_nil_of_length_eq_zero h'⟩⟩
        · exact ⟨_, _, h, .inr ⟨g0, rfl⟩⟩
      have HVC := Lib.hid hvc
      have HAO := Lib.hid hao
      clear hb C hown hvc hao
      by_cases h120 : kind.toNat = 120
      · have hkb : ((kind.toNat : Int) == 120) = true := beq_iff_eq.2 (by omega)
        have HE := Lib.hid (HG.out.ok (by rw [h120]; exact special_x HREC.out))
        clear h120
        rcases HAO.out with ⟨rfl, rfl, rfl⟩ | ⟨g0, rfl⟩
        · go_wp2_with (at_builtin; refine wpList_append_own_none rfl _ _ 53 rfl w0.heap.size 93 i0 2 Tryd.underlying53 hi _ _ _ rfl HRS.out.rx rfl ?_)
          exact (hQ.next _ _ _ (by omega) ⟨_, _, _, lo, named, xs, ys, fs, f', ⟨rfl, rfl, rfl, rfl, rfl, rfl, rfl, rfl⟩, ⟨hle, HAL.out, HK.out.fl, by omega, HK.out.xl, HK.out.yl, HRS.out, HB1.out⟩, hf, HE.out⟩).2
        · go_wp2_with (at_builtin; refine wpList_append_own_at _ rfl _ _ 53 rfl w0.heap.size 93 i0 (.agg #[.string ⟨#[]⟩, .string ⟨#[]⟩]) 2 32 Tryd.underlying53 hi hz0 hz1 hz2 rfl (by decide) _ _ _ rfl HRS.out.rx ⟨g0, 0, none⟩ rs.length cap (recCells rs) rfl (recCells_len rs) (HVC.out g0 rfl) (recCells_one rs) ?c3 ?c4 hsz1 ?_)
          case c3 => unfold maxLen; omega
          case c4 => omega
          intro v' w2 hown' hgrow _ hat
          have HR2 := Lib.hid (HRS.out.pushX hown' hgrow hat)
          have HB2 := Lib.hid (HRS.out.below HB1.out rfl (.inl rfl) hgrow)
          clear hown' hgrow hat
          go_wp2_with fail
          exact (hQ.next _ _ _ (by omega) ⟨_, _, _, lo, named, xs ++ rs, ys, fs, f', ⟨rfl, rfl, rfl, rfl, rfl, rfl, rfl, rfl⟩, ⟨hle, HAL.out, HK.out.fl, by rw [List.length_append]; omega, fun r hr => (List.mem_append.1 hr).elim (HK.out.xl r) (HRL.out r), HK.out.yl, HR2.out, HB2.out⟩, hf, by rw [HE.out]; simp only [stOf, layM_append]⟩).2
      · have hkb : ((kind.toNat : Int) == 120) = false := beq_eq_false_iff_ne.2 (by omega)
        have HE := Lib.hid (HG.out.ok (special_g HK76.out h120 HREC.out))
        clear h120
        rcases HAO.out with ⟨rfl, rfl, rfl⟩ | ⟨g0, rfl⟩
        · go_wp2_with (at_builtin; refine wpList_append_own_none rfl _ _ 53 rfl w0.heap.size 93 i0 2 Tryd.underlying53 hi _ _ _ rfl HRS.out.ry rfl ?_)
          exact (hQ.next _ _ _ (by omega) ⟨_, _, _, lo, named, xs, ys, fs, f', ⟨rfl, rfl, rfl, rfl, rfl, rfl, rfl, rfl⟩, ⟨hle, HAL.out, HK.out.fl, by omega, HK.out.xl, HK.out.yl, HRS.out, HB1.out⟩, hf, HE.out⟩).2
        · go_wp2_with (at_builtin; refine wpList_append_own_at _ rfl _ _ 53 rfl w0.heap.size 93 i0 (.agg #[.string ⟨#[]⟩, .string ⟨#[]⟩]) 2 32 Tryd.underlying53 hi hz0 hz1 hz2 rfl (by decide) _ _ _ rfl HRS.out.ry ⟨g0, 0, none⟩ rs.length cap (recCells rs) rfl (recCells_len rs) (HVC.out g0 rfl) (recCells_one rs) ?c3 ?c4 hsz1 ?_)
          case c3 => unfold maxLen; omega
          case c4 => omega
          intro v' w2 hown' hgrow _ hat
          have HR2 := Lib.hid (HRS.out.swap.pushX hown' hgrow hat).swap
          have HB2 := Lib.hid (HRS.out.below HB1.out rfl (.inr (.inl rfl)) hgrow)
          clear hown' hgrow hat
          go_wp2_with fail
          exact (hQ.next _ _ _ (by omega) ⟨_, _, _, lo, named, xs, ys ++ rs, fs, f', ⟨rfl, rfl, rfl, rfl, rfl, rfl, rfl, rfl⟩, ⟨hle, HAL.out, HK.out.fl, by rw [List.length_append]; omega, HK.out.xl, fun r hr => (List.mem_append.1 hr).elim (HK.out.yl r) (HRL.out r), HR2.out, HB2.out⟩, hf, by rw [HE.out]; simp only [stOf, layM_append]⟩).2
end
end Tp
end Go.Proofs.YtiehjmjobcklmaaDoor
