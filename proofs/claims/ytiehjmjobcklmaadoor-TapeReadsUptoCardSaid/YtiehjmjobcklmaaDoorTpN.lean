/- The reference's Read, joined. -/
import Derived.Test.YtiehjmjobcklmaaDoorTpM
namespace Go.Proofs.YtiehjmjobcklmaaDoor
open Go.RowKit Go.Shelf Go.Lib
namespace Tp
theorem restM_special {d h D : Bs} {p : Nat} {st : StM} {mode size time : Nat} (hs : specB (kindM h) = true) (hD : D = fld d (p + 512) (lenM (kindM h) size)) : restM d h p st mode size time = specialM st (kindM h).toNat D p := by unfold restM; rw [if_pos hs, hD]
theorem restM_member {d h D : Bs} {p : Nat} {st : StM} {mode size time : Nat} (hs : specB (kindM h) = false) (hD : D = fld d (p + 512) (lenM (kindM h) size)) : restM d h p st mode size time = memberM st (kindM h) mode size time D h p := by unfold restM; rw [if_neg (by simp [hs]), hD]
theorem member_many {st : StM} {k : UInt8} {m s t : Nat} {d h : Bs} {p : Nat} (e : st.files.length = 1024) : memberM st k m s t d h p = .error (16, p) := by unfold memberM; rw [if_pos e]
theorem member_long {st : StM} {k : UInt8} {m s t : Nat} {d h nm lk : Bs} {p : Nat} (e : st.files.length ≠ 1024) (h1 : nm = (overM st.next.path (overM st.long st.all.path)).getD (nameM h)) (h2 : lk = (overM st.next.link st.all.link).getD (takeTo 0 (fld h 157 100))) (hl : 256 < nm.length ∨ 256 < lk.length) : memberM st k m s t d h p = .error (2, p) := by
  unfold memberM; rw [if_neg e, ← h1, ← h2, if_pos hl]
theorem member_fine {st : StM} {k : UInt8} {m s t : Nat} {d h nm lk : Bs} {p : Nat} (e : st.files.length ≠ 1024) (h1 : nm = (overM st.next.path (overM st.long st.all.path)).getD (nameM h)) (h2 : lk = (overM st.next.link st.all.link).getD (takeTo 0 (fld h 157 100))) (hl : ¬ (256 < nm.length ∨ 256 < lk.length)) :
    memberM st k m s t d h p = .ok { st with next := noTold, long := none, files := st.files ++ [⟨nm, lk, k, m, s, t, if k = 48 then d else []⟩] } := by
  unfold memberM; rw [if_neg e, ← h1, ← h2, if_neg hl]
theorem over_getD (a b : Option Bs) (d : Bs) : (overM a b).getD d = a.getD (b.getD d) := by cases a <;> rfl
theorem atM_pad {d : Bs} {p len n : Nat} (hn : n = d.length) (hp : p % 512 = 0) : atM d p len = min ((p + 512 + len + 511) / 512 * 512) n := by unfold atM; subst hn; omega
theorem atM_al {d : Bs} {p len : Nat} (hp : p % 512 = 0) : atM d p len % 512 = 0 ∨ atM d p len = d.length := by unfold atM; omega
theorem atM_ge {d : Bs} {p len : Nat} (hp : p + 512 + len ≤ d.length) : p + 512 + len ≤ atM d p len ∧ atM d p len ≤ d.length := by unfold atM; omega
theorem goes_of {s h : ByteArray} {f' p len : Nat} {st : StM} {r : Except (Nat × Nat) StM}
    (hST : readM s.size (bl s) 0 st0 = (match headM (bl s) (bl h) p st with | .error x => .error x | .ok (p', st') => readM f' (bl s) p' st'))
    (hR : headM (bl s) (bl h) p st = (match r with | .error x => .error x | .ok st' => .ok (atM (bl s) p len, st'))) : Goes s f' (atM (bl s) p len) r := by
  unfold Goes; rw [hST, hR]; cases r <;> rfl

theorem ref_member (t : Array Value) (s h lo D : ByteArray) (named : Bool) (fv x y : Value) (xs ys : List Rec) (fs : List FileM) (p f' p' size mode time : Nat) (kind : UInt8) (ot : Bool) (w0 w : World) (Q : Exit → Act → World → Prop)
    (hFk : Fk s h lo named fv x y p' size mode time kind ot t) (h31 : t[31]? = some (.string D)) (h32 : t[32]? = some (.int .i64 p))
    (hs : s.size ≤ 1048576) (hh : h.size = 512) (hK : RK s w0 fv x y xs ys fs p w) (hQ : Qs s w0 p Q) (hpp : p < p') (hle : p' ≤ s.size) (hal : p' % 512 = 0 ∨ p' = s.size) (hf : s.size - p' ≤ f')
    (hgo : Goes s f' p' (memberM (stOf xs ys lo named fs) kind mode size time (bl D) (bl h) p)) : Code.wp Tryd.prog (cDrop 28 refBody) Q ⟨t, []⟩ w := by
  have hp : p ≤ 1048576 := by have := hK.le; omega
  refine ref_mem1 t s h lo named fv x y p size mode time kind ot w0 w Q D xs ys fs p' hFk h31 h32 hh hK hQ (fun e => hgo.err (member_many e)) ?_
  intro hfl t w2 nm lk pre hFm hM hnm hlk hpre hs1 hs2 hs3
  refine ref_mem2 t s h lo named fv x y p size mode time kind w2 Q D p' w nm lk ⟨#[]⟩ pre hFm hM hh hnm hpre hs1 hs3 ?_
  intro t w2 nm hFm hM hnm
  refine ref_mem3 t s h lo named fv x y p size mode time kind w0 w2 Q D xs ys fs p' w nm lk ⟨#[]⟩ pre hFm hM ⟨hK, hM.bel⟩ hp ?_
  intro t w2 nm2 hFm hM hnm2
  refine ref_mem4 t s h lo named fv x y p size mode time kind w2 Q D p' w nm2 lk ⟨#[]⟩ pre hFm hM ?_
  intro t w2 nm3 hFm hM hnm3
  refine ref_mem5 t s h lo named fv x y p size mode time kind w0 w2 Q D xs ys fs p' w nm3 lk ⟨#[]⟩ pre hFm hM ⟨hK, hM.bel⟩ hp ?_
  intro t w2 nm4 hFm hM hnm4
  refine ref_mem6 t s h lo named fv x y p size mode time kind w0 w2 Q D xs ys fs p' w nm4 lk ⟨#[]⟩ pre hFm hM ⟨hK, hM.bel⟩ hp ?_
  intro t w2 lk2 hFm hM hlk2
  have hN : bl nm4 = (overM (stOf xs ys lo named fs).next.path (overM (stOf xs ys lo named fs).long (stOf xs ys lo named fs).all.path)).getD (nameM (bl h)) := by
    rw [stOf_path, over_getD, over_getD, hnm4, hnm3, hnm2, hnm]
  have hL : bl lk2 = (overM (stOf xs ys lo named fs).next.link (stOf xs ys lo named fs).all.link).getD (takeTo 0 (fld (bl h) 157 100)) := by
    rw [stOf_link, hlk2, hlk]
  refine ref_mem7 t s h lo named fv x y p size mode time kind w0 w2 Q D p' w nm4 lk2 pre hFm hM (hK.b.trans (hM.bel.mono hK.b.size)) hQ (fun e => hgo.err (member_long (by show fs.length ≠ 1024; omega) hN hL (by simpa only [bl_length] using e))) ?_
  intro hne t w2 hFm hM
  refine ref_mem8 t s h lo named fv x y p size mode time kind w0 w2 Q D xs ys fs p' f' w nm4 lk2 _ pre hFm hM ⟨hK, hM.bel⟩ hQ hfl hpp hle hal hf ?_
  rw [hgo.ok (member_fine (by show fs.length ≠ 1024; omega) hN hL (by simpa only [bl_length] using hne))]
  by_cases hk : kind = 48
  · simp [stOf, hk, layM, noTold]
  · simp [stOf, hk, layM, noTold, bl]

theorem ref_body (t : Array Value) (s lo : ByteArray) (named : Bool) (fv x y : Value) (xs ys : List Rec) (fs : List FileM) (p f : Nat) (w0 w : World) (Q : Exit → Act → World → Prop)
    (hF : Fr s fv x y lo named p t) (hs : s.size ≤ 1048576) (hK : RK s w0 fv x y xs ys fs p w) (hQ : Qs s w0 p Q) (hlt : p < s.size) (hf : s.size - p ≤ f)
    (hst : readM s.size (bl s) 0 st0 = readM f (bl s) p (stOf xs ys lo named fs))
    (hx0 : ∀ (t : Array Value), t.size = 346 → t[5]? = some fv → RefR s w0 (.returned (.tuple #[fv, .int .i64 0, .int .i64 0])) w → Q (.exit 0) ⟨t, []⟩ w) :
    Code.wp Tryd.prog refBody Q ⟨t, []⟩ w := by
  have hlt' : p < (bl s).length := by rw [bl_length]; exact hlt
  have hp512 : p % 512 = 0 := by have := hK.al; omega
  refine ref_h1 t s lo named fv x y p w0 w Q hF hs hlt hK.b hQ (fun hc => hst.trans (readM_cut hlt' (by rw [bl_length]; exact hc))) ?_
  intro t h hF h11 h12 h13 hD hh hp
  have h512 : 512 ≤ (bl s).length - p := by rw [bl_length]; omega
  have hf' : (bl s).length - p ≤ f := by rw [bl_length]; exact hf
  refine ref_sum t s lo named fv x y p w Q h hF h11 h12 h13 hh ?_
  intro t m hF h11 h12 h13 hsm
  refine ref_zero t s lo named fv x y p w Q h m _ hF h11 h12 h13 ?_ ?_
  · intro hz t hsz h5
    exact hx0 t hsz h5 (RefR.fine (hst.trans (readM_zero hlt' h512 hf' (by rw [← hD]; simpa using hz))) hK.rs.rf hK.b)
  · intro hz t hF h11 h12
    obtain ⟨f', hff, hstep⟩ := readM_step (st := stOf xs ys lo named fs) hlt' h512 hf' (by rw [← hD]; simpa using hz)
    rw [← hD] at hstep
    have hST := hst.trans hstep
    refine ref_numbers t s h lo named fv x y xs ys fs p f' m w0 w Q hF h11 h12 hs hh hp hK hQ hsm hST ?_
    intro t size0 mode time0 hF h11 h17 h18 h19 hnum
    refine ref_kind t s h lo named fv x y p size0 mode time0 w Q hF h11 h17 h18 h19 hh ?_
    intro t hF h11 h17 h18 h19 h20 h21
    have hER : ∀ e, headM (bl s) (bl h) p (stOf xs ys lo named fs) = .error e → readM s.size (bl s) 0 st0 = .error e := fun e he => by rw [hST, he]
    refine ref_size t s h lo named fv x y xs ys fs p size0 mode time0 _ _ w0 w Q hF h11 h17 h18 h19 h20 h21 hs hp hK hQ hnum rfl rfl hER ?_
    intro t size hF h11 h17 h18 h19 h20 h21 hsize hsb
    refine ref_time t s h lo named fv x y xs ys fs p size0 size mode time0 _ _ w0 w Q hF h11 h17 h18 h19 h20 h21 hs hp hK hQ hnum rfl rfl hER hsize ?_
    intro t time hF h11 h17 h18 h19 h20 h21 htime htb
    refine ref_len t s h lo named fv x y p size mode time _ _ w Q ⟨hF, h11, h17, h18, h19, h20, h21⟩ ?_
    intro t hFk h30
    have hlb : lenM (kindM (bl h)) size ≤ 10000000000000 := by unfold lenM; split <;> omega
    refine ref_fit t s h lo named fv x y p size mode time _ _ w0 w Q _ hFk h30 hlb hs hp hK.b hQ (fun e => hER _ (headM_cut hnum hsize htime (by rw [bl_length]; exact e))) ?_
    intro t D hFk h31 h32 hDD hDs hfit
    refine ref_pad t s h lo named fv x y _ size mode time _ _ w Q D p (atM (bl s) p (lenM (kindM (bl h)) size)) hFk h31 h32 hs hfit (atM_pad (bl_length s).symm hp512) ?_
    intro t hFk h31 h32
    have hR := headM_rest hnum hsize htime (d := bl s) (p := p) (by rw [bl_length]; omega)
    obtain ⟨ha1, ha2⟩ := atM_ge (d := bl s) (p := p) (len := lenM (kindM (bl h)) size) (by rw [bl_length]; exact hfit)
    have ha3 := atM_al (d := bl s) (len := lenM (kindM (bl h)) size) hp512
    rw [bl_length] at ha2 ha3
    have hgo := goes_of hST hR
    have hD2 : D.size ≤ 1048576 := by omega
    have hf2 : s.size - atM (bl s) p (lenM (kindM (bl h)) size) ≤ f' := by omega
    refine ref_long t s h lo named fv x y p size mode time _ _ w0 w Q D xs ys fs _ f' hFk h31 h32 hD2 hK (by omega) ha2 ha3 hf2 hQ (fun hk => ?_) ?_
    · rw [restM_special (by simp [specB, hk]) hDD] at hgo; exact hgo
    intro hk76 t hFk h31 h32
    refine ref_special t s h lo named fv x y p size mode time _ _ w0 w Q D xs ys fs _ f' hFk h31 h32 hs (by omega) hD2 hK (by omega) ha2 ha3 hf2 hQ hk76 (fun ho => ?_) ?_
    · rw [restM_special (by simpa using ho) hDD] at hgo; exact hgo
    intro ho t hFk h31 h32
    rw [restM_member (by simpa using ho) hDD] at hgo
    exact ref_member t s h lo D named fv x y xs ys fs p f' _ size mode time _ _ w0 w Q hFk h31 h32 hs hh hK hQ (by omega) ha2 ha3 hf2 hgo
end Tp
end Go.Proofs.YtiehjmjobcklmaaDoor
