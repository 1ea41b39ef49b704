/- The reference's Read, whole. -/
import Derived.Test.YtiehjmjobcklmaaDoorTpN
namespace Go.Proofs.YtiehjmjobcklmaaDoor
open Go.RowKit Go.Shelf Go.Lib
namespace Tp
set_option maxRecDepth 100000 in
set_option maxHeartbeats 4000000 in
theorem ref_test (t : Array Value) (s lo : ByteArray) (named : Bool) (fv x y : Value) (p : Nat) (w : World) (Q : Exit → Act → World → Prop) (tl : Code)
    (hF : Fr s fv x y lo named p t)
    (hx : s.size ≤ p → ∀ (t : Array Value), t.size = 346 → t[5]? = some fv → Q (.exit 0) ⟨t, []⟩ w)
    (hN : p < s.size → ∀ (t : Array Value), Fr s fv x y lo named p t → Code.wp Tryd.prog tl Q ⟨t, []⟩ w) :
    Code.wp Tryd.prog (.seq (cLeft refLoop) tl) Q ⟨t, []⟩ w := by
  obtain ⟨hsz, h0, h5, h6, h7, h8, h9, h10⟩ := hF
  obtain ⟨u, rfl⟩ := spread t hsz
  replace h0 : u 0 = .string s := Option.some.inj h0
  replace h5 : u 5 = fv := Option.some.inj h5
  replace h6 : u 6 = x := Option.some.inj h6
  replace h7 : u 7 = y := Option.some.inj h7
  replace h8 : u 8 = .string lo := Option.some.inj h8
  replace h9 : u 9 = .bool named := Option.some.inj h9
  replace h10 : u 10 = .int .i64 p := Option.some.inj h10
  rw [h0, h5, h6, h7, h8, h9, h10]
  clear h0 h5 h6 h7 h8 h9 h10 hsz
  dsimp only [refLoop, refTop, cDrop, cLeft, cRight, cBlk, cLoop, Tryd.f8, Option.getD]
  have FIN := Lib.hid hN
  have HX := Lib.hid hx
  clear hN hx
  by_cases hlt : p < s.size
  · have FI2 := Lib.hid (FIN.out hlt)
    clear FIN HX
    go_wp2_with fail
    exact FI2.out _ ⟨rfl, rfl, rfl, rfl, rfl, rfl, rfl, rfl⟩
  · have HX2 := Lib.hid (HX.out (by omega))
    clear FIN HX
    go_wp2_with fail
    exact HX2.out _ rfl rfl
theorem ref_round (t : Array Value) (s : ByteArray) (p : Nat) (w0 w : World) (Q : Exit → Act → World → Prop) (hs : s.size ≤ 1048576) (hI : RInv s w0 p t w)
    (hret : ∀ (t : Array Value) (w' : World) (v : Value) (c a : Int), t[2]? = some v → t[3]? = some (.int .i64 c) → t[4]? = some (.int .i64 a) → RefR s w0 (.returned (.tuple #[v, .int .i64 c, .int .i64 a])) w' → Q .ret ⟨t, []⟩ w')
    (hbrk : ∀ (t : Array Value) (w' : World) (v : Value), t.size = 346 → t[5]? = some v → RefR s w0 (.returned (.tuple #[v, .int .i64 0, .int .i64 0])) w' → Q (.exit 0) ⟨t, []⟩ w')
    (hnext : ∀ (p' : Nat) (t : Array Value) (w' : World), p < p' → RInv s w0 p' t w' → Q .normal ⟨t, []⟩ w') :
    Code.wp Tryd.prog refLoop Q ⟨t, []⟩ w := by
  obtain ⟨fv, x, y, lo, named, xs, ys, fs, f, hF, hK, hf, hst⟩ := hI
  have e : refLoop = .seq (cLeft refLoop) (.block 1 refBody) := by kernel_rfl
  rw [e]
  refine ref_test t s lo named fv x y p w Q _ hF ?_ ?_
  · intro hle t hsz h5
    exact hbrk t w fv hsz h5 (RefR.fine (hst.trans (readM_end (by rw [bl_length]; exact hle))) hK.rs.rf hK.b)
  · intro hlt t hF
    refine wp_block ?_
    refine ref_body t s lo named fv x y xs ys fs p f w0 w _ hF hs hK ⟨?_, ?_⟩ hlt hf hst ?_
    · intro t w' v c a h2 h3 h4 hR
      exact hret t w' v c a h2 h3 h4 hR
    · intro p' t w' hpp hI
      exact ⟨hnext p' t w' hpp hI, by simp only [Exit.inBlock, if_true]; exact hnext p' t w' hpp hI⟩
    · intro t hsz h5 hR
      simp only [Exit.inBlock]
      rw [if_neg (by decide)]
      exact hbrk t w fv hsz h5 hR
theorem ref_loop (t : Array Value) (s : ByteArray) (p : Nat) (w0 w : World) (Q : Exit → Act → World → Prop) (hs : s.size ≤ 1048576) (hI : RInv s w0 p t w)
    (hret : ∀ (t : Array Value) (w' : World) (v : Value) (c a : Int), t[2]? = some v → t[3]? = some (.int .i64 c) → t[4]? = some (.int .i64 a) → RefR s w0 (.returned (.tuple #[v, .int .i64 c, .int .i64 a])) w' → Q .ret ⟨t, []⟩ w')
    (hbrk : ∀ (t : Array Value) (w' : World) (v : Value), t.size = 346 → t[5]? = some v → RefR s w0 (.returned (.tuple #[v, .int .i64 0, .int .i64 0])) w' → Q (.exit 0) ⟨t, []⟩ w') :
    Code.wp Tryd.prog (.loop refLoop) Q ⟨t, []⟩ w := by
  refine wp_loop_ghost (fun n a w => a.defers = [] ∧ ∃ p, n = s.size - p ∧ RInv s w0 p a.tmps w) (s.size - p) ⟨rfl, p, rfl, hI⟩ ?_
  rintro n ⟨t, d⟩ w ⟨hd, p, rfl, hI⟩
  have hd : d = [] := hd
  subst hd
  refine ref_round t s p w0 w _ hs hI (fun t w' v c a h2 h3 h4 hR => hret t w' v c a h2 h3 h4 hR) (fun t w' v hsz h5 hR => hbrk t w' v hsz h5 hR) ?_
  intro p' t w' hpp hI'
  have hle : p' ≤ s.size := by obtain ⟨_, _, _, _, _, _, _, _, _, _, hK, _⟩ := hI'; exact hK.le
  exact ⟨s.size - p', by omega, rfl, p', rfl, hI'⟩
set_option maxRecDepth 100000 in
set_option maxHeartbeats 4000000 in
theorem refRead_any (s : ByteArray) (w : World) (hs : s.size ≤ 1048576) : Calls Tryd.prog 8 #[.string s] w (RefR s w) := by
  go_enter Tryd.func8, Tryd.ntmps8
  go_wp2_with fail
  refine ref_loop _ s 0 w w _ hs ⟨_, _, _, ⟨#[]⟩, false, [], [], [], s.size, ⟨rfl, rfl, rfl, rfl, rfl, rfl, rfl, rfl⟩, ⟨Nat.zero_le _, .inl rfl, by simp, by simp, by simp, by simp, RS.start w, Below.refl _ _⟩, by omega, rfl⟩ ?_ ?_
  · intro t w' v c a h2 h3 h4 hR
    refine bodyPost_ret (v := .tuple #[v, .int .i64 c, .int .i64 a]) (by simp [results, Tryd.results8, go_sem, h2, h3, h4]) rfl hR
  · intro t w' v hsz h5 hR
    obtain ⟨u, rfl⟩ := spread t hsz
    replace h5 : u 5 = v := Option.some.inj h5
    rw [h5]
    go_wp2_with fail
    refine bodyPost_ret (v := .tuple #[v, .int .i64 0, .int .i64 0]) (by simp [results, Tryd.results8, go_sem]) rfl hR
end Tp
end Go.Proofs.YtiehjmjobcklmaaDoor
