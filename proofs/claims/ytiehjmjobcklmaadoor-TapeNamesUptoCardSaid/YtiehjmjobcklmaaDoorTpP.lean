/- Walks: two lists of members that are the same; the law's first test. -/
import Derived.Test.YtiehjmjobcklmaaDoorTpC
namespace Go.Proofs.YtiehjmjobcklmaaDoor
open Go.RowKit Go.Shelf Go.Lib
namespace Tp
theorem filesCells_get : ∀ {fs : List FileM} {j k : Nat} (_ : j < fs.length) (_ : k < 7), (filesCells fs)[j * 7 + k]? = (fileCells fs[j])[k]?
  | f :: fs, 0, k, _, hk => by
    have e : filesCells (f :: fs) = fileCells f ++ filesCells fs := by simp [filesCells]
    rw [e, Nat.zero_mul, Nat.zero_add, List.getElem?_append_left (by simpa [fileCells] using hk)]; rfl
  | f :: fs, j + 1, k, h, hk => by
    have ih := filesCells_get (fs := fs) (j := j) (k := k) (by simpa using h) hk
    have e : filesCells (f :: fs) = fileCells f ++ filesCells fs := by simp [filesCells]
    have e2 : (fileCells f).length = 7 := rfl
    rw [e, List.getElem?_append_right (by omega), e2, show (j + 1) * 7 + k - 7 = j * 7 + k by omega, ih]
    rfl
/-- the cells of a list of members -/
def MemCells (w : World) (g : Nat) (fs : List FileM) : Prop := ∀ j (h : j < fs.length), w.cell? ⟨g, j * 7, none⟩ = some (str fs[j].name) ∧ w.cell? ⟨g, j * 7 + 1, none⟩ = some (str fs[j].link) ∧ w.cell? ⟨g, j * 7 + 2, none⟩ = some (.int .u8 fs[j].kind.toNat) ∧
  w.cell? ⟨g, j * 7 + 3, none⟩ = some (.int .i64 fs[j].mode) ∧ w.cell? ⟨g, j * 7 + 4, none⟩ = some (.int .i64 fs[j].size) ∧ w.cell? ⟨g, j * 7 + 5, none⟩ = some (.int .i64 fs[j].time) ∧ w.cell? ⟨g, j * 7 + 6, none⟩ = some (str fs[j].data)
theorem memCells_of {w : World} {B g : Nat} {e : TypeId} {v : Value} {fs : List FileM} (h : w.ownsRow B e 7 v fs.length (filesCells fs)) (hg : v.ownBlock = some g) : MemCells w g fs := by
  intro j hj
  have hc := h.cells hg
  have key : ∀ k (_ : k < 7) u, (fileCells fs[j])[k]? = some u → w.cell? ⟨g, j * 7 + k, none⟩ = some u := fun k hk u hu => by
    have := hc (j * 7 + k) u (by rw [filesCells_get hj hk]; exact hu)
    rwa [add_zero_block] at this
  exact ⟨key 0 (by decide) _ rfl, key 1 (by decide) _ rfl, key 2 (by decide) _ rfl, key 3 (by decide) _ rfl, key 4 (by decide) _ rfl, key 5 (by decide) _ rfl, key 6 (by decide) _ rfl⟩
theorem own_form {w : World} {B : Nat} {e : TypeId} {v : Value} {n s : Nat} {xs : List Value} (h : w.ownsRow B e s v n xs) : (n = 0 ∧ v = .slice none 0 0) ∨ ∃ g cap, v = .slice (some ⟨g, 0, none⟩) n cap := by
  rcases h.2 with ⟨h, h'⟩ | ⟨g, cap, cur, h, _⟩
  · exact .inl ⟨h', h⟩
  · exact .inr ⟨g, cap, h⟩
def SameR (w : World) (e : Ending) (w' : World) : Prop := e = .returned (.bool true) ∧ Below w.heap.size w w'
set_option maxRecDepth 100000 in
set_option maxHeartbeats 1000000 in
theorem same_some (fs : List FileM) (a b ca cb : Nat) (w : World) (hn : fs.length ≤ 1024) (ha : MemCells w a fs) (hb : MemCells w b fs) :
    Calls Tryd.prog 9 #[.slice (some ⟨a, 0, none⟩) fs.length ca, .slice (some ⟨b, 0, none⟩) fs.length cb] w (SameR w) := by
  have HA := Lib.hid ha
  have HB := Lib.hid hb
  clear ha hb
  go_enter Tryd.func9, Tryd.ntmps9
  go_wp2_with fail
  go_loopg [5] fs.length (fun gk i wr => ∃ j n : Nat, gk = fs.length - j ∧ j ≤ fs.length ∧ i = .int .i64 j ∧ wr = w.drewN n)
  case atStart => exact ⟨0, 0, rfl, Nat.zero_le _, rfl, rfl⟩
  case round =>
    obtain ⟨j, n, hg, hj, rfl, rfl⟩ := hrel
    have HG := Lib.hid hg; clear hg
    by_cases hlt : j < fs.length
    · obtain ⟨a0, a1, a2, a3, a4, a5, a6⟩ := HA.out j hlt
      obtain ⟨b0, b1, b2, b3, b4, b5, b6⟩ := HB.out j hlt
      unfold str at a0 a1 a6 b0 b1 b6
      go_wp2_with fail
      go_quiet (fail)
      go_wp2_with fail
      go_roundg (fs.length - (j + 1))
      case rel => exact ⟨j + 1, _, rfl, by omega, by go_num, rfl⟩
      case measure => have := HG.out; omega
    · go_wp2_with fail
      go_ret
      exact ⟨rfl, below_drewN (Below.refl _ _) _⟩
set_option maxHeartbeats 1000000 in
theorem same_nil (ao bo : Option Addr) (ca cb : Nat) (w : World) : Calls Tryd.prog 9 #[.slice ao 0 ca, .slice bo 0 cb] w (SameR w) := by
  go_enter Tryd.func9, Tryd.ntmps9
  go_wp2
  refine wp_loop_rounds 1 ?_
  rw [rounds_succ]
  go_wp2
  go_ret
  exact ⟨rfl, Below.refl _ _⟩
theorem same_any {B1 B2 : Nat} {e1 e2 : TypeId} (fs : List FileM) (v1 v2 : Value) (w : World) (hn : fs.length ≤ 1024) (h1 : w.ownsRow B1 e1 7 v1 fs.length (filesCells fs)) (h2 : w.ownsRow B2 e2 7 v2 fs.length (filesCells fs)) :
    Calls Tryd.prog 9 #[v1, v2] w (SameR w) := by
  rcases own_form h1 with ⟨hz, rfl⟩ | ⟨a, ca, rfl⟩
  · rcases own_form h2 with ⟨_, rfl⟩ | ⟨b, cb, rfl⟩
    · exact same_nil none none 0 0 w
    · rw [hz]; exact same_nil none _ 0 cb w
  · rcases own_form h2 with ⟨hz, rfl⟩ | ⟨b, cb, rfl⟩
    · rw [hz]; exact same_nil _ none ca 0 w
    · exact same_some fs a b ca cb w hn (memCells_of h1 rfl) (memCells_of h2 rfl)
theorem speaks_any (w : World) : Calls Tryd.prog 6 #[] w fun e w' => e = .returned (.bool true) ∧ Below w.heap.size w w' := by
  have hN : number (bl ⟨#[48, 48, 48, 48, 54, 52, 52, 0]⟩) = some 420 := by decide
  have C := Lib.hid ((number_any ⟨#[48, 48, 48, 48, 54, 52, 52, 0]⟩ w (by decide)).mono (R' := fun e w' => e = .returned (.tuple #[.int .i64 420, .bool true]) ∧ Below w.heap.size w w') fun e w' h => by rw [hN] at h; exact h)
  clear hN
  go_enter Tryd.func6, Tryd.ntmps6
  go_wp2_with fail
  refine C.out.mono ?_
  rintro e w' ⟨rfl, hb⟩
  have HB := Lib.hid hb
  clear hb
  go_wp2_with fail
  go_ret
  exact ⟨rfl, HB.out⟩
def LawR (w : World) (e : Ending) (w' : World) : Prop := e = .returned (.bool true) ∧ Below w.heap.size w w'
end Tp
end Go.Proofs.YtiehjmjobcklmaaDoor
