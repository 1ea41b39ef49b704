/- Walks: what the reference takes of its records. -/
import Derived.Test.YtiehjmjobcklmaaDoorTp4
import Derived.Test.YtiehjmjobcklmaaDoorTp0b
import Derived.Laws.OwnMore
namespace Go.Proofs.YtiehjmjobcklmaaDoor
open Go.RowKit Go.Shelf Go.Lib
namespace Tp
def ToldR (o : Option Bs) (w : World) (e : Ending) (w' : World) : Prop := ∃ (r : ByteArray) (b : Bool), e = .returned (.tuple #[.string r, .bool b]) ∧ o = (if b = true then some (bl r) else none) ∧ w = w'
theorem ToldR.no {o : Option Bs} {w : World} {r : ByteArray} (h : o = none) : ToldR o w (.returned (.tuple #[.string r, .bool false])) w := by subst h; exact ⟨_, _, rfl, rfl, rfl⟩
theorem ToldR.yes {o : Option Bs} {w : World} {r : ByteArray} {l : Bs} (h : o = some l) (hr : bl r = l) : ToldR o w (.returned (.tuple #[.string r, .bool true])) w := by subst h; subst hr; exact ⟨_, _, rfl, rfl, rfl⟩

set_option maxRecDepth 100000 in
set_option maxHeartbeats 1000000 in
theorem told_any (rs : List Rec) (key : ByteArray) (v : Value) (B : Nat) (w : World) (hn : rs.length ≤ 16777216) (hown : w.ownsRow B 93 2 v rs.length (recCells rs)) :
    Calls Tryd.prog 19 #[v, .string key] w (ToldR (toldM rs (bl key)) w) := by
  obtain ⟨g, cap, hv⟩ : ∃ ao cap, v = .slice ao rs.length cap := by
    rcases hown.2 with ⟨h, h'⟩ | ⟨g, cap, cur, h, _⟩
    · exact ⟨none, 0, by rw [h, h']⟩
    · exact ⟨_, _, h⟩
  have hcell : 0 < rs.length → ∃ g0, g = some ⟨g0, 0, none⟩ ∧ ∀ j (h : j < rs.length), ∃ x y : ByteArray, bl x = rs[j].1 ∧ bl y = rs[j].2 ∧ w.cell? ⟨g0, j * 2, none⟩ = some (.string x) ∧ w.cell? ⟨g0, j * 2 + 1, none⟩ = some (.string y) := by
    intro hpos
    rcases hown.2 with ⟨h, h'⟩ | ⟨g0, cap0, cur, h, _⟩
    · omega
    · rw [hv] at h
      injection h with h1 h2 h3
      refine ⟨g0, h1, fun j hj => ?_⟩
      have hc := hown.cells (g := g0) (by rw [hv, h1]; rfl)
      have hg := recCells_get hj
      rw [Nat.mul_comm] at hg
      exact ⟨⟨rs[j].1.toArray⟩, ⟨rs[j].2.toArray⟩, by simp [bl], by simp [bl], by have := hc _ _ hg.1; rwa [add_zero_block] at this, by have := hc _ _ hg.2; rwa [add_zero_block] at this⟩
  subst hv
  clear hown
  by_cases h0 : rs.length = 0
  · have hrs := List.eq_nil_of_length_eq_zero h0
    subst hrs
    clear hcell
    go_enter Tryd.func19, Tryd.ntmps19
    go_wp2
    refine wp_loop_rounds 1 ?_
    rw [rounds_succ]
    go_wp2
    go_ret2
    exact ToldR.no rfl
  · obtain ⟨g0, rfl, hc⟩ := hcell (by omega)
    have HC := Lib.hid hc; clear hc hcell
    have hpos : 1 ≤ rs.length := by omega
    clear h0
    go_enter Tryd.func19, Tryd.ntmps19
    go_wp2
    go_loopg [6] rs.length (fun gk i wr => ∃ j : Nat, gk = j ∧ j ≤ rs.length ∧ i = .int .i64 ((j : Int) - 1) ∧ toldM rs (bl key) = toldM (rs.take j) (bl key) ∧ w = wr)
    case atStart => exact ⟨rs.length, rfl, Nat.le_refl _, rfl, by rw [List.take_length], rfl⟩
    case round =>
      obtain ⟨j, hg, hj, rfl, hd, rfl⟩ := hrel
      have H := Lib.hid hd; clear hd
      have HG := Lib.hid hg; clear hg
      rcases j with _ | j
      · go_wp2
        go_ret2
        exact ToldR.no H.out
      · have hjl : j < rs.length := by omega
        obtain ⟨x, y, hx, hy, c1, c2⟩ := HC.out j hjl
        have HX := Lib.hid hx
        have HY := Lib.hid hy
        clear hx hy
        have hj1 : ((j + 1 : Nat) : Int) - 1 = (j : Int) := by omega
        rw [hj1]
        by_cases hk : rs[j].1 = bl key
        · have HR := Lib.hid (H.out.trans (toldM_hit hjl hk))
          have hb := tl_beq (HX.out.trans hk)
          clear hk
          go_wp2
          go_ret2
          exact ToldR.yes HR.out HY.out
        · have HR := Lib.hid (H.out.trans (toldM_miss hjl hk))
          have hb := tl_bne (x := x) (k := key) (by rw [HX.out]; exact hk)
          clear hk
          go_wp2
          go_roundg j
          case rel => exact ⟨j, rfl, by omega, by go_num, HR.out, rfl⟩
          case measure => have := HG.out; omega

def pickM (a b : List Rec) (k : Bs) : Option Bs := match toldM a k with | some v => some v | none => toldM b k
set_option maxRecDepth 100000 in
set_option maxHeartbeats 1000000 in
theorem pick_any (ra rb : List Rec) (key : ByteArray) (va vb : Value) (A B : Nat) (w : World) (ha : ra.length ≤ 16777216) (hb : rb.length ≤ 16777216)
    (howna : w.ownsRow A 93 2 va ra.length (recCells ra)) (hownb : w.ownsRow B 93 2 vb rb.length (recCells rb)) :
    Calls Tryd.prog 15 #[va, vb, .string key] w (ToldR (pickM ra rb (bl key)) w) := by
  have C1 := Lib.hid (told_any ra key va A w ha howna)
  have C2 := Lib.hid (told_any rb key vb B w hb hownb)
  clear howna hownb
  go_enter Tryd.func15, Tryd.ntmps15
  go_wp2_with fail
  refine C1.out.mono ?_
  rintro e w' ⟨r, b, rfl, hr, rfl⟩
  have HR := Lib.hid hr; clear hr
  rcases b with _ | _
  · go_wp2_with fail
    refine C2.out.mono ?_
    rintro e w' ⟨r2, b2, rfl, hr2, rfl⟩
    have HR2 := Lib.hid hr2; clear hr2
    go_wp2_with fail
    go_ret2
    exact ⟨r2, b2, rfl, by unfold pickM; rw [HR.out, ← HR2.out]; rfl, rfl⟩
  · go_wp2_with fail
    go_ret2
    exact ⟨r, true, rfl, by unfold pickM; rw [HR.out]; rfl, rfl⟩
end Tp
end Go.Proofs.YtiehjmjobcklmaaDoor
