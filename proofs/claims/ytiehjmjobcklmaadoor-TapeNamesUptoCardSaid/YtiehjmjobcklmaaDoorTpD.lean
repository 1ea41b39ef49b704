/- What the reference's reader keeps between rounds. -/
import Derived.Test.YtiehjmjobcklmaaDoorTpC
import Derived.Maps.AppendAt
import Derived.Laws.AppendOwnNone
namespace Go.Proofs.YtiehjmjobcklmaaDoor
open Go.RowKit Go.Shelf Go.Lib
namespace Tp
theorem layM_told (xs : List Rec) : layM noTold xs = ⟨toldM xs kPath, toldM xs kLink, toldM xs kSize, toldM xs kTime⟩ := by
  obtain ⟨n, hn⟩ : ∃ n, n = xs.length := ⟨_, rfl⟩
  induction n generalizing xs with
  | zero => rw [List.eq_nil_of_length_eq_zero hn.symm]; rfl
  | succ n ih =>
    rcases List.eq_nil_or_concat xs with rfl | ⟨xs, r, rfl⟩
    · rfl
    have ih := ih xs (by simpa using hn)
    rw [List.concat_eq_append, layM_snoc, ih, toldM_snoc, toldM_snoc, toldM_snoc, toldM_snoc]
    unfold layOne
    by_cases h1 : r.1 = kPath
    · have e2 : ¬ kPath = kLink := by decide
      have e3 : ¬ kPath = kSize := by decide
      have e4 : ¬ kPath = kTime := by decide
      simp [h1, e2, e3, e4]
    · by_cases h2 : r.1 = kLink
      · have e1 : ¬ kLink = kPath := by decide
        have e3 : ¬ kLink = kSize := by decide
        have e4 : ¬ kLink = kTime := by decide
        simp [h2, e1, e3, e4]
      · by_cases h3 : r.1 = kSize
        · have e1 : ¬ kSize = kPath := by decide
          have e2 : ¬ kSize = kLink := by decide
          have e4 : ¬ kSize = kTime := by decide
          simp [h3, e1, e2, e4]
        · by_cases h4 : r.1 = kTime
          · have e1 : ¬ kTime = kPath := by decide
            have e2 : ¬ kTime = kLink := by decide
            have e3 : ¬ kTime = kSize := by decide
            simp [h4, e1, e2, e3]
          · simp [h1, h2, h3, h4]
theorem layM_append (t : ToldM) (xs rs : List Rec) : layM t (xs ++ rs) = layM (layM t xs) rs := by simp [layM]
theorem pick_over (xs ys : List Rec) (k : Bs) : pickM xs ys k = overM (toldM xs k) (toldM ys k) := by
  unfold pickM overM; cases toldM xs k <;> rfl
def stOf (xs ys : List Rec) (lo : ByteArray) (named : Bool) (fs : List FileM) : StM := ⟨layM noTold xs, layM noTold ys, if named = true then some (bl lo) else none, fs⟩
theorem stOf_zero (lo : ByteArray) : st0 = stOf [] [] lo false [] := rfl
section
variable (xs ys : List Rec) (lo : ByteArray) (named : Bool) (fs : List FileM)
theorem stOf_size : overM (stOf xs ys lo named fs).next.size (stOf xs ys lo named fs).all.size = pickM xs ys kSize := by simp [stOf, layM_told, pick_over]
theorem stOf_time : overM (stOf xs ys lo named fs).next.time (stOf xs ys lo named fs).all.time = pickM xs ys kTime := by simp [stOf, layM_told, pick_over]
theorem stOf_link : overM (stOf xs ys lo named fs).next.link (stOf xs ys lo named fs).all.link = pickM xs ys kLink := by simp [stOf, layM_told, pick_over]
theorem stOf_path : overM (stOf xs ys lo named fs).next.path (overM (stOf xs ys lo named fs).long (stOf xs ys lo named fs).all.path) = overM (toldM xs kPath) (overM (if named = true then some (bl lo) else none) (toldM ys kPath)) := by
  simp [stOf, layM_told]
end

/-- the three lists in memory -/
structure RS (B : Nat) (x y fv : Value) (xs ys : List Rec) (fs : List FileM) (w : World) : Prop where
  rx : w.ownsRow B 93 2 x xs.length (recCells xs)
  ry : w.ownsRow B 93 2 y ys.length (recCells ys)
  rf : w.ownsRow B 38 7 fv fs.length (filesCells fs)
  apart : x.ownBlock = none ∨ x.ownBlock ≠ y.ownBlock
  lt : B ≤ w.heap.size
theorem own_apart {w : World} {B1 B2 s1 s2 n1 n2 : Nat} {e1 e2 : TypeId} {v1 v2 : Value} {l1 l2 : List Value} (h1 : w.ownsRow B1 e1 s1 v1 n1 l1) (h2 : w.ownsRow B2 e2 s2 v2 n2 l2) (hne : e1 ≠ e2) :
    v1.ownBlock = none ∨ v1.ownBlock ≠ v2.ownBlock := by
  rcases h1.2 with ⟨rfl, _⟩ | ⟨g, cap, cur, rfl, _, hh, _⟩
  · left; rfl
  · right; exact own_ne h2 ⟨_, hh⟩ hne
theorem RS.start (w : World) : RS w.heap.size (.slice none 0 0) (.slice none 0 0) (.slice none 0 0) [] [] [] w :=
  ⟨World.ownsRow_nil _ _ _ _, World.ownsRow_nil _ _ _ _, World.ownsRow_nil _ _ _ _, .inl rfl, Nat.le_refl _⟩
section
variable {B : Nat} {x y fv : Value} {xs ys : List Rec} {fs : List FileM} {w w' : World}
theorem RS.swap (h : RS B x y fv xs ys fs w) : RS B y x fv ys xs fs w := ⟨h.ry, h.rx, h.rf, by
  rcases hx : x.ownBlock with _ | b
  · rcases hy : y.ownBlock with _ | c
    · exact .inl rfl
    · right; simp
  · rcases h.apart with e | e
    · rw [hx] at e; cases e
    · right; rw [← hx]; exact fun e' => e e'.symm, h.lt⟩
theorem RS.kept (h : RS B x y fv xs ys fs w) (hb : Below w.heap.size w w') : RS B x y fv xs ys fs w' :=
  ⟨h.rx.kept (grown_below hb) (by cases x.ownBlock <;> simp), h.ry.kept (grown_below hb) (by cases y.ownBlock <;> simp), h.rf.kept (grown_below hb) (by cases fv.ownBlock <;> simp), h.apart, Nat.le_trans h.lt hb.size⟩
theorem RS.clear (h : RS B x y fv xs ys fs w) : RS B (.slice none 0 0) y fv [] ys fs w := ⟨World.ownsRow_nil _ _ _ _, h.ry, h.rf, .inl rfl, h.lt⟩
theorem recCells_append (xs rs : List Rec) : recCells (xs ++ rs) = recCells xs ++ recCells rs := by simp [recCells]
theorem RS.pushX (h : RS B x y fv xs ys fs w) {v' : Value} {rs : List Rec} (ho : w'.ownsRow B 93 2 v' (xs.length + rs.length) (recCells xs ++ recCells rs)) (hg : w.grownBy w' x.ownBlock)
    (hat : v'.ownBlock = x.ownBlock ∨ v'.ownBlock = some w.heap.size) : RS B v' y fv (xs ++ rs) ys fs w' := by
  refine ⟨by rw [List.length_append, recCells_append]; exact ho, h.ry.kept hg h.swap.apart, h.rf.kept hg (own_apart h.rf h.rx (by decide)), ?_, Nat.le_trans h.lt hg.size⟩
  rcases hat with e | e
  · rw [e]; exact h.apart
  · right
    rw [e]
    intro e'
    have := (h.ry.lt _ e'.symm).2
    omega
theorem RS.pushF (h : RS B x y fv xs ys fs w) {v' : Value} {f : FileM} (ho : w'.ownsRow B 38 7 v' (fs.length + 1) (filesCells fs ++ fileCells f)) (hg : w.grownBy w' fv.ownBlock) :
    RS B x y v' xs ys (fs ++ [f]) w' :=
  ⟨h.rx.kept hg (own_apart h.rx h.rf (by decide)), h.ry.kept hg (own_apart h.ry h.rf (by decide)), by rw [List.length_append, List.length_singleton, filesCells_snoc]; exact ho, h.apart, Nat.le_trans h.lt hg.size⟩
theorem RS.below (h : RS B x y fv xs ys fs w) {w0 : World} (hb : Below w0.heap.size w0 w) (hB : B = w0.heap.size) {row : Option Nat} (hv : row = x.ownBlock ∨ row = y.ownBlock ∨ row = fv.ownBlock) (hg : w.grownBy w' row) : Below w0.heap.size w0 w' := by
  refine hb.grown hg (hb.size) fun k hk => ?_
  subst hk
  rcases hv with e | e | e
  · have := (h.rx.lt k e.symm).1; omega
  · have := (h.ry.lt k e.symm).1; omega
  · have := (h.rf.lt k e.symm).1; omega
end
def RefR (s : ByteArray) (w : World) (e : Ending) (w' : World) : Prop :=
  Below w.heap.size w w' ∧ match readM s.size (bl s) 0 st0 with
    | .error (c, a) => e = .returned (.tuple #[.slice none 0 0, .int .i64 c, .int .i64 a])
    | .ok fs => ∃ v, e = .returned (.tuple #[v, .int .i64 0, .int .i64 0]) ∧ w'.ownsRow w.heap.size 38 7 v fs.length (filesCells fs)
theorem RefR.err {s : ByteArray} {w w' : World} {c a : Nat} {x y : Int} (h : readM s.size (bl s) 0 st0 = .error (c, a)) (hx : x = c) (hy : y = a) (hb : Below w.heap.size w w') :
    RefR s w (.returned (.tuple #[.slice none 0 0, .int .i64 x, .int .i64 y])) w' := by unfold RefR; rw [h]; subst hx; subst hy; exact ⟨hb, rfl⟩
theorem RefR.fine {s : ByteArray} {w w' : World} {fs : List FileM} {v : Value} (h : readM s.size (bl s) 0 st0 = .ok fs) (ho : w'.ownsRow w.heap.size 38 7 v fs.length (filesCells fs)) (hb : Below w.heap.size w w') :
    RefR s w (.returned (.tuple #[v, .int .i64 0, .int .i64 0])) w' := by unfold RefR; rw [h]; exact ⟨hb, v, rfl, ho⟩
/-- the steps of a head, one after another -/
theorem headM_num {d h : Bs} {p : Nat} {st : StM} {c o : Nat} (e : numbersM h = .error (c, o)) : headM d h p st = .error (c, p + o) := by unfold headM; rw [e]
theorem headM_size {d h : Bs} {p : Nat} {st : StM} {mode s0 t0 : Nat} (e : numbersM h = .ok (mode, s0, t0)) (e2 : sizeM (kindM h) st s0 = none) : headM d h p st = .error (14, p + 124) := by unfold headM; rw [e]; simp only; rw [e2]
theorem headM_time {d h : Bs} {p : Nat} {st : StM} {mode s0 t0 size : Nat} (e : numbersM h = .ok (mode, s0, t0)) (e2 : sizeM (kindM h) st s0 = some size) (e3 : timeM (kindM h) st t0 = none) : headM d h p st = .error (14, p + 136) := by
  unfold headM; rw [e]; simp only; rw [e2]; simp only; rw [e3]
theorem headM_cut {d h : Bs} {p : Nat} {st : StM} {mode s0 t0 size time : Nat} (e : numbersM h = .ok (mode, s0, t0)) (e2 : sizeM (kindM h) st s0 = some size) (e3 : timeM (kindM h) st t0 = some time) (e4 : d.length < p + 512 + lenM (kindM h) size) :
    headM d h p st = .error (3, p + 512) := by unfold headM; rw [e]; simp only; rw [e2]; simp only; rw [e3]; simp only; rw [if_pos e4]
theorem headM_rest {d h : Bs} {p : Nat} {st : StM} {mode s0 t0 size time : Nat} (e : numbersM h = .ok (mode, s0, t0)) (e2 : sizeM (kindM h) st s0 = some size) (e3 : timeM (kindM h) st t0 = some time) (e4 : ¬ d.length < p + 512 + lenM (kindM h) size) :
    headM d h p st = (match restM d h p st mode size time with | .error x => .error x | .ok st' => .ok (atM d p (lenM (kindM h) size), st')) := by unfold headM; rw [e]; simp only; rw [e2]; simp only; rw [e3]; simp only; rw [if_neg e4]; cases restM d h p st mode size time <;> rfl
theorem numbersM_1 {h : Bs} (e : number (fld h 148 8) = none) : numbersM h = .error (14, 148) := by unfold numbersM; rw [e]
theorem numbersM_2 {h : Bs} {want : Nat} (e : number (fld h 148 8) = some want) (e2 : sumFrom 0 0 h ≠ want) : numbersM h = .error (10, 148) := by unfold numbersM; rw [e]; simp only; rw [if_pos e2]
theorem numbersM_3 {h : Bs} {want : Nat} (e : number (fld h 148 8) = some want) (e2 : sumFrom 0 0 h = want) (e3 : number (fld h 124 12) = none) : numbersM h = .error (14, 124) := by unfold numbersM; rw [e]; simp only; rw [if_neg (by simpa using e2), e3]
theorem numbersM_4 {h : Bs} {want size : Nat} (e : number (fld h 148 8) = some want) (e2 : sumFrom 0 0 h = want) (e3 : number (fld h 124 12) = some size) (e4 : number (fld h 100 8) = none) : numbersM h = .error (14, 100) := by
  unfold numbersM; rw [e]; simp only; rw [if_neg (by simpa using e2), e3]; simp only; rw [e4]
theorem numbersM_5 {h : Bs} {want size mode : Nat} (e : number (fld h 148 8) = some want) (e2 : sumFrom 0 0 h = want) (e3 : number (fld h 124 12) = some size) (e4 : number (fld h 100 8) = some mode) (e5 : number (fld h 136 12) = none) : numbersM h = .error (14, 136) := by
  unfold numbersM; rw [e]; simp only; rw [if_neg (by simpa using e2), e3]; simp only; rw [e4]; simp only; rw [e5]
theorem numbersM_6 {h : Bs} {want size mode time : Nat} (e : number (fld h 148 8) = some want) (e2 : sumFrom 0 0 h = want) (e3 : number (fld h 124 12) = some size) (e4 : number (fld h 100 8) = some mode) (e5 : number (fld h 136 12) = some time) :
    numbersM h = .ok (mode, size, time) := by
  unfold numbersM; rw [e]; simp only; rw [if_neg (by simpa using e2), e3]; simp only; rw [e4]; simp only; rw [e5]
theorem refNum_none {s : ByteArray} (h : number (bl s) = none) (w : World) (hs : s.size ≤ 16777216) :
    Calls Tryd.prog 14 #[.string s] w fun e w' => e = .returned (.tuple #[.int .i64 0, .bool false]) ∧ w = w' :=
  (refNumber_any s w hs).mono fun _ _ h' => by rw [h] at h'; exact h'
theorem refNum_some {s : ByteArray} {n : Nat} (h : number (bl s) = some n) (w : World) (hs : s.size ≤ 16777216) :
    Calls Tryd.prog 14 #[.string s] w fun e w' => e = .returned (.tuple #[.int .i64 n, .bool true]) ∧ w = w' :=
  (refNumber_any s w hs).mono fun _ _ h' => by rw [h] at h'; exact h'
end Tp
end Go.Proofs.YtiehjmjobcklmaaDoor
