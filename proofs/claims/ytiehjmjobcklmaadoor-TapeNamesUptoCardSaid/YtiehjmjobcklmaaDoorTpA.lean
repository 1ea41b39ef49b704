/- Walks: one more member (tape.reader.member). -/
import Derived.Test.YtiehjmjobcklmaaDoorTp9
import Derived.Deep.RegionLaw
import Derived.Deep.DeepCutAuto
import Derived.Lib.SmallJoins
namespace Go.Proofs.YtiehjmjobcklmaaDoor
open Go.RowKit Go.Shelf Go.Lib
namespace Tp
def kUstar : Bs := [117, 115, 116, 97, 114]
def nameM (h : Bs) : Bs :=
  if fld h 257 5 = kUstar ∧ takeTo 0 (fld h 345 155) ≠ [] then takeTo 0 (fld h 345 155) ++ 47 :: takeTo 0 (fld h 0 100) else takeTo 0 (fld h 0 100)
def memberM (st : StM) (kind : UInt8) (mode size time : Nat) (data h : Bs) (p : Nat) : Except (Nat × Nat) StM :=
  if st.files.length = 1024 then .error (16, p) else
  if 256 < ((overM st.next.path (overM st.long st.all.path)).getD (nameM h)).length ∨ 256 < ((overM st.next.link st.all.link).getD (takeTo 0 (fld h 157 100))).length then .error (2, p) else
  .ok { st with next := noTold, long := none, files := st.files ++ [⟨(overM st.next.path (overM st.long st.all.path)).getD (nameM h), (overM st.next.link st.all.link).getD (takeTo 0 (fld h 157 100)), kind, mode, size, time, if kind = 48 then data else []⟩] }

/-- the file and the fault that are being made -/
structure MemI (w0 : World) (nm lk dt : ByteArray) (kind : UInt8) (mode size time : Nat) (w : World) : Prop where
  bel : Below w0.heap.size w0 w
  f : w.heap[w0.heap.size]? = some (.cells #[.string nm, .string lk, .int .u8 kind.toNat, .int .i64 mode, .int .i64 size, .int .i64 time, .string dt] 36 (0, 0))
  q : w.heap[w0.heap.size + 1]? = some (.cells #[.int .i64 0, .int .i64 0] 26 (0, 0))
  lt : w0.heap.size + 1 < w.heap.size
section
variable {w0 w w' : World} {nm lk dt : ByteArray} {kind : UInt8} {mode size time : Nat}
theorem MemI.below (h : MemI w0 nm lk dt kind mode size time w) {K : Nat} (hb : Below K w w') (hK : w0.heap.size + 1 < K) : MemI w0 nm lk dt kind mode size time w' :=
  ⟨h.bel.trans (hb.mono (by omega)), (hb.block _ (by omega)).trans h.f, (hb.block _ hK).trans h.q, by have := h.lt; have := hb.size; omega⟩
theorem MemI.on (h : MemI w0 nm lk dt kind mode size time w) (hb : Below w.heap.size w w') : MemI w0 nm lk dt kind mode size time w' := h.below hb h.lt
theorem MemI.drewN (h : MemI w0 nm lk dt kind mode size time w) (n : Nat) : MemI w0 nm lk dt kind mode size time (w.drewN n) := ⟨below_drewN h.bel n, h.f, h.q, h.lt⟩
theorem MemI.start (w0 : World) (nm lk dt : ByteArray) (kind : UInt8) (mode size time : Nat) : MemI w0 nm lk dt kind mode size time
    ((w0.alloc (.cells #[.string nm, .string lk, .int .u8 kind.toNat, .int .i64 mode, .int .i64 size, .int .i64 time, .string dt] 36)).alloc (.cells #[.int .i64 0, .int .i64 0] 26)) :=
  ⟨((Below.refl _ _).alloc (Nat.le_refl _) _).alloc (by simp) _, (Below.heap_alloc _ _ _ (by simp)).trans (heap_alloc_new _ _), by
    have h := heap_alloc_new (w0.alloc (.cells #[.string nm, .string lk, .int .u8 kind.toNat, .int .i64 mode, .int .i64 size, .int .i64 time, .string dt] 36)) (.cells #[.int .i64 0, .int .i64 0] 26)
    simpa using h, by simp⟩
theorem MemI.c0 (h : MemI w0 nm lk dt kind mode size time w) : w.cell? ⟨w0.heap.size, 0, none⟩ = some (.string nm) := by rw [cell_of_row _ _ _ _ _ _ h.f]; rfl
theorem MemI.c1 (h : MemI w0 nm lk dt kind mode size time w) : w.cell? ⟨w0.heap.size, 1, none⟩ = some (.string lk) := by rw [cell_of_row _ _ _ _ _ _ h.f]; rfl
theorem MemI.c2 (h : MemI w0 nm lk dt kind mode size time w) : w.cell? ⟨w0.heap.size, 2, none⟩ = some (.int .u8 kind.toNat) := by rw [cell_of_row _ _ _ _ _ _ h.f]; rfl
theorem MemI.c3 (h : MemI w0 nm lk dt kind mode size time w) : w.cell? ⟨w0.heap.size, 3, none⟩ = some (.int .i64 mode) := by rw [cell_of_row _ _ _ _ _ _ h.f]; rfl
theorem MemI.c4 (h : MemI w0 nm lk dt kind mode size time w) : w.cell? ⟨w0.heap.size, 4, none⟩ = some (.int .i64 size) := by rw [cell_of_row _ _ _ _ _ _ h.f]; rfl
theorem MemI.c5 (h : MemI w0 nm lk dt kind mode size time w) : w.cell? ⟨w0.heap.size, 5, none⟩ = some (.int .i64 time) := by rw [cell_of_row _ _ _ _ _ _ h.f]; rfl
theorem MemI.c6 (h : MemI w0 nm lk dt kind mode size time w) : w.cell? ⟨w0.heap.size, 6, none⟩ = some (.string dt) := by rw [cell_of_row _ _ _ _ _ _ h.f]; rfl
theorem MemI.d0 (h : MemI w0 nm lk dt kind mode size time w) : w.cell? ⟨w0.heap.size + 1, 0, none⟩ = some (.int .i64 0) := by rw [cell_of_row _ _ _ _ _ _ h.q]; rfl
theorem MemI.d1 (h : MemI w0 nm lk dt kind mode size time w) : w.cell? ⟨w0.heap.size + 1, 1, none⟩ = some (.int .i64 0) := by rw [cell_of_row _ _ _ _ _ _ h.q]; rfl
theorem MemI.ff (h : MemI w0 nm lk dt kind mode size time w) (i : Nat) : w.frozen? ⟨w0.heap.size, i, none⟩ = false := by simp [World.frozen?, h.f]
theorem MemI.fq (h : MemI w0 nm lk dt kind mode size time w) (i : Nat) : w.frozen? ⟨w0.heap.size + 1, i, none⟩ = false := by simp [World.frozen?, h.q]
theorem MemI.name (h : MemI w0 nm lk dt kind mode size time w) (x : ByteArray) : MemI w0 x lk dt kind mode size time (w.setCell ⟨w0.heap.size, 0, none⟩ (.string x)) :=
  ⟨h.bel.setCell (Nat.le_refl _) _, block_set h.f 0 _, (Below.heap_setCell _ _ _ _ (by show w0.heap.size + 1 ≠ w0.heap.size; omega)).trans h.q, by simpa [World.setCell] using h.lt⟩
theorem MemI.link (h : MemI w0 nm lk dt kind mode size time w) (x : ByteArray) : MemI w0 nm x dt kind mode size time (w.setCell ⟨w0.heap.size, 1, none⟩ (.string x)) :=
  ⟨h.bel.setCell (Nat.le_refl _) _, block_set h.f 1 _, (Below.heap_setCell _ _ _ _ (by show w0.heap.size + 1 ≠ w0.heap.size; omega)).trans h.q, by simpa [World.setCell] using h.lt⟩
theorem MemI.data (h : MemI w0 nm lk dt kind mode size time w) (x : ByteArray) : MemI w0 nm lk x kind mode size time (w.setCell ⟨w0.heap.size, 6, none⟩ (.string x)) :=
  ⟨h.bel.setCell (Nat.le_refl _) _, block_set h.f 6 _, (Below.heap_setCell _ _ _ _ (by show w0.heap.size + 1 ≠ w0.heap.size; omega)).trans h.q, by simpa [World.setCell] using h.lt⟩
end
theorem hasPrefix_any (s p : ByteArray) (w : World) :
    Calls Tryd.prog 53 #[.string s, .string p] w fun e w' => e = .returned (.bool (Lib.hasPrefix (bl s) (bl p))) ∧ w = w' := (Tryd.strings_HasPrefix s p w).mono fun _ _ h => ⟨h.1, h.2.symm⟩

theorem ustar_iff (h : ByteArray) : Lib.hasPrefix (bl (h.extract 257 h.size)) (bl ⟨#[117, 115, 116, 97, 114]⟩) = decide (fld (bl h) 257 5 = kUstar) := by
  rw [bl_tail]
  show List.isPrefixOf kUstar ((bl h).drop 257) = _
  rw [Bool.eq_iff_iff, List.isPrefixOf_iff_prefix, decide_eq_true_iff, List.prefix_iff_eq_take]
  exact ⟨fun e => e.symm, fun e => e.symm⟩
theorem bl_append (a b : ByteArray) : bl (a ++ b) = bl a ++ bl b := Go.Joins.data_append a b

theorem over_val {va vb : Value} {oa ob : Option Bs} {w0 : World} (ha : Opt w0 va oa) (hb : Opt w0 vb ob) :
    ∃ v, Opt w0 v (overM oa ob) ∧ ∀ W, Calls Tryd.prog 36 #[va, vb] W fun e w' => e = .returned v ∧ w' = W := by
  rcases ha with ⟨rfl, rfl⟩ | ⟨b, off, r, cs, t, rfl, rfl, h3, h4, h5, h6⟩
  · rcases hb with ⟨rfl, rfl⟩ | ⟨b', off', r', cs', t', rfl, rfl, h3', h4', h5', h6'⟩
    · refine ⟨.slice none 0 0, .inl ⟨rfl, rfl⟩, fun W => ?_⟩
      go_enter Tryd.func36, Tryd.ntmps36
      go_wp2
      go_ret
      exact ⟨rfl, rfl⟩
    · refine ⟨.slice (some ⟨b', off', none⟩) 1 1, .inr ⟨b', off', r', cs', t', rfl, rfl, h3', h4', h5', h6'⟩, fun W => ?_⟩
      clear h3' h4' h5' h6'
      go_enter Tryd.func36, Tryd.ntmps36
      go_wp2
      go_ret
      exact ⟨rfl, rfl⟩
  · refine ⟨.slice (some ⟨b, off, none⟩) 1 1, .inr ⟨b, off, r, cs, t, rfl, rfl, h3, h4, h5, h6⟩, fun W => ?_⟩
    clear h3 h4 h5 h6 hb
    go_enter Tryd.func36, Tryd.ntmps36
    go_wp2
    go_ret
    exact ⟨rfl, rfl⟩

theorem Rd.reset {B g : Nat} {s : ByteArray} {at_ : Nat} {st : StM} {w : World} (h : Rd B g s at_ st w) : Rd B g s at_ { st with next := noTold, long := none }
    (((((w.setCell ⟨g, 2, none⟩ (.slice none 0 0)).setCell ⟨g, 3, none⟩ (.slice none 0 0)).setCell ⟨g, 4, none⟩ (.slice none 0 0)).setCell ⟨g, 5, none⟩ (.slice none 0 0)).setCell ⟨g, 10, none⟩ (.slice none 0 0)) := by
  obtain ⟨n0, n1, n2, n3, a0, a1, a2, a3, lo, fv, hg, hn, ha, hl, hf, hB⟩ := h
  have e2 := block_set hg 2 (.slice none 0 0)
  have e3 := block_set e2 3 (.slice none 0 0)
  have e4 := block_set e3 4 (.slice none 0 0)
  have e5 := block_set e4 5 (.slice none 0 0)
  have e10 := block_set e5 10 (.slice none 0 0)
  refine ⟨_, _, _, _, _, _, _, _, _, _, e10, ⟨.none_ _, .none_ _, .none_ _, .none_ _⟩, ?_, .none_ _, ?_, hB⟩
  · exact optT_set (optT_set (optT_set (optT_set (optT_set ha hg (by decide) (by decide)) e2 (by decide) (by decide)) e3 (by decide) (by decide)) e4 (by decide) (by decide)) e5 (by decide) (by decide)
  · exact own_grown (own_grown (own_grown (own_grown (own_grown hf hg (grown_set _ _ _ _)) e2 (grown_set _ _ _ _)) e3 (grown_set _ _ _ _)) e4 (grown_set _ _ _ _)) e5 (grown_set _ _ _ _)
theorem Rd.drew {B g : Nat} {s : ByteArray} {at_ : Nat} {st : StM} {w : World} (h : Rd B g s at_ st w) : Rd B g s at_ st w.drew := h.kept ⟨rfl, rfl, rfl, Nat.le_refl _, fun _ _ _ => rfl⟩
theorem Rd.files_of {B g : Nat} {s : ByteArray} {at_ : Nat} {st : StM} {w : World} {fv : Value} (h : Rd B g s at_ st w) (h11 : w.cell? ⟨g, 11, none⟩ = some fv) : w.ownsRow B 36 7 fv st.files.length (filesCells st.files) := by
  obtain ⟨n0, n1, n2, n3, a0, a1, a2, a3, lo, fv', hg, hn, ha, hl, hf, hB⟩ := h
  rw [cell_of_row _ _ _ _ _ _ hg] at h11
  have e : fv' = fv := by simpa [rdArr] using h11
  rw [← e]; exact hf
theorem Rd.push {B g : Nat} {s : ByteArray} {at_ : Nat} {st : StM} {w w2 : World} {fv v' : Value} {o : Obj} {f : FileM} (h : Rd B g s at_ st w) (h11 : w.cell? ⟨g, 11, none⟩ = some fv) (hgr : (w.alloc o).grownBy w2 fv.ownBlock)
    (hown : w2.ownsRow B 36 7 v' (st.files.length + 1) (filesCells st.files ++ fileCells f)) : Rd B g s at_ { st with files := st.files ++ [f] } (w2.setCell ⟨g, 11, none⟩ v') := by
  have hf := h.files_of h11
  obtain ⟨n0, n1, n2, n3, a0, a1, a2, a3, lo, fv', hg, hn, ha, hl, _, hB⟩ := h.alloc o
  have hfa := hf.alloc o
  have hr : ∀ k, fv.ownBlock = some k → ∃ cs t, (w.alloc o).heap[k]? = some (.cells cs t (0, 0)) ∧ t ≠ 93 ∧ t ≠ 9 := by
    intro k hk
    rcases hfa.2 with ⟨rfl, _⟩ | ⟨g', cap, cur, rfl, _, hh, _⟩
    · cases hk
    · have e : g' = k := by simpa [Value.ownBlock] using hk
      subst e; exact ⟨_, _, hh, by decide, by decide⟩
  have hg2 := (hgr.block g (Array.getElem?_eq_some_iff.1 hg).1 (by
    rcases row_ne hfa hg (by decide) with e | e
    · rw [e]; simp
    · exact fun e' => e e'.symm)).trans hg
  have hs := block_set hg2 11 v'
  exact ⟨n0, n1, n2, n3, a0, a1, a2, a3, lo, v', hs, optT_set (hn.kept hgr hr) hg2 (by decide) (by decide), optT_set (ha.kept hgr hr) hg2 (by decide) (by decide), opt_set (hl.kept hgr hr) hg2 (by decide) (by decide),
    by rw [List.length_append, List.length_singleton, filesCells_snoc]; exact own_grown hown hg2 (grown_set _ _ _ _), hB⟩
theorem step_push {P : Program} {ops : Array Oper} {o : Oper} {a : Act} {w : World} {K : Act → World → Prop} {Q : Exit → Act → World → Prop} {E : Prop} (hgd : o.guard = none) (s x : Operand) (t : TypeId)
    (ho : o.op = .call { callee := .builtin .append, args := #[s, x], argTypes := #[t, t] })
    (base : Nat) (e : TypeId) (i : TypeInfo) (z : Value) (size bytes : Nat) (ht : P.underlying t = some (.slice e)) (hi : P.info? e = some i) (hz : i.zero = some z)
    (hsize : i.size = size) (hby : i.bytes = bytes) (hzs : z.cells.size = size) (hsz : 0 < size)
    (v : Value) (n : Nat) (xs : List Value) (hs : a.eval s = v) (hown : w.ownsRow base e size v n xs)
    (ad : Addr) (m c : Nat) (news : List Value) (hx : a.eval x = .slice (some ad) m c) (hl : news.length = m * size) (hnews : ∀ j u, news[j]? = some u → w.cell? (ad.add j) = some u) (h1 : ∀ u ∈ news, u.oneCell' = true)
    (h63 : n + m ≤ maxLen) (hbytes : (n + m) * bytes ≤ 140737488355328) (hbase : base ≤ w.heap.size)
    (h : ∀ v' w', w'.ownsRow base e size v' (n + m) (xs ++ news) → w.grownBy w' v.ownBlock → (v' = .slice none 0 0 ↔ v = .slice none 0 0 ∧ m = 0) → K (a.put o.dst v') w') :
    if Region.wanted o (yielded ops a.tmps) = true then Oper.wp P o a w K Q else E := by
  have hw : Region.wanted o (yielded ops a.tmps) = true := by simp [Region.wanted, hgd]
  rw [if_pos hw]
  exact wp_append_own w s x t ho base e i z size bytes ht hi hz hsize hby hzs hsz v n xs hs hown ad m c news hx hl hnews h1 h63 hbytes hbase h
theorem HasT.free {w : World} {b : Nat} {t : TypeId} (h : HasT w b t) (i : Nat) : w.frozen? ⟨b, i, none⟩ = false := by obtain ⟨cs, h⟩ := h; simp [World.frozen?, h]
theorem own_ne {w : World} {base g : Nat} {e t : TypeId} {size n : Nat} {v : Value} {xs : List Value} (h : w.ownsRow base e size v n xs) (hg : HasT w g t) (hne : t ≠ e) : some g ≠ v.ownBlock := by
  obtain ⟨cs, hg⟩ := hg
  rcases h.2 with ⟨rfl, _⟩ | ⟨g', cap, cur, rfl, _, hh, _⟩
  · simp [Value.ownBlock]
  · intro he
    have e' : g = g' := by simpa [Value.ownBlock] using he
    subst e'
    rw [hg] at hh; injection hh with hh; injection hh with _ ht _; exact hne ht
/-- behind the append of a file: what the store and the end want -/
theorem push_facts {B g N : Nat} {s : ByteArray} {at_ : Nat} {st : StM} {w0 w w' : World} {fv v' : Value} {f : FileM} {cs : Array Value} (hR : Rd B g s at_ st w) (h11 : w.cell? ⟨g, 11, none⟩ = some fv)
    (hq : w.heap[N]? = some (.cells #[.int .i64 0, .int .i64 0] 26 (0, 0))) (hb : Below B w0 w) (hBN : B ≤ N) (hBw : B ≤ w.heap.size) (hk : KeepF w0 w) (hwN : w0.heap.size ≤ N)
    (hown : w'.ownsRow B 36 7 v' (st.files.length + 1) (filesCells st.files ++ fileCells f)) (hgr : (w.drew.alloc (.cells cs 36)).grownBy w' fv.ownBlock) :
    (∃ g2 c2, v' = .slice (some ⟨g2, 0, none⟩) (st.files.length + 1) c2) ∧ w'.cell? ⟨g, 11, none⟩ = some fv ∧ (∀ i, w'.frozen? ⟨g, i, none⟩ = false) ∧
    w'.heap[N]? = some (.cells #[.int .i64 0, .int .i64 0] 26 (0, 0)) ∧ N ≠ g ∧
    Rd B g s at_ { st with files := st.files ++ [f] } (((w'.setCell ⟨g, 11, none⟩ v').setCell ⟨N, 0, none⟩ (.int .i64 0)).setCell ⟨N, 1, none⟩ (.int .i64 0)) ∧
    Below B w0 (((w'.setCell ⟨g, 11, none⟩ v').setCell ⟨N, 0, none⟩ (.int .i64 0)).setCell ⟨N, 1, none⟩ (.int .i64 0)) ∧
    KeepF w0 (((w'.setCell ⟨g, 11, none⟩ v').setCell ⟨N, 0, none⟩ (.int .i64 0)).setCell ⟨N, 1, none⟩ (.int .i64 0)) := by
  have hl := hR.lt
  have hBg : B ≤ g := by obtain ⟨n0, n1, n2, n3, a0, a1, a2, a3, lo, fv', hg, hn, ha, hl, _, hB⟩ := hR; exact hB
  have hNT : HasT w N 26 := ⟨_, hq⟩
  have hof := hR.files_of h11
  have hgne := own_ne hof hR.hasT (by decide)
  have hNne := own_ne hof hNT (by decide)
  have hNg : N ≠ g := by
    rintro rfl
    obtain ⟨cs', e⟩ := hR.hasT
    rw [hq] at e; injection e with e; injection e with _ ht _; cases ht
  have hq' : w'.heap[N]? = _ := (hgr.block N (by simpa using Nat.lt_succ_of_lt hNT.lt) hNne).trans ((Below.heap_alloc w.drew _ N hNT.lt).trans hq)
  have hP := hR.drew.push h11 hgr hown
  have hT' : HasT (w'.setCell ⟨g, 11, none⟩ v') N 26 := HasT.set ⟨_, hq'⟩ _ _ _
  refine ⟨?_, ?_, ?_, hq', hNg, hP.fault hT', ?_, ?_⟩
  · rcases hown.2 with ⟨_, h⟩ | ⟨g2, c2, cur, h, _⟩
    · omega
    · exact ⟨_, _, h⟩
  · exact hgr.cell ((World.cell?_alloc_lt w.drew _ _ hl).trans h11) hgne
  · exact ((hR.hasT.drew.alloc _).grown hgr hgne).free
  · have hb' : Below B w0 w' := ((hb.drew).alloc hBw _).grown hgr (by simp; omega) fun k hk => (hof.lt k hk).1
    exact ((hb'.setCell hBg _).setCell hBN _).setCell hBN _
  · have hk' : KeepF w0 w' := (hk.drew.alloc _).grown hgr fun k e => by
      have hfa := (show w.drew.ownsRow B 36 7 fv st.files.length (filesCells st.files) from hof).alloc (.cells cs 36)
      rcases hfa.2 with ⟨rfl, _⟩ | ⟨g', cap, cur, rfl, _, hh, _⟩
      · cases e
      · have e' : g' = k := by simpa [Value.ownBlock] using e
        subst e'; exact ⟨_, ⟨_, hh⟩, by decide⟩
    exact ((hk'.set ((hR.hasT.drew.alloc _).grown hgr hgne) (by decide) 11 v').new hwN 0 _).new hwN 1 _
theorem info36 : (Tryd.prog.info? 36).map (fun i => (i.zero, i.size, i.bytes)) = some (some (.agg #[.string ⟨#[]⟩, .string ⟨#[]⟩, .int .u8 0, .int .i64 0, .int .i64 0, .int .i64 0, .string ⟨#[]⟩]), 7, 80) := by kernel_rfl

set_option maxRecDepth 100000 in
set_option maxHeartbeats 4000000 in
theorem member_any (B g : Nat) (s : ByteArray) (at_ : Nat) (st : StM) (nm0 lk0 dt h : ByteArray) (kind : UInt8) (mode size time : Nat) (p : Nat) (m : Int) (w : World) (hR : Rd B g s at_ st w) (_hp : p ≤ 16777216) (hh : h.size = 512)
    (hfl : st.files.length ≤ 1024) (_hdt : dt.size ≤ 16777216) (hmB : 2 < B) (hm : w.cell? ⟨2, 0, none⟩ = some (.int .i64 m)) :
    Calls Tryd.prog 42 #[.pointer (some ⟨g, 0, none⟩), .agg #[.string nm0, .string lk0, .int .u8 kind.toNat, .int .i64 mode, .int .i64 size, .int .i64 time, .string dt], .string h, .int .i64 p] w
      (StepR B g s at_ (memberM st kind mode size time (bl dt) (bl h) p) w) := by
  have hgl := hR.lt
  have hBg : B ≤ g := by obtain ⟨n0, n1, n2, n3, a0, a1, a2, a3, lo, fv, hb, hn, ha, hl, hf, hB⟩ := hR; exact hB
  have hMB : 2 < w.heap.size := by omega
  have HH := Lib.hid hh
  have hh1 : h.size ≤ 512 := by omega
  have hh2 : 512 ≤ h.size := by omega
  clear hh
  have HR := Lib.hid hR
  obtain ⟨n0, n1, n2, n3, a0, a1, a2, a3, lo, fv, hb, hn, ha, hl, hf, hB⟩ := hR
  obtain ⟨ao, cap, hfv⟩ : ∃ ao cap, fv = .slice ao st.files.length cap := by
    rcases hf.2 with ⟨h, h'⟩ | ⟨g, cap, cur, h, _⟩
    · exact ⟨none, 0, by rw [h, h']⟩
    · exact ⟨_, _, h⟩
  subst hfv
  have HF := Lib.hid hf; clear hf
  have hRC : ∀ i v, (rdArr s at_ n0 n1 n2 n3 a0 a1 a2 a3 lo (.slice ao st.files.length cap))[i]? = some v → w.cell? ⟨g, i, none⟩ = some v := fun i v hv => by rw [cell_of_row _ _ _ _ _ _ hb]; exact hv
  have hRF : ∀ i, w.frozen? ⟨g, i, none⟩ = false := fun i => by simp [World.frozen?, hb]
  have HRC := Lib.hid hRC
  have HRF := Lib.hid hRF
  have HB := Lib.hid hb
  have HN := Lib.hid hn
  have HA := Lib.hid ha
  have HL := Lib.hid hl
  clear hRC hRF hb hn ha hl
  have r11 : w.cell? ⟨g, 11, none⟩ = some (.slice ao st.files.length cap) := HRC.out 11 _ rfl
  have es : (w.alloc (.cells #[.string nm0, .string lk0, .int .u8 kind.toNat, .int .i64 mode, .int .i64 size, .int .i64 time, .string dt] 36)).heap.size = w.heap.size + 1 := by simp
  have hI := MemI.start w nm0 lk0 dt kind mode size time
  by_cases hM : st.files.length = 1024
  · have HM := Lib.hid (show memberM st kind mode size time (bl dt) (bl h) p = .error (16, p) by rw [memberM, if_pos hM])
    have hM' : ((st.files.length : Int) == 1024) = true := beq_iff_eq.2 (by omega)
    clear hM hI es
    go_enter Tryd.func42, Tryd.ntmps42
    go_wp2_with fail
    refine bodyPost_ret (v := .agg #[.int .i64 16, .int .i64 p]) (by simp [results, Tryd.results42, go_sem]) rfl ?_
    have hBe : Below w.heap.size w ((w.alloc (.cells #[.string nm0, .string lk0, .int .u8 kind.toNat, .int .i64 mode, .int .i64 size, .int .i64 time, .string dt] 36)).alloc (.cells #[.int .i64 16, .int .i64 p] 26)) := ((Below.refl _ _).alloc (Nat.le_refl _) _).alloc (by simp) _
    exact StepR.err HM.out (by decide) rfl rfl (hBe.mono (by omega)) (KeepF.below hBe)
  have hM' : ((st.files.length : Int) == 1024) = false := beq_eq_false_iff_ne.2 (by omega)
  have HMM := Lib.hid hM; clear hM es
  go_enter Tryd.func42, Tryd.ntmps42
  go_wp2_with fail
  revert hI
  generalize ((w.alloc (.cells #[.string nm0, .string lk0, .int .u8 kind.toNat, .int .i64 mode, .int .i64 size, .int .i64 time, .string dt] 36)).alloc (.cells #[.int .i64 0, .int .i64 0] 26)) = w1
  intro hI
  refine (name_any _).mono ?_
  rintro e w2 ⟨rfl, hb2⟩
  replace hI := hI.on hb2
  clear hb2
  go_wp2_with fail
  refine (text_any h 0 100 m _ (by omega) (by omega) ((hI.bel.cell hMB).trans hm)).mono ?_
  rintro e w3 ⟨x1, rfl, hx1, hxs1, hb3⟩
  replace hI := hI.on hb3
  have HX1 := Lib.hid hx1
  clear hb3 hx1
  go_wp2_with fail
  refine (link_any _).mono ?_
  rintro e w4 ⟨rfl, hb4⟩
  replace hI := hI.on hb4
  clear hb4
  go_wp2_with fail
  refine (text_any h 157 100 m _ (by omega) (by omega) ((hI.bel.cell hMB).trans hm)).mono ?_
  rintro e w5 ⟨x2, rfl, hx2, hxs2, hb5⟩
  replace hI := hI.on hb5
  have HX2 := Lib.hid hx2
  clear hb5 hx2
  have c0 := hI.c0
  have c1 := hI.c1
  have ff := hI.ff
  have hI2 := (hI.name x1).link x2
  clear hI
  go_wp2_with fail
  revert hI2
  generalize ((w5.setCell ⟨w.heap.size, 0, none⟩ (.string x1)).setCell ⟨w.heap.size, 1, none⟩ (.string x2)) = w6
  intro hI
  refine (prefix_any _).mono ?_
  rintro e w7 ⟨rfl, hb7⟩
  replace hI := hI.on hb7
  clear hb7 c0 c1 ff r11
  go_wp2_with fail
  refine (text_any h 345 155 m _ (by omega) (by omega) ((hI.bel.cell hMB).trans hm)).mono ?_
  rintro e w8 ⟨x3, rfl, hx3, hxs3, hb8⟩
  replace hI := hI.on hb8
  have HX3 := Lib.hid hx3
  clear hb8 hx3
  go_upto_region 5 with fail
  obtain ⟨U, hU⟩ : ∃ U, U = (decide (fld (bl h) 257 5 = kUstar) && !(decide (x3.size = 0))) := ⟨_, rfl⟩
  have HU := Lib.hid hU; clear hU
  go_cut [37] (fun c wx => c = .bool U ∧ w8 = wx)
  case first =>
    by_cases hu : fld (bl h) 257 5 = kUstar
    · have C := Lib.hid (fun W => (hasPrefix_any (h.extract 257 h.size) ⟨#[117, 115, 116, 97, 114]⟩ W).mono fun e w' h => (show e = .returned (.bool true) ∧ W = w' by rw [ustar_iff, decide_eq_true hu] at h; exact h))
      by_cases h0 : x3.size = 0
      · have he := isEmpty_of h0
        go_wp2_with fail
        refine (C.out _).mono ?_
        rintro e w9 ⟨rfl, rfl⟩
        go_wp2_with fail
        go_meet
        exact ⟨by rw [HU.out]; simp [hu, h0], rfl⟩
      · have he := not_isEmpty_of (s := x3) (by omega)
        go_wp2_with fail
        refine (C.out _).mono ?_
        rintro e w9 ⟨rfl, rfl⟩
        go_wp2_with fail
        go_meet
        exact ⟨by rw [HU.out]; simp [hu, h0], rfl⟩
    · have C := Lib.hid (fun W => (hasPrefix_any (h.extract 257 h.size) ⟨#[117, 115, 116, 97, 114]⟩ W).mono fun e w' h => (show e = .returned (.bool false) ∧ W = w' by rw [ustar_iff, decide_eq_false hu] at h; exact h))
      go_wp2_with fail
      refine (C.out _).mono ?_
      rintro e w9 ⟨rfl, rfl⟩
      go_wp2_with fail
      go_meet
      exact ⟨by rw [HU.out]; simp [hu], rfl⟩
  case rest =>
  obtain ⟨rfl, rfl⟩ := hcut
  go_upto_if 37 with fail
  go_cut [] (fun wx => ∃ nm : ByteArray, bl nm = nameM (bl h) ∧ nm.size ≤ 256 ∧ MemI w nm x2 dt kind mode size time wx)
  case first =>
    have c0 := hI.c0
    have ff := hI.ff
    have hx1s : x1.size ≤ 100 := hxs1
    have hx3s : x3.size ≤ 155 := hxs3
    rcases U with _ | _
    · have hN : bl x1 = nameM (bl h) := by
        unfold nameM
        have hu := HU.out
        rw [← HX3.out, ← HX1.out, if_neg]
        rintro ⟨h1, h2⟩
        have h3 : x3.size ≠ 0 := fun e => h2 (bl_eq_nil e)
        simp [h1, h3] at hu
      go_wp2_with fail
      go_meet
      exact ⟨x1, hN, by omega, hI⟩
    · have hN : bl (x3 ++ ⟨#[47]⟩ ++ x1) = nameM (bl h) := by
        unfold nameM
        have hu := HU.out
        have h' : fld (bl h) 257 5 = kUstar ∧ ¬ x3.size = 0 := by simpa using hu.symm
        rw [bl_append, bl_append, ← HX3.out, ← HX1.out, if_pos ⟨h'.1, bl_ne_nil (by omega)⟩]
        simp [bl]
      have HNN := Lib.hid hN
      have hI3 := hI.name (x3 ++ ⟨#[47]⟩ ++ x1)
      have HI3 := Lib.hid hI3
      clear hI hN hI3
      go_wp2_with fail
      go_meet
      exact ⟨_, HNN.out, by rw [ByteArray.size_append, ByteArray.size_append, show (⟨#[47]⟩ : ByteArray).size = 1 from rfl]; omega, HI3.out⟩
  case rest =>
  obtain ⟨nm, hnm, hns, hI3⟩ := hcut
  have HNM := Lib.hid hnm
  clear hnm hI
  go_upto_region 7 with fail
  have r2 : wc.cell? ⟨g, 2, none⟩ = some n0 := (hI3.bel.cell hgl).trans (HRC.out 2 _ rfl)
  have r10 : wc.cell? ⟨g, 10, none⟩ = some lo := (hI3.bel.cell hgl).trans (HRC.out 10 _ rfl)
  have r6 : wc.cell? ⟨g, 6, none⟩ = some a0 := (hI3.bel.cell hgl).trans (HRC.out 6 _ rfl)
  obtain ⟨v1, hv1, C1⟩ := over_val HL.out HA.out.path
  obtain ⟨v2, hv2, C2⟩ := over_val HN.out.path hv1
  have HC1 := Lib.hid C1
  have HC2 := Lib.hid C2
  have HV2 := Lib.hid hv2
  clear C1 C2 hv1 hv2
  go_quiet ((first | exact Calls.quiet_of_same (HC1.out _) | exact Calls.quiet_of_same (HC2.out _)))
  go_upto_region 8 with fail
  have hI4 := hI3.drewN nq
  clear hI3
  generalize wc.drewN nq = wd at hI4 ⊢
  go_cut [62] (fun c wx => c = .bool (overM st.next.path (overM st.long st.all.path)).isSome ∧ wd = wx)
  case first =>
    rcases HV2.out.form with ⟨ho, rfl⟩ | ⟨b, off, r, ho, rfl, hc, _⟩
    · have HO := Lib.hid ho; clear ho
      go_wp2_with fail
      go_meet
      exact ⟨by rw [HO.out]; rfl, rfl⟩
    · have HO := Lib.hid ho; clear ho hc
      go_wp2_with fail
      go_meet
      exact ⟨by rw [HO.out]; rfl, rfl⟩
  case rest =>
  obtain ⟨rfl, rfl⟩ := hcut
  go_upto_if 62 with fail
  go_cut [] (fun wx => ∃ nm : ByteArray, bl nm = (overM st.next.path (overM st.long st.all.path)).getD (nameM (bl h)) ∧ MemI w nm x2 dt kind mode size time wx)
  case first =>
    have c0 := hI4.c0
    have ff := hI4.ff
    rcases HV2.out.form with ⟨ho, rfl⟩ | ⟨b, off, r, ho, rfl, hc, _⟩
    · rw [ho]
      have HO := Lib.hid ho; clear ho
      go_wp2_with fail
      go_meet
      exact ⟨nm, by rw [HO.out]; exact HNM.out, hI4⟩
    · rw [ho]
      have HO := Lib.hid ho; clear ho
      have hc' := (hI4.bel.cell (World.block_lt_of_cell? _ _ hc)).trans hc
      have HI4 := Lib.hid (hI4.name r)
      clear hI4 hc
      go_wp2_with fail
      go_meet
      exact ⟨r, by rw [HO.out]; rfl, HI4.out⟩
  case rest =>
  obtain ⟨nm2, hnm2, hI5⟩ := hcut
  have HNM2 := Lib.hid hnm2
  clear hnm2 hI4
  go_upto_region 10 with fail
  have r3 : wc.cell? ⟨g, 3, none⟩ = some n1 := (hI5.bel.cell hgl).trans (HRC.out 3 _ rfl)
  have r7 : wc.cell? ⟨g, 7, none⟩ = some a1 := (hI5.bel.cell hgl).trans (HRC.out 7 _ rfl)
  obtain ⟨v3, hv3, C3⟩ := over_val HN.out.link HA.out.link
  have HC3 := Lib.hid C3
  have HV3 := Lib.hid hv3
  clear C3 hv3 HC1 HC2
  go_quiet ((exact Calls.quiet_of_same (HC3.out _)))
  go_upto_region 11 with fail
  have hI6 := hI5.drewN nq
  clear hI5
  generalize wc.drewN nq = we at hI6 ⊢
  go_cut [80] (fun c wx => c = .bool (overM st.next.link st.all.link).isSome ∧ we = wx)
  case first =>
    rcases HV3.out.form with ⟨ho, rfl⟩ | ⟨b, off, r, ho, rfl, hc, _⟩
    · have HO := Lib.hid ho; clear ho
      go_wp2_with fail
      go_meet
      exact ⟨by rw [HO.out]; rfl, rfl⟩
    · have HO := Lib.hid ho; clear ho hc
      go_wp2_with fail
      go_meet
      exact ⟨by rw [HO.out]; rfl, rfl⟩
  case rest =>
  obtain ⟨rfl, rfl⟩ := hcut
  go_upto_if 80 with fail
  go_cut [] (fun wx => ∃ lk : ByteArray, bl lk = (overM st.next.link st.all.link).getD (takeTo 0 (fld (bl h) 157 100)) ∧ MemI w nm2 lk dt kind mode size time wx)
  case first =>
    have c1 := hI6.c1
    have ff := hI6.ff
    rcases HV3.out.form with ⟨ho, rfl⟩ | ⟨b, off, r, ho, rfl, hc, _⟩
    · rw [ho]
      have HO := Lib.hid ho; clear ho
      go_wp2_with fail
      go_meet
      exact ⟨x2, by rw [HO.out]; exact HX2.out, hI6⟩
    · rw [ho]
      have HO := Lib.hid ho; clear ho
      have hc' := (hI6.bel.cell (World.block_lt_of_cell? _ _ hc)).trans hc
      have HI6 := Lib.hid (hI6.link r)
      clear hI6 hc
      go_wp2_with fail
      go_meet
      exact ⟨r, by rw [HO.out]; rfl, HI6.out⟩
  case rest =>
  obtain ⟨lk2, hlk2, hI7⟩ := hcut
  have HLK2 := Lib.hid hlk2
  clear hlk2 hI6
  by_cases hlong : 256 < nm2.size ∨ 256 < lk2.size
  · have HM := Lib.hid (show memberM st kind mode size time (bl dt) (bl h) p = .error (2, p) by
      unfold memberM; rw [if_neg HMM.out, ← HNM2.out, ← HLK2.out, bl_length, bl_length, if_pos hlong])
    have c0 := hI7.c0
    have c1 := hI7.c1
    have d0 := hI7.d0
    have d1 := hI7.d1
    have fq := hI7.fq
    have hBe : Below w.heap.size w wc := hI7.bel
    have hlt := hI7.lt
    clear hI7
    have hl2 : 256 < nm2.size ∨ (nm2.size ≤ 256 ∧ 256 < lk2.size) := by omega
    clear hlong
    rcases hl2 with hl | ⟨hl, hl'⟩
    all_goals
      go_wp2_with fail
      refine bodyPost_ret (v := .agg #[.int .i64 2, .int .i64 p]) (by simp [results, Tryd.results42, go_sem, d0, d1]) rfl ?_
      have hBf := (hBe.setCell (p := ⟨w.heap.size + 1, 0, none⟩) (by show w.heap.size ≤ w.heap.size + 1; omega) (.int .i64 2)).setCell (p := ⟨w.heap.size + 1, 1, none⟩) (by show w.heap.size ≤ w.heap.size + 1; omega) (.int .i64 p)
      exact StepR.err HM.out (by decide) rfl rfl (hBf.mono (by omega)) (KeepF.below hBf)
  have hs1 : nm2.size ≤ 256 := by omega
  have hs2 : lk2.size ≤ 256 := by omega
  have hm1 : ∀ dd : Bs, dd = (if kind = 48 then bl dt else []) → memberM st kind mode size time (bl dt) (bl h) p = .ok { st with next := noTold, long := none, files := st.files ++ [⟨bl nm2, bl lk2, kind, mode, size, time, dd⟩] } := by
    intro dd hdd
    unfold memberM; rw [if_neg HMM.out, ← HNM2.out, ← HLK2.out, bl_length, bl_length, if_neg hlong, hdd]
  have HM1 := Lib.hid hm1
  clear hm1 hlong
  have c0 := hI7.c0
  have c1 := hI7.c1
  have c2 := hI7.c2
  go_upto_if 99 with fail
  go_cut [] (fun wx => ∃ d : ByteArray, bl d = (if kind = 48 then bl dt else []) ∧ MemI w nm2 lk2 d kind mode size time wx)
  case first =>
    have c6 := hI7.c6
    have ff := hI7.ff
    by_cases hk : kind = 48
    · have hkb : ((kind.toNat : Int) != 48) = false := by rw [hk]; rfl
      have HK := Lib.hid hk; clear hk
      go_wp2_with fail
      go_meet
      exact ⟨dt, by rw [if_pos HK.out], hI7⟩
    · have hkb : ((kind.toNat : Int) != 48) = true := bne_iff_ne.2 fun e => hk (byte_eq (d := 48) e)
      have HK := Lib.hid hk; clear hk
      have HI7 := Lib.hid (hI7.data ⟨#[]⟩)
      clear hI7
      go_wp2_with fail
      go_meet
      exact ⟨⟨#[]⟩, by rw [if_neg HK.out]; rfl, HI7.out⟩
  case rest =>
  obtain ⟨d, hd, hI8⟩ := hcut
  have HM2 := Lib.hid (HM1.out _ hd)
  clear hd hI7 c0 c1 c2 HM1
  have q2 : wc.cell? ⟨g, 2, none⟩ = some n0 := (hI8.bel.cell hgl).trans (HRC.out 2 _ rfl)
  have q3 : wc.cell? ⟨g, 3, none⟩ = some n1 := (hI8.bel.cell hgl).trans (HRC.out 3 _ rfl)
  have q4 : wc.cell? ⟨g, 4, none⟩ = some n2 := (hI8.bel.cell hgl).trans (HRC.out 4 _ rfl)
  have q5 : wc.cell? ⟨g, 5, none⟩ = some n3 := (hI8.bel.cell hgl).trans (HRC.out 5 _ rfl)
  have q10 : wc.cell? ⟨g, 10, none⟩ = some lo := (hI8.bel.cell hgl).trans (HRC.out 10 _ rfl)
  have qf : ∀ i, wc.frozen? ⟨g, i, none⟩ = false := fun i => (hI8.bel.frozen hgl).trans (HRF.out i)
  have hRs := (HR.out.kept (grown_below hI8.bel)).reset
  have hfs : (((((wc.setCell ⟨g, 2, none⟩ (.slice none 0 0)).setCell ⟨g, 3, none⟩ (.slice none 0 0)).setCell ⟨g, 4, none⟩ (.slice none 0 0)).setCell ⟨g, 5, none⟩ (.slice none 0 0)).setCell ⟨g, 10, none⟩ (.slice none 0 0)).heap[w.heap.size]? = _ :=
    (Below.heap_setCell _ _ _ _ (by show w.heap.size ≠ g; omega)).trans ((Below.heap_setCell _ _ _ _ (by show w.heap.size ≠ g; omega)).trans ((Below.heap_setCell _ _ _ _ (by show w.heap.size ≠ g; omega)).trans ((Below.heap_setCell _ _ _ _ (by show w.heap.size ≠ g; omega)).trans ((Below.heap_setCell _ _ _ _ (by show w.heap.size ≠ g; omega)).trans hI8.f))))
  have hqs : (((((wc.setCell ⟨g, 2, none⟩ (.slice none 0 0)).setCell ⟨g, 3, none⟩ (.slice none 0 0)).setCell ⟨g, 4, none⟩ (.slice none 0 0)).setCell ⟨g, 5, none⟩ (.slice none 0 0)).setCell ⟨g, 10, none⟩ (.slice none 0 0)).heap[w.heap.size + 1]? = _ :=
    (Below.heap_setCell _ _ _ _ (by show w.heap.size + 1 ≠ g; omega)).trans ((Below.heap_setCell _ _ _ _ (by show w.heap.size + 1 ≠ g; omega)).trans ((Below.heap_setCell _ _ _ _ (by show w.heap.size + 1 ≠ g; omega)).trans ((Below.heap_setCell _ _ _ _ (by show w.heap.size + 1 ≠ g; omega)).trans ((Below.heap_setCell _ _ _ _ (by show w.heap.size + 1 ≠ g; omega)).trans hI8.q))))
  have hBs : Below B w (((((wc.setCell ⟨g, 2, none⟩ (.slice none 0 0)).setCell ⟨g, 3, none⟩ (.slice none 0 0)).setCell ⟨g, 4, none⟩ (.slice none 0 0)).setCell ⟨g, 5, none⟩ (.slice none 0 0)).setCell ⟨g, 10, none⟩ (.slice none 0 0)) :=
    (((((hI8.bel.mono (by omega)).setCell hBg _).setCell hBg _).setCell hBg _).setCell hBg _).setCell hBg _
  have hRT := (HR.out.kept (grown_below hI8.bel)).hasT
  have hKs := (((((KeepF.below hI8.bel).set hRT (by decide) 2 (.slice none 0 0)).set (hRT.set _ _ _) (by decide) 3 (.slice none 0 0)).set ((hRT.set _ _ _).set _ _ _) (by decide) 4 (.slice none 0 0)).set (((hRT.set _ _ _).set _ _ _).set _ _ _) (by decide) 5 (.slice none 0 0)).set ((((hRT.set _ _ _).set _ _ _).set _ _ _).set _ _ _) (by decide) 10 (.slice none 0 0)
  have r11c : wc.cell? ⟨g, 11, none⟩ = some (.slice ao st.files.length cap) := (hI8.bel.cell hgl).trans (HRC.out 11 _ rfl)
  have r11s : (((((wc.setCell ⟨g, 2, none⟩ (.slice none 0 0)).setCell ⟨g, 3, none⟩ (.slice none 0 0)).setCell ⟨g, 4, none⟩ (.slice none 0 0)).setCell ⟨g, 5, none⟩ (.slice none 0 0)).setCell ⟨g, 10, none⟩ (.slice none 0 0)).cell? ⟨g, 11, none⟩ = some (.slice ao st.files.length cap) := by go_simp
  go_upto_region 18 with fail
  revert hRs hfs hqs hBs hKs r11s
  generalize (((((wc.setCell ⟨g, 2, none⟩ (.slice none 0 0)).setCell ⟨g, 3, none⟩ (.slice none 0 0)).setCell ⟨g, 4, none⟩ (.slice none 0 0)).setCell ⟨g, 5, none⟩ (.slice none 0 0)).setCell ⟨g, 10, none⟩ (.slice none 0 0)) = wf
  intro hRs hfs hqs hBs hKs r11s
  clear hI8 q2 q3 q4 q5 q10 qf r11c
  have k0 : wf.cell? ⟨w.heap.size, 0, none⟩ = some (.string nm2) := by rw [cell_of_row _ _ _ _ _ _ hfs]; rfl
  have k1 : wf.cell? ⟨w.heap.size, 1, none⟩ = some (.string lk2) := by rw [cell_of_row _ _ _ _ _ _ hfs]; rfl
  have k2 : wf.cell? ⟨w.heap.size, 2, none⟩ = some (.int .u8 kind.toNat) := by rw [cell_of_row _ _ _ _ _ _ hfs]; rfl
  have k3 : wf.cell? ⟨w.heap.size, 3, none⟩ = some (.int .i64 mode) := by rw [cell_of_row _ _ _ _ _ _ hfs]; rfl
  have k4 : wf.cell? ⟨w.heap.size, 4, none⟩ = some (.int .i64 size) := by rw [cell_of_row _ _ _ _ _ _ hfs]; rfl
  have k5 : wf.cell? ⟨w.heap.size, 5, none⟩ = some (.int .i64 time) := by rw [cell_of_row _ _ _ _ _ _ hfs]; rfl
  have k6 : wf.cell? ⟨w.heap.size, 6, none⟩ = some (.string d) := by rw [cell_of_row _ _ _ _ _ _ hfs]; rfl
  have hgf := hRs.lt
  obtain ⟨i0, hi, hz0, hz1, hz2⟩ := info_parts info36
  have hown := hRs.files_of r11s
  have hle : st.files.length ≤ 1023 := by have := HMM.out; omega
  go_region_law (refine step_push rfl (.tmp 112) (.tmp 114) 23 rfl B 36 i0 _ 7 80 Tryd.underlying23 hi hz0 hz1 hz2 rfl (by decide) (.slice ao st.files.length cap) st.files.length (filesCells st.files) (by simp [Act.eval]) (hown.alloc _) ⟨wf.heap.size, 0, none⟩ 1 1 [.string nm2, .string lk2, .int .u8 kind.toNat, .int .i64 mode, .int .i64 size, .int .i64 time, .string d] (by simp [Act.eval]) rfl (new_cells _ [_, _, _, _, _, _, _] _ _ rfl) (by intro u hu; simp at hu; rcases hu with rfl | rfl | rfl | rfl | rfl | rfl | rfl <;> rfl) (by unfold maxLen; omega) (by omega) (by simp; omega) ?_; intro v' w' hown' hgr' _; obtain ⟨⟨g2, c2, rfl⟩, k11, kf, kq, kne, kR, kB, kK⟩ := push_facts (f := ⟨bl nm2, bl lk2, kind, mode, size, time, bl d⟩) hRs r11s hqs hBs (by omega) (by omega) hKs (by omega) hown' hgr')
  all_goals
    have z0 : w'.cell? ⟨w.heap.size + 1, 0, none⟩ = some (.int .i64 0) := by rw [cell_of_row _ _ _ _ _ _ kq]; rfl
    have z1 : w'.cell? ⟨w.heap.size + 1, 1, none⟩ = some (.int .i64 0) := by rw [cell_of_row _ _ _ _ _ _ kq]; rfl
    have zf : ∀ i, w'.frozen? ⟨w.heap.size + 1, i, none⟩ = false := fun i => by simp [World.frozen?, kq]
    have HK := Lib.hid (StepR.fine (B := B) (g := g) (s := s) (at_ := at_) HM2.out kR kB kK)
    clear kR kB kK kq hown' hgr' hown hRs hfs hqs hBs r11s k0 k1 k2 k3 k4 k5 k6
    go_wp2_with fail
    refine bodyPost_ret (v := .agg #[.int .i64 0, .int .i64 0]) (by simp [results, Tryd.results42, go_sem, z0, z1]) rfl ?_
    first | exact HK.out | exact HK.out.cast (by go_simp)
end Tp
end Go.Proofs.YtiehjmjobcklmaaDoor
