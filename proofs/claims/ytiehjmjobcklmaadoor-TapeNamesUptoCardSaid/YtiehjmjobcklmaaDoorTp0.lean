import Derived.Below
import Derived.Lib.IndexMore
namespace Go.Proofs.YtiehjmjobcklmaaDoor
open Go.RowKit
namespace Tp
abbrev Bs := List UInt8
def bl (s : ByteArray) : Bs := s.data.toList
theorem bl_length (s : ByteArray) : (bl s).length = s.size := by simp [bl]
theorem bl_drop (s : ByteArray) (k : Nat) (h : k < s.size) : (bl s).drop k = s[k] :: (bl s).drop (k + 1) := by
  unfold bl
  rw [List.drop_eq_getElem_cons (by simpa using h)]; rfl
theorem bl_drop_end (s : ByteArray) (k : Nat) (h : s.size ≤ k) : (bl s).drop k = [] := by
  rw [List.drop_eq_nil_iff, bl_length]; exact h
theorem bl_extract (s : ByteArray) (a b : Nat) : bl (s.extract a b) = ((bl s).drop a).take (b - a) := by
  simp [bl, ByteArray.data_extract, Array.toList_extract, List.extract_eq_take_drop]
def digLoop (n : Nat) : Bs → Option Nat
  | [] => some n
  | c :: l => if c.toNat < 48 ∨ 57 < c.toNat then none else digLoop (10 * n + (c.toNat - 48)) l
def digits (l : Bs) (most : Nat) : Option Nat := if l.length < 1 ∨ most < l.length then none else digLoop 0 l
def binLoop (n : Nat) : Bs → Option Nat
  | [] => some n
  | c :: l => if 1099511627776 < 256 * n + c.toNat then none else binLoop (256 * n + c.toNat) l
def blank (l : Bs) : Bool := l.all fun c => c == 32 || c == 0
def octLoop (n : Nat) : Bs → Option Nat
  | [] => some n
  | c :: l => if 48 ≤ c.toNat ∧ c.toNat ≤ 55 then (if 1099511627776 < 8 * n + (c.toNat - 48) then none else octLoop (8 * n + (c.toNat - 48)) l)
      else if blank (c :: l) then some n else none
def number : Bs → Option Nat
  | [] => none
  | c :: l => if 128 ≤ c.toNat then binLoop (c.toNat - 128) l else octLoop 0 ((c :: l).dropWhile (· == 32))
def sp (l : Bs) : Bs := l.dropWhile (· == 32)
def takeTo (c : UInt8) (l : Bs) : Bs := l.takeWhile (· != c)
theorem number_nil {s : ByteArray} (h : s.size = 0) : number (bl s) = none := by
  have : bl s = [] := List.eq_nil_of_length_eq_zero (by rw [bl_length]; exact h)
  rw [this]; rfl
theorem bl_cons {s : ByteArray} (h : 0 < s.size) : bl s = s[0] :: (bl s).drop 1 := by
  have := bl_drop s 0 h; simpa using this
theorem number_bin {s : ByteArray} (h : 0 < s.size) (h8 : 128 ≤ s[0].toNat) : number (bl s) = binLoop (s[0].toNat - 128) ((bl s).drop 1) := by
  rw [bl_cons h, number, if_pos h8]; rfl
theorem number_oct {s : ByteArray} (h : 0 < s.size) (h8 : s[0].toNat < 128) : number (bl s) = octLoop 0 (sp (bl s)) := by
  conv => lhs; rw [bl_cons h, number, if_neg (by omega), ← bl_cons h]
  rfl
theorem sp_step {s : ByteArray} {k : Nat} (h : k < s.size) (hc : s[k] = 32) : sp ((bl s).drop k) = sp ((bl s).drop (k + 1)) := by
  rw [bl_drop s k h]; simp [sp, hc]
theorem sp_stop {s : ByteArray} {k : Nat} (h : s.size ≤ k ∨ ∃ h : k < s.size, s[k] ≠ 32) : sp ((bl s).drop k) = (bl s).drop k := by
  rcases h with h | ⟨h, hc⟩
  · rw [bl_drop_end s k h]; rfl
  · rw [bl_drop s k h]; simp [sp, hc]
theorem oct_step {s : ByteArray} {k n : Nat} (h : k < s.size) (h1 : 48 ≤ s[k].toNat) (h2 : s[k].toNat ≤ 55) (h3 : 8 * n + (s[k].toNat - 48) ≤ 1099511627776) :
    octLoop n ((bl s).drop k) = octLoop (8 * n + (s[k].toNat - 48)) ((bl s).drop (k + 1)) := by
  rw [bl_drop s k h, octLoop, if_pos ⟨h1, h2⟩, if_neg (by omega)]
theorem oct_over {s : ByteArray} {k n : Nat} (h : k < s.size) (h1 : 48 ≤ s[k].toNat) (h2 : s[k].toNat ≤ 55) (h3 : 1099511627776 < 8 * n + (s[k].toNat - 48)) :
    octLoop n ((bl s).drop k) = none := by
  rw [bl_drop s k h, octLoop, if_pos ⟨h1, h2⟩, if_pos (by omega)]
theorem oct_stop {s : ByteArray} {k n : Nat} (h : s.size ≤ k ∨ ∃ h : k < s.size, (s[k].toNat < 48 ∨ 55 < s[k].toNat)) :
    octLoop n ((bl s).drop k) = if blank ((bl s).drop k) then some n else none := by
  rcases h with h | ⟨h, hc⟩
  · rw [bl_drop_end s k h]; rfl
  · rw [bl_drop s k h, octLoop, if_neg (by omega)]
theorem blank_step {s : ByteArray} {k : Nat} (h : k < s.size) (hc : s[k] = 32 ∨ s[k] = 0) : blank ((bl s).drop k) = blank ((bl s).drop (k + 1)) := by
  rw [bl_drop s k h]; unfold blank; rcases hc with hc | hc <;> simp [hc]
theorem blank_bad {s : ByteArray} {k : Nat} (h : k < s.size) (hc : s[k] ≠ 32) (hc' : s[k] ≠ 0) : blank ((bl s).drop k) = false := by
  rw [bl_drop s k h]; unfold blank; simp [hc, hc']
theorem blank_end {s : ByteArray} {k : Nat} (h : s.size ≤ k) : blank ((bl s).drop k) = true := by
  rw [bl_drop_end s k h]; rfl
theorem bin_step {s : ByteArray} {k n : Nat} (h : k < s.size) (h3 : 256 * n + s[k].toNat ≤ 1099511627776) :
    binLoop n ((bl s).drop k) = binLoop (256 * n + s[k].toNat) ((bl s).drop (k + 1)) := by
  rw [bl_drop s k h, binLoop, if_neg (by omega)]
theorem bin_over {s : ByteArray} {k n : Nat} (h : k < s.size) (h3 : 1099511627776 < 256 * n + s[k].toNat) :
    binLoop n ((bl s).drop k) = none := by
  rw [bl_drop s k h, binLoop, if_pos (by omega)]
theorem bin_end {s : ByteArray} {k n : Nat} (h : s.size ≤ k) : binLoop n ((bl s).drop k) = some n := by
  rw [bl_drop_end s k h]; rfl
theorem byte_eq {c d : UInt8} (h : (c.toNat : Int) = d.toNat) : c = d := UInt8.toNat_inj.1 (by omega)
theorem takeTo_take (s : ByteArray) (c : UInt8) (k : Nat) (h : k < s.size) (hb : ∀ j (hj : j < k), s[j]'(by omega) ≠ c) (hc : s[k] = c) : bl (s.extract 0 k) = takeTo c (bl s) := by
  rw [bl_extract]
  simp only [List.drop_zero, Nat.sub_zero]
  induction k generalizing s with
  | zero => rw [bl_cons h]; simp [takeTo, hc]
  | succ k ih =>
    have h0 : 0 < s.size := by omega
    have e := bl_cons h0
    have h1 := hb 0 (by omega)
    have hs : (s.extract 1 s.size).size = s.size - 1 := by simp
    have hx : ∀ j (hj : j + 1 < s.size), (s.extract 1 s.size)[j]'(by omega) = s[j + 1] := by
      intro j hj
      simp [ByteArray.getElem_extract, Nat.add_comm]
    have hd : bl (s.extract 1 s.size) = (bl s).drop 1 := by
      rw [bl_extract, List.take_of_length_le]
      simp [bl_length]
    have := ih (s.extract 1 s.size) (by omega) (fun j hj => by rw [hx j (by omega)]; exact hb (j + 1) (by omega)) (by rw [hx k (by omega)]; exact hc)
    rw [hd] at this
    rw [e, List.take_succ_cons, takeTo, List.takeWhile_cons, if_pos (by simpa using h1)]
    rw [this]; rfl
theorem takeWhile_all {p : UInt8 → Bool} : ∀ l : Bs, (∀ x ∈ l, p x = true) → l.takeWhile p = l
  | [], _ => rfl
  | x :: l, h => by rw [List.takeWhile_cons, if_pos (h x (by simp)), takeWhile_all l fun y hy => h y (by simp [hy])]
theorem takeTo_all (s : ByteArray) (c : UInt8) (hb : ∀ j (hj : j < s.size), s[j] ≠ c) : bl s = takeTo c (bl s) := by
  refine (takeWhile_all _ fun x hx => ?_).symm
  obtain ⟨j, hj, rfl⟩ := List.getElem_of_mem hx
  rw [bl_length] at hj
  have h1 : (bl s)[j]'(by rw [bl_length]; exact hj) = s[j] := by simp only [bl]; rfl
  rw [h1]
  simpa using hb j hj
theorem takeTo_len (c : UInt8) (l : Bs) : (takeTo c l).length ≤ l.length := (List.takeWhile_sublist _).length_le
theorem digLoop_lt (l : Bs) : ∀ n m : Nat, digLoop n l = some m → m < (n + 1) * 10 ^ l.length := by
  induction l with
  | nil => intro n m h; simp [digLoop] at h; subst h; simp
  | cons c l ih =>
    intro n m h
    simp only [digLoop] at h
    split at h
    · cases h
    · have := ih _ _ h
      refine Nat.lt_of_lt_of_le this ?_
      rw [List.length_cons, Nat.pow_succ, Nat.mul_comm (10 ^ l.length) 10, ← Nat.mul_assoc]
      exact Nat.mul_le_mul_right _ (by omega)

def str (l : Bs) : Value := .string ⟨l.toArray⟩
theorem str_bl (r : ByteArray) : Value.string r = str (bl r) := rfl
theorem bl_ne_nil {s : ByteArray} (h : 0 < s.size) : bl s ≠ [] := by
  intro e; have := bl_length s; rw [e] at this; simp at this; omega
theorem bl_eq_nil {s : ByteArray} (h : s.size = 0) : bl s = [] := List.eq_nil_of_length_eq_zero (by rw [bl_length]; exact h)
theorem bl_get {s : ByteArray} {k : Nat} (h : k < s.size) : (bl s)[k]? = some s[k] := by
  rw [List.getElem?_eq_getElem (by rw [bl_length]; exact h)]; rfl
theorem bl_head {s : ByteArray} (h : 0 < s.size) : (bl s).head? = some s[0] := by
  rw [bl_cons h]; rfl

theorem indexByte_takeTo : ∀ (l : Bs) (c : UInt8), Lib.indexByte l c = if (takeTo c l).length < l.length then ((takeTo c l).length : Int) else -1
  | [], c => rfl
  | x :: l, c => by
    have ih := indexByte_takeTo l c
    have hle := takeTo_len c l
    unfold Lib.indexByte
    by_cases h : x = c
    · subst h; simp [takeTo]
    · have h' : (x == c) = false := by simpa using h
      have ht : takeTo c (x :: l) = x :: takeTo c l := by simp [takeTo, h]
      rw [ht, ih]
      by_cases hl : (takeTo c l).length < l.length <;> simp [h', hl] <;> omega
theorem take_takeTo : ∀ (l : Bs) (c : UInt8), l.take (takeTo c l).length = takeTo c l
  | [], c => rfl
  | x :: l, c => by
    by_cases h : x = c
    · subst h; simp [takeTo]
    · have ht : takeTo c (x :: l) = x :: takeTo c l := by simp [takeTo, h]
      rw [ht, List.length_cons, List.take_succ_cons, take_takeTo l c]

def recStep (l : Bs) : Option (Bs × Bs × Nat) :=
  match digits (takeTo 32 l) 9 with
  | none => none
  | some n =>
    if (takeTo 32 l).head? = some 48 ∨ l.length < n ∨ n < (takeTo 32 l).length + 2 ∨ l[n - 1]? ≠ some 10 then none
    else if (takeTo 61 ((l.take (n - 1)).drop ((takeTo 32 l).length + 1))).length = ((l.take (n - 1)).drop ((takeTo 32 l).length + 1)).length ∨ takeTo 61 ((l.take (n - 1)).drop ((takeTo 32 l).length + 1)) = [] then none
    else some (takeTo 61 ((l.take (n - 1)).drop ((takeTo 32 l).length + 1)), ((l.take (n - 1)).drop ((takeTo 32 l).length + 1)).drop ((takeTo 61 ((l.take (n - 1)).drop ((takeTo 32 l).length + 1))).length + 1), n)
abbrev Rec := Bs × Bs
def records : Nat → Bs → List Rec → Option (List Rec)
  | _, [], acc => some acc
  | 0, _ :: _, _ => none
  | f + 1, c :: l, acc => match recStep (c :: l) with
    | none => none
    | some (k, v, n) => records f ((c :: l).drop n) (acc ++ [(k, v)])
theorem records_nil (f : Nat) (acc : List Rec) : records f [] acc = some acc := by cases f <;> rfl
theorem records_none {f : Nat} {l : Bs} {acc : List Rec} (hl : 0 < l.length) (h : recStep l = none) : records f l acc = none := by
  cases l with
  | nil => simp at hl
  | cons c l => cases f with
    | zero => rfl
    | succ f => simp only [records, h]
theorem records_some {f : Nat} {l : Bs} {acc : List Rec} {k v : Bs} {n : Nat} (hl : 0 < l.length) (hf : l.length ≤ f) (h : recStep l = some (k, v, n)) :
    ∃ f', f = f' + 1 ∧ records f l acc = records f' (l.drop n) (acc ++ [(k, v)]) := by
  cases l with
  | nil => simp at hl
  | cons c l => cases f with
    | zero => simp at hf
    | succ f => exact ⟨f, rfl, by simp only [records, h]⟩
def recCells (rs : List Rec) : List Value := rs.flatMap fun r => [str r.1, str r.2]
theorem recCells_snoc (rs : List Rec) (r : Rec) : recCells (rs ++ [r]) = recCells rs ++ [str r.1, str r.2] := by simp [recCells]

theorem bl_mid (q : ByteArray) (a b : Nat) : bl (q.extract a b) = ((bl q).take b).drop a := by
  rw [bl_extract, List.drop_take]
theorem bl_tail (q : ByteArray) (n : Nat) : bl (q.extract n q.size) = (bl q).drop n := by
  rw [bl_extract, List.take_of_length_le (by simp [bl_length])]
theorem recStep_digits {q a : ByteArray} (ha : bl a = takeTo 32 (bl q)) (hd : digits (bl a) 9 = none) : recStep (bl q) = none := by
  unfold recStep; rw [← ha, hd]
theorem recStep_no {q a : ByteArray} {n : Nat} (ha : bl a = takeTo 32 (bl q)) (hd : digits (bl a) 9 = some n) (h1 : 0 < a.size)
    (h : a[0] = 48 ∨ q.size < n ∨ n < a.size + 2 ∨ (∃ h : n - 1 < q.size, q[n - 1] ≠ 10)) : recStep (bl q) = none := by
  unfold recStep; rw [← ha, hd]
  dsimp only
  rw [if_pos]
  rw [bl_head h1, bl_length, bl_length]
  rcases h with h | h | h | ⟨h, h'⟩
  · exact .inl (by rw [h])
  · exact .inr (.inl h)
  · exact .inr (.inr (.inl h))
  · exact .inr (.inr (.inr (by rw [bl_get h]; simpa using h')))
theorem recStep_yes {q a k : ByteArray} {n : Nat} (ha : bl a = takeTo 32 (bl q)) (hd : digits (bl a) 9 = some n) (h1 : 0 < a.size)
    (h48 : a[0] ≠ 48) (hn : n ≤ q.size) (hn2 : a.size + 2 ≤ n) (h10 : q[n - 1]'(by omega) = 10) (hk : bl k = takeTo 61 (bl (q.extract (a.size + 1) (n - 1)))) :
    recStep (bl q) = if k.size = (q.extract (a.size + 1) (n - 1)).size ∨ k.size = 0 then none else some (bl k, (bl (q.extract (a.size + 1) (n - 1))).drop (k.size + 1), n) := by
  unfold recStep; rw [← ha, hd]
  dsimp only
  rw [if_neg, bl_length, ← bl_mid, ← hk, bl_length, bl_length]
  · by_cases hz : k.size = 0
    · rw [if_pos (.inr (bl_eq_nil hz)), if_pos (.inr hz)]
    · have hz' := bl_ne_nil (s := k) (by omega)
      by_cases he : k.size = (q.extract (a.size + 1) (n - 1)).size
      · rw [if_pos (.inl he), if_pos (.inl he)]
      · rw [if_neg (fun h => h.elim he hz'), if_neg (fun h => h.elim he hz)]
  · rw [bl_head h1, bl_length, bl_length]
    rintro (h | h | h | h)
    · exact h48 (by simpa using h)
    · omega
    · omega
    · rw [bl_get (show n - 1 < q.size by omega)] at h; exact h (by rw [h10])

theorem takeTo_size {k x : ByteArray} {c : UInt8} (hk : bl k = takeTo c (bl x)) : k.size ≤ x.size := by
  have h := takeTo_len c (bl x)
  rw [← hk, bl_length, bl_length] at h; exact h
theorem ba_of_bl {l : Bs} : ∃ r : ByteArray, bl r = l := ⟨⟨l.toArray⟩, by simp [bl]⟩
theorem recStep_short {q a : ByteArray} {n : Nat} (ha : bl a = takeTo 32 (bl q)) (hd : digits (bl a) 9 = some n) (h1 : 0 < a.size) (hn4 : n < a.size + 4) : recStep (bl q) = none := by
  by_cases h48 : a[0] = 48
  · exact recStep_no ha hd h1 (.inl h48)
  by_cases hn : q.size < n
  · exact recStep_no ha hd h1 (.inr (.inl hn))
  by_cases hn2 : n < a.size + 2
  · exact recStep_no ha hd h1 (.inr (.inr (.inl hn2)))
  by_cases h10 : q[n - 1]'(by omega) = 10
  · obtain ⟨k, hk⟩ := ba_of_bl (l := takeTo 61 (bl (q.extract (a.size + 1) (n - 1))))
    rw [recStep_yes ha hd h1 h48 (by omega) (by omega) h10 hk, if_pos]
    have h := takeTo_size hk
    have hs : (q.extract (a.size + 1) (n - 1)).size ≤ 1 := by simp; omega
    omega
  · exact recStep_no ha hd h1 (.inr (.inr (.inr ⟨by omega, h10⟩)))
theorem recStep_whole {q a : ByteArray} (ha : bl a = takeTo 32 (bl q)) (h1 : 0 < q.size) (hw : ¬ a.size < q.size) : recStep (bl q) = none := by
  rcases hd : digits (bl a) 9 with _ | n
  · exact recStep_digits ha hd
  · have h := takeTo_size ha
    by_cases hn : q.size < n
    · exact recStep_no ha hd (by omega) (.inr (.inl hn))
    · exact recStep_no ha hd (by omega) (.inr (.inr (.inl (by omega))))
theorem extract_get (s : ByteArray) (a b i : Nat) (h : i < (s.extract a b).size) : (s.extract a b)[i] = s[a + i]'(by simp at h; omega) := by
  simp [ByteArray.getElem_extract]

def toldM (rs : List Rec) (k : Bs) : Option Bs := (rs.reverse.find? (fun r => r.1 == k)).map (·.2)
theorem toldM_nil (k : Bs) : toldM [] k = none := rfl
theorem toldM_snoc (rs : List Rec) (r : Rec) (k : Bs) : toldM (rs ++ [r]) k = if r.1 = k then some r.2 else toldM rs k := by
  unfold toldM
  rw [List.reverse_append, List.reverse_singleton, List.singleton_append, List.find?_cons]
  by_cases h : r.1 = k
  · simp [h]
  · have h' : (r.1 == k) = false := by simpa using h
    simp [h, h']
theorem toldM_hit {rs : List Rec} {j : Nat} (h : j < rs.length) {k : Bs} (hk : rs[j].1 = k) : toldM (rs.take (j + 1)) k = some rs[j].2 := by
  rw [List.take_succ_eq_append_getElem h, toldM_snoc, if_pos hk]
theorem toldM_miss {rs : List Rec} {j : Nat} (h : j < rs.length) {k : Bs} (hk : rs[j].1 ≠ k) : toldM (rs.take (j + 1)) k = toldM (rs.take j) k := by
  rw [List.take_succ_eq_append_getElem h, toldM_snoc, if_neg hk]
theorem recCells_get : ∀ {rs : List Rec} {j : Nat} (h : j < rs.length), (recCells rs)[2 * j]? = some (str rs[j].1) ∧ (recCells rs)[2 * j + 1]? = some (str rs[j].2)
  | r :: rs, 0, h => by simp [recCells]
  | r :: rs, j + 1, h => by
    have ih := recCells_get (rs := rs) (j := j) (by simpa using h)
    have e : recCells (r :: rs) = str r.1 :: str r.2 :: recCells rs := by simp [recCells]
    rw [e, show 2 * (j + 1) = 2 * j + 1 + 1 from by omega, List.getElem?_cons_succ, List.getElem?_cons_succ, List.getElem?_cons_succ, List.getElem?_cons_succ]
    simpa using ih
theorem bl_inj {a b : ByteArray} (h : bl a = bl b) : a = b := by
  cases a; cases b; unfold bl at h; rw [Array.toList_inj] at h; simpa using h
end Tp
end Go.Proofs.YtiehjmjobcklmaaDoor
