/- Plain: an archive that is written, read again. -/
import Derived.Test.YtiehjmjobcklmaaDoorTpD
import Derived.Test.YtiehjmjobcklmaaDoorTpT
namespace Go.Proofs.YtiehjmjobcklmaaDoor
open Go.RowKit
namespace Tp
theorem layB_get {L s : Bs} {p n j : Nat} (h : p + n ≤ L.length) : (layB L p n s)[j]? = if j < p then L[j]? else if j < p + min n s.length then s[j - p]? else L[j]? := by
  unfold layB
  by_cases h1 : j < p
  · rw [if_pos h1, List.append_assoc, List.getElem?_append_left (by simp; omega), List.getElem?_take_of_lt h1]
  · rw [if_neg h1]
    by_cases h2 : j < p + min n s.length
    · rw [if_pos h2, List.append_assoc, List.getElem?_append_right (by simp; omega), List.getElem?_append_left (by simp; omega), List.getElem?_take_of_lt (by simp; omega)]
      congr 1; simp; omega
    · rw [if_neg h2, List.getElem?_append_right (by simp; omega), List.getElem?_drop]
      congr 1; simp; omega
theorem fld_get {L : Bs} {q m i : Nat} : (fld L q m)[i]? = if i < m then L[q + i]? else none := by
  unfold fld
  by_cases h : i < m
  · rw [if_pos h, List.getElem?_take_of_lt h, List.getElem?_drop]
  · rw [if_neg h, List.getElem?_eq_none (by simp; omega)]
theorem fld_other {L s : Bs} {p n q m : Nat} (h : p + n ≤ L.length) (hd : q + m ≤ p ∨ p + n ≤ q) : fld (layB L p n s) q m = fld L q m := by
  refine List.ext_getElem? fun i => ?_
  rw [fld_get, fld_get]
  by_cases hi : i < m
  · rw [if_pos hi, if_pos hi, layB_get h]
    by_cases h1 : q + i < p
    · rw [if_pos h1]
    · rw [if_neg h1, if_neg (by omega)]
  · rw [if_neg hi, if_neg hi]
theorem fld_same {L s : Bs} {p n : Nat} (h : p + n ≤ L.length) : fld (layB L p n s) p n = s.take n ++ fld L (p + min n s.length) (n - min n s.length) := by
  refine List.ext_getElem? fun i => ?_
  rw [fld_get]
  by_cases hi : i < n
  · rw [if_pos hi, layB_get h, if_neg (by omega)]
    by_cases h2 : p + i < p + min n s.length
    · rw [if_pos h2, List.getElem?_append_left (by simp; omega), List.getElem?_take_of_lt hi]; congr 1; omega
    · rw [if_neg h2, List.getElem?_append_right (by simp; omega), fld_get, if_pos (by simp; omega)]; congr 1; simp; omega
  · rw [if_neg hi, List.getElem?_eq_none (by simp [fld]; omega)]
theorem fld_zero (N q m : Nat) (h : q + m ≤ N) : fld (List.replicate N (0 : UInt8)) q m = List.replicate m 0 := by
  simp [fld, List.drop_replicate, List.take_replicate]; omega
theorem fld_sub {L : Bs} {q m a b : Nat} (h : a + b ≤ m) : fld L (q + a) b = fld (fld L q m) a b := by
  refine List.ext_getElem? fun i => ?_
  rw [fld_get, fld_get]
  by_cases hi : i < b
  · rw [if_pos hi, if_pos hi, fld_get, if_pos (by omega)]; congr 1; omega
  · rw [if_neg hi, if_neg hi]
theorem takeTo_pad {s : Bs} {k : Nat} (h : ∀ c ∈ s, c ≠ 0) : takeTo 0 (s ++ List.replicate k 0) = s := by
  unfold takeTo
  induction s with
  | nil => cases k <;> simp [List.replicate_succ]
  | cons c s ih => rw [List.cons_append, List.takeWhile_cons, if_pos (by simpa using h c (by simp)), ih fun x hx => h x (by simp [hx])]
def sumB : Bs → Nat
  | [] => 0
  | c :: l => c.toNat + sumB l
theorem sumB_append : ∀ (a b : Bs), sumB (a ++ b) = sumB a + sumB b
  | [], b => by simp [sumB]
  | c :: a, b => by rw [List.cons_append, sumB, sumB, sumB_append a b]; omega
theorem sumB_le : ∀ (l : Bs), sumB l ≤ 255 * l.length
  | [] => by simp [sumB]
  | c :: l => by have := sumB_le l; have := c.toNat_lt; rw [sumB, List.length_cons]; omega
theorem sumFrom_append : ∀ (a b : Bs) (i acc : Nat), sumFrom i acc (a ++ b) = sumFrom (i + a.length) (sumFrom i acc a) b
  | [], b, i, acc => rfl
  | c :: a, b, i, acc => by rw [List.cons_append, sumFrom, sumFrom, sumFrom_append a b, List.length_cons]; congr 1; omega
theorem sumFrom_out : ∀ (l : Bs) (i acc : Nat), (i + l.length ≤ 148 ∨ 156 ≤ i) → sumFrom i acc l = acc + sumB l
  | [], i, acc, _ => rfl
  | c :: l, i, acc, h => by rw [List.length_cons] at h; rw [sumFrom, if_neg (by omega), sumFrom_out l _ _ (by omega), sumB]; omega
theorem sumFrom_in : ∀ (l : Bs) (i acc : Nat), 148 ≤ i → i + l.length ≤ 156 → sumFrom i acc l = acc + 32 * l.length
  | [], i, acc, _, _ => rfl
  | c :: l, i, acc, h, h' => by rw [List.length_cons] at h'; rw [sumFrom, if_pos (by omega), sumFrom_in l _ _ (by omega) (by omega), List.length_cons]; omega
def spaces8 : Bs := [32, 32, 32, 32, 32, 32, 32, 32]
def ustar8 : Bs := [117, 115, 116, 97, 114, 0, 48, 48]
def octB (w n : Nat) : Bs := octs n (w - 1) ++ [0]
theorem octB_len {w n : Nat} (h : 0 < w) : (octB w n).length = w := by rw [octB, List.length_append, octs_len]; simp; omega
/-- a head without its sum -/
def h1 (f : FileM) : Bs := layB (List.replicate 512 0) 0 100 f.name
def h2 (f : FileM) : Bs := layB (h1 f) 100 8 (octB 8 f.mode)
def h3 (f : FileM) : Bs := layB (h2 f) 108 8 (octB 8 0)
def h4 (f : FileM) : Bs := layB (h3 f) 116 8 (octB 8 0)
def h5 (f : FileM) : Bs := layB (h4 f) 124 12 (octB 12 f.size)
def h6 (f : FileM) : Bs := layB (h5 f) 136 12 (octB 12 f.time)
def h7 (f : FileM) : Bs := layB (h6 f) 156 1 [f.kind]
def h8 (f : FileM) : Bs := layB (h7 f) 157 100 f.link
def h9 (f : FileM) : Bs := layB (h8 f) 257 8 ustar8
def headL (f : FileM) : Bs := layB (h9 f) 148 8 spaces8
def headB (f : FileM) : Bs := layB (headL f) 148 8 (octB 7 (sumB (headL f)) ++ [32])
section
variable (f : FileM)
theorem h0_ok : 0 + 100 ≤ (List.replicate 512 (0 : UInt8)).length := by rw [List.length_replicate]; omega
theorem h1_len : (h1 f).length = 512 := by unfold h1; rw [layB_len h0_ok, List.length_replicate]
theorem h2_len : (h2 f).length = 512 := by unfold h2; rw [layB_len (by rw [h1_len]; omega), h1_len]
theorem h3_len : (h3 f).length = 512 := by unfold h3; rw [layB_len (by rw [h2_len]; omega), h2_len]
theorem h4_len : (h4 f).length = 512 := by unfold h4; rw [layB_len (by rw [h3_len]; omega), h3_len]
theorem h5_len : (h5 f).length = 512 := by unfold h5; rw [layB_len (by rw [h4_len]; omega), h4_len]
theorem h6_len : (h6 f).length = 512 := by unfold h6; rw [layB_len (by rw [h5_len]; omega), h5_len]
theorem h7_len : (h7 f).length = 512 := by unfold h7; rw [layB_len (by rw [h6_len]; omega), h6_len]
theorem h8_len : (h8 f).length = 512 := by unfold h8; rw [layB_len (by rw [h7_len]; omega), h7_len]
theorem h9_len : (h9 f).length = 512 := by unfold h9; rw [layB_len (by rw [h8_len]; omega), h8_len]
theorem headL_len : (headL f).length = 512 := by unfold headL; rw [layB_len (by rw [h9_len]; omega), h9_len]
theorem headB_len : (headB f).length = 512 := by unfold headB; rw [layB_len (by rw [headL_len]; omega), headL_len]
/-- fields that lie elsewhere -/
theorem o1 {q m : Nat} (h : 100 ≤ q) (h2 : q + m ≤ 512) : fld (h1 f) q m = List.replicate m 0 := by unfold h1; rw [fld_other h0_ok (.inr (by omega)), fld_zero _ _ _ h2]
theorem o2 {q m : Nat} (h : q + m ≤ 100 ∨ 108 ≤ q) : fld (h2 f) q m = fld (h1 f) q m := fld_other (by rw [h1_len]; omega) h
theorem o3 {q m : Nat} (h : q + m ≤ 108 ∨ 116 ≤ q) : fld (h3 f) q m = fld (h2 f) q m := fld_other (by rw [h2_len]; omega) h
theorem o4 {q m : Nat} (h : q + m ≤ 116 ∨ 124 ≤ q) : fld (h4 f) q m = fld (h3 f) q m := fld_other (by rw [h3_len]; omega) h
theorem o5 {q m : Nat} (h : q + m ≤ 124 ∨ 136 ≤ q) : fld (h5 f) q m = fld (h4 f) q m := fld_other (by rw [h4_len]; omega) h
theorem o6 {q m : Nat} (h : q + m ≤ 136 ∨ 148 ≤ q) : fld (h6 f) q m = fld (h5 f) q m := fld_other (by rw [h5_len]; omega) h
theorem o7 {q m : Nat} (h : q + m ≤ 156 ∨ 157 ≤ q) : fld (h7 f) q m = fld (h6 f) q m := fld_other (by rw [h6_len]; omega) h
theorem o8 {q m : Nat} (h : q + m ≤ 157 ∨ 257 ≤ q) : fld (h8 f) q m = fld (h7 f) q m := fld_other (by rw [h7_len]; omega) h
theorem o9 {q m : Nat} (h : q + m ≤ 257 ∨ 265 ≤ q) : fld (h9 f) q m = fld (h8 f) q m := fld_other (by rw [h8_len]; omega) h
theorem oL {q m : Nat} (h : q + m ≤ 148 ∨ 156 ≤ q) : fld (headL f) q m = fld (h9 f) q m := fld_other (by rw [h9_len]; omega) h
theorem oB {q m : Nat} (h : q + m ≤ 148 ∨ 156 ≤ q) : fld (headB f) q m = fld (headL f) q m := fld_other (by rw [headL_len]; omega) h
theorem fld_full {L s : Bs} {p n : Nat} (h : p + n ≤ L.length) (hs : s.length = n) : fld (layB L p n s) p n = s := by
  rw [fld_same h, hs, Nat.min_self, Nat.sub_self, List.take_of_length_le (by omega)]; simp [fld]
theorem fName : fld (headB f) 0 100 = f.name.take 100 ++ List.replicate (100 - min 100 f.name.length) 0 := by
  rw [oB f (.inl (by omega)), oL f (.inl (by omega)), o9 f (.inl (by omega)), o8 f (.inl (by omega)), o7 f (.inl (by omega)), o6 f (.inl (by omega)), o5 f (.inl (by omega)), o4 f (.inl (by omega)), o3 f (.inl (by omega)), o2 f (.inl (by omega)), h1, fld_same h0_ok, fld_zero _ _ _ (by omega)]
theorem fMode : fld (headB f) 100 8 = octB 8 f.mode := by
  rw [oB f (.inl (by omega)), oL f (.inl (by omega)), o9 f (.inl (by omega)), o8 f (.inl (by omega)), o7 f (.inl (by omega)), o6 f (.inl (by omega)), o5 f (.inl (by omega)), o4 f (.inl (by omega)), o3 f (.inl (by omega)), h2, fld_full (by rw [h1_len]; omega) (octB_len (by omega))]
theorem fSize : fld (headB f) 124 12 = octB 12 f.size := by
  rw [oB f (.inl (by omega)), oL f (.inl (by omega)), o9 f (.inl (by omega)), o8 f (.inl (by omega)), o7 f (.inl (by omega)), o6 f (.inl (by omega)), h5, fld_full (by rw [h4_len]; omega) (octB_len (by omega))]
theorem fTime : fld (headB f) 136 12 = octB 12 f.time := by
  rw [oB f (.inl (by omega)), oL f (.inl (by omega)), o9 f (.inl (by omega)), o8 f (.inl (by omega)), o7 f (.inl (by omega)), h6, fld_full (by rw [h5_len]; omega) (octB_len (by omega))]
theorem fSum : fld (headB f) 148 8 = octB 7 (sumB (headL f)) ++ [32] := by
  rw [headB, fld_full (by rw [headL_len]; omega) (by rw [List.length_append, octB_len (by omega)]; rfl)]
theorem fKind : fld (headB f) 156 1 = [f.kind] := by
  rw [oB f (.inr (by omega)), oL f (.inr (by omega)), o9 f (.inl (by omega)), o8 f (.inl (by omega)), h7, fld_full (n := 1) (by rw [h6_len]; omega) rfl]
theorem z7 : fld (h7 f) 157 100 = List.replicate 100 0 := by
  rw [o7 f (.inr (by omega)), o6 f (.inr (by omega)), o5 f (.inr (by omega)), o4 f (.inr (by omega)), o3 f (.inr (by omega)), o2 f (.inr (by omega)), o1 f (by omega) (by omega)]
theorem fLink : fld (headB f) 157 100 = f.link.take 100 ++ List.replicate (100 - min 100 f.link.length) 0 := by
  rw [oB f (.inr (by omega)), oL f (.inr (by omega)), o9 f (.inl (by omega)), h8, fld_same (by rw [h7_len]; omega), fld_sub (m := 100) (by omega), z7, fld_zero _ _ _ (by omega)]
theorem fPrefix : fld (headB f) 345 155 = List.replicate 155 0 := by
  rw [oB f (.inr (by omega)), oL f (.inr (by omega)), o9 f (.inr (by omega)), o8 f (.inr (by omega)), o7 f (.inr (by omega)), o6 f (.inr (by omega)), o5 f (.inr (by omega)), o4 f (.inr (by omega)), o3 f (.inr (by omega)), o2 f (.inr (by omega)), o1 f (by omega) (by omega)]
theorem kind_headB : (headB f).getD 156 0 = f.kind := by
  have h := congrArg (fun l => l[0]?) (fKind f)
  simp only [fld_get] at h
  rw [List.getD_eq_getElem?_getD]
  simp at h
  rw [h]; rfl
theorem sum_parts {A X C : Bs} (hA : A.length = 148) (hX : X.length = 8) : sumFrom 0 0 (A ++ X ++ C) = sumB A + 256 + sumB C := by
  rw [List.append_assoc, sumFrom_append, sumFrom_out A 0 0 (.inl (by omega)), sumFrom_append, sumFrom_in X _ _ (by omega) (by omega), sumFrom_out C _ _ (.inr (by omega))]
  omega
theorem lay_parts {L X : Bs} (hX : X.length = 8) : layB L 148 8 X = L.take 148 ++ X ++ L.drop 156 := by
  show L.take 148 ++ X.take 8 ++ L.drop (148 + min 8 X.length) = _
  rw [hX, Nat.min_self, List.take_of_length_le (l := X) (by omega)]
theorem sum_lay {L X Y : Bs} (hL : L.length = 512) (hX : X.length = 8) (hY : Y = spaces8) : sumFrom 0 0 (layB (layB L 148 8 Y) 148 8 X) = sumB (layB L 148 8 Y) := by
  have a1 : (L.take 148).length = 148 := by rw [List.length_take]; omega
  have hY8 : Y.length = 8 := by rw [hY]; rfl
  have t1 : (L.take 148 ++ Y ++ L.drop 156).take 148 = L.take 148 := by rw [List.append_assoc]; exact List.take_left' a1
  have t2 : (L.take 148 ++ Y ++ L.drop 156).drop 156 = L.drop 156 := List.drop_left' (by rw [List.length_append, a1, hY8])
  have s8 : sumB Y = 256 := by rw [hY]; rfl
  rw [lay_parts hY8, lay_parts hX, t1, t2, sum_parts a1 hX, sumB_append, sumB_append]
  omega
theorem sum_headB : sumFrom 0 0 (headB f) = sumB (headL f) := by
  unfold headB
  generalize hx : octB 7 (sumB (headL f)) ++ [32] = X
  have hX : X.length = 8 := by rw [← hx, List.length_append, octB_len (by omega)]; rfl
  unfold headL
  exact sum_lay (h9_len f) hX rfl
theorem sum_bound : sumB (headL f) < 262144 := by have := sumB_le (headL f); rw [headL_len] at this; omega
theorem numbers_headB (hm : f.mode < 2097152) (hs : f.size < 8589934592) (ht : f.time < 8589934592) : numbersM (headB f) = .ok (f.mode, f.size, f.time) := by
  have b := sum_bound f
  refine numbersM_6 (want := sumB (headL f)) ?_ (sum_headB f) ?_ ?_ ?_
  · rw [fSum, octB, List.append_assoc]; exact number_octs (by omega) (Nat.lt_of_lt_of_le b (by decide)) (by omega) (by decide)
  · rw [fSize]; exact number_octs (by omega) (Nat.lt_of_lt_of_le hs (by decide)) (by omega) (by decide)
  · rw [fMode]; exact number_octs (by omega) (Nat.lt_of_lt_of_le hm (by decide)) (by omega) (by decide)
  · rw [fTime]; exact number_octs (by omega) (Nat.lt_of_lt_of_le ht (by decide)) (by omega) (by decide)
end
theorem take_mem {s : Bs} {n : Nat} (h : ∀ c ∈ s, c ≠ (0 : UInt8)) : ∀ c ∈ s.take n, c ≠ (0 : UInt8) := fun c hc => h c (List.mem_of_mem_take hc)
theorem name_headB {f : FileM} (h : ∀ c ∈ f.name, c ≠ (0 : UInt8)) : nameM (headB f) = f.name.take 100 := by
  unfold nameM
  rw [if_neg (fun h => h.2 (by rw [fPrefix]; rfl)), fName, takeTo_pad (take_mem h)]
theorem link_headB {f : FileM} (h : ∀ c ∈ f.link, c ≠ (0 : UInt8)) : takeTo 0 (fld (headB f) 157 100) = f.link.take 100 := by
  rw [fLink, takeTo_pad (take_mem h)]
theorem solid_headB {f : FileM} (h : ∀ c ∈ f.name, c ≠ (0 : UInt8)) (hne : f.name ≠ []) : zeroB (headB f) = false := by
  rcases hz : zeroB (headB f) with _ | _
  · rfl
  · exfalso
    have hall : ∀ c ∈ headB f, c = 0 := by simpa [zeroB] using hz
    rcases hn : f.name with _ | ⟨c, l⟩
    · exact hne hn
    · have e := fName f
      have hc : c ∈ fld (headB f) 0 100 := by rw [e, hn]; simp
      have hc2 : c ∈ headB f := List.mem_of_mem_drop (List.mem_of_mem_take hc)
      exact h c (by rw [hn]; simp) (hall c hc2)
def stepM (p' : Nat) (r : Except (Nat × Nat) StM) : Except (Nat × Nat) (Nat × StM) := match r with | .error x => .error x | .ok st' => .ok (p', st')
theorem headM_step {d h : Bs} {p : Nat} {st : StM} {mode s0 t0 size time : Nat} (e : numbersM h = .ok (mode, s0, t0)) (e2 : sizeM (kindM h) st s0 = some size) (e3 : timeM (kindM h) st t0 = some time) (e4 : p + 512 + lenM (kindM h) size ≤ d.length) :
    headM d h p st = stepM (atM d p (lenM (kindM h) size)) (restM d h p st mode size time) := by
  rw [headM_rest e e2 e3 (by omega)]
  generalize restM d h p st mode size time = r
  cases r <;> rfl
theorem headM_headB {d h : Bs} {p : Nat} {st : StM} {f : FileM} (hh : h = headB f) (hm : f.mode < 2097152) (hs : f.size < 8589934592) (ht : f.time < 8589934592) (hk : f.kind ≠ 0)
    (h1 : overM st.next.size st.all.size = none) (h2 : overM st.next.time st.all.time = none) (hl : p + 512 + lenM f.kind f.size ≤ d.length) :
    headM d h p st = stepM (atM d p (lenM f.kind f.size)) (restM d h p st f.mode f.size f.time) := by
  have hkd : kindM h = f.kind := by unfold kindM; rw [hh, kind_headB, if_neg hk]
  have e1 := numbers_headB f hm hs ht
  rw [← hh] at e1
  clear hh
  have e2 : sizeM (kindM h) st f.size = some f.size := by unfold sizeM; rw [h1]; split <;> rfl
  have e3 : timeM (kindM h) st f.time = some f.time := by unfold timeM; rw [h2]; split <;> rfl
  rw [headM_step e1 e2 e3 (by rw [hkd]; exact hl), hkd]
/-- three digits -/
def dec3 (n : Nat) : Bs := [UInt8.ofNat (48 + n / 100), UInt8.ofNat (48 + n / 10 % 10), UInt8.ofNat (48 + n % 10)]
theorem ofNat_toNat {n : Nat} (h : n < 256) : (UInt8.ofNat n).toNat = n := by rw [UInt8.toNat_ofNat']; omega
theorem digits_dec3 {n : Nat} (h : n < 1000) : digits (dec3 n) 9 = some n := by
  unfold digits
  rw [if_neg (by simp [dec3])]
  simp only [dec3, digLoop, ofNat_toNat (show 48 + n / 100 < 256 by omega), ofNat_toNat (show 48 + n / 10 % 10 < 256 by omega), ofNat_toNat (show 48 + n % 10 < 256 by omega)]
  rw [if_neg (by omega), if_neg (by omega), if_neg (by omega)]
  congr 1
  omega
def restB (k v : Bs) : Bs := [32] ++ k ++ [61] ++ v ++ [10]
theorem restB_len (k v : Bs) : (restB k v).length = k.length + v.length + 3 := by simp [restB]; omega
def recordB (k v : Bs) : Bs := dec3 ((restB k v).length + 3) ++ restB k v
theorem recordB_len (k v : Bs) : (recordB k v).length = k.length + v.length + 6 := by rw [recordB, List.length_append, restB_len]; show 3 + (k.length + v.length + 3) = _; omega
theorem takeTo_at {c : UInt8} {a r : Bs} (h : ∀ x ∈ a, x ≠ c) : takeTo c (a ++ c :: r) = a := by
  unfold takeTo
  induction a with
  | nil => simp
  | cons x a ih => rw [List.cons_append, List.takeWhile_cons, if_pos (by simpa using h x (by simp)), ih fun y hy => h y (by simp [hy])]
theorem dec3_ne {n : Nat} (h : n < 1000) : ∀ x ∈ dec3 n, x ≠ 32 := by
  intro x hx e
  subst e
  have key : ∀ m, m < 256 → 48 ≤ m → (32 : UInt8) ≠ UInt8.ofNat m := fun m hm h48 e => by
    have := congrArg UInt8.toNat e
    rw [ofNat_toNat hm] at this
    have h32 : (32 : UInt8).toNat = 32 := rfl
    omega
  simp only [dec3, List.mem_cons, List.not_mem_nil, or_false] at hx
  rcases hx with e | e | e
  · exact key _ (by omega) (by omega) e
  · exact key _ (by omega) (by omega) e
  · exact key _ (by omega) (by omega) e
theorem recStep_record {k v t : Bs} (hk : k ≠ []) (hk61 : ∀ x ∈ k, x ≠ 61) (h1 : 94 ≤ k.length + v.length) (h2 : k.length + v.length ≤ 900) : recStep (recordB k v ++ t) = some (k, v, k.length + v.length + 6) := by
  obtain ⟨n, hn⟩ : ∃ n, n = k.length + v.length + 6 := ⟨_, rfl⟩
  have hrn : (restB k v).length + 3 = n := by rw [restB_len]; omega
  have hl : recordB k v ++ t = dec3 n ++ 32 :: (k ++ 61 :: (v ++ 10 :: t)) := by rw [recordB, hrn]; simp [restB]
  have hlen : (recordB k v ++ t).length = n + t.length := by rw [List.length_append, recordB_len]; omega
  have ht : takeTo 32 (recordB k v ++ t) = dec3 n := by rw [hl]; exact takeTo_at (dec3_ne (by omega))
  have hd3 : (dec3 n).length = 3 := rfl
  have hmid : ((recordB k v ++ t).take (n - 1)).drop (3 + 1) = k ++ 61 :: v := by
    have e : recordB k v ++ t = (dec3 n ++ [32]) ++ (k ++ 61 :: v) ++ (10 :: t) := by rw [hl]; simp
    rw [e, List.take_left' (by simp [dec3]; omega)]
    exact List.drop_left' rfl
  have htk : takeTo 61 (k ++ 61 :: v) = k := takeTo_at hk61
  have hlast : (recordB k v ++ t)[n - 1]? = some 10 := by
    have e : recordB k v ++ t = (dec3 n ++ [32] ++ k ++ [61] ++ v) ++ (10 :: t) := by rw [hl]; simp
    rw [e, List.getElem?_append_right (by simp [dec3]; omega)]
    have : n - 1 - (dec3 n ++ [32] ++ k ++ [61] ++ v).length = 0 := by simp [dec3]; omega
    rw [this]; rfl
  have hhead : (dec3 n).head? ≠ some 48 := by
    intro e
    have e : UInt8.ofNat (48 + n / 100) = 48 := by simpa [dec3] using e
    have e := congrArg UInt8.toNat e
    rw [ofNat_toNat (by omega)] at e
    have h48 : (48 : UInt8).toNat = 48 := rfl
    omega
  unfold recStep
  rw [ht, digits_dec3 (by omega)]
  simp only [hd3]
  rw [if_neg (by rintro (h | h | h | h) <;> first | exact hhead h | (rw [hlen] at h; omega) | omega | exact h hlast), hmid, htk, if_neg (by rintro (h | h) <;> first | exact hk h | (simp at h))]
  have e : k ++ 61 :: v = (k ++ [61]) ++ v := by simp
  rw [e, List.drop_left' (by simp), hn]
theorem records_record {f : Nat} {k v t : Bs} {acc : List Rec} (hk : k ≠ []) (hk61 : ∀ x ∈ k, x ≠ 61) (h1 : 94 ≤ k.length + v.length) (h2 : k.length + v.length ≤ 900) (hf : (recordB k v ++ t).length ≤ f) :
    ∃ f', f = f' + 1 ∧ records f (recordB k v ++ t) acc = records f' t (acc ++ [(k, v)]) := by
  have hl : 0 < (recordB k v ++ t).length := by rw [List.length_append, recordB_len]; omega
  obtain ⟨f', hf', hr⟩ := records_some (acc := acc) hl hf (recStep_record hk hk61 h1 h2)
  refine ⟨f', hf', hr.trans ?_⟩
  rw [List.drop_left' (recordB_len k v)]
def padL (n : Nat) : Nat := (n + 511) / 512 * 512 - n
def fullB (s : Bs) : Bs := s ++ List.replicate (padL s.length) 0
theorem fullB_len (s : Bs) : (fullB s).length = (s.length + 511) / 512 * 512 := by simp [fullB, padL]; omega
def paxP (k v : Bs) : Bs := if 100 < v.length then recordB k v else []
def paxB (f : FileM) : Bs := paxP kPath f.name ++ paxP kLink f.link
def paxR (f : FileM) : List Rec := (if 100 < f.name.length then [(kPath, f.name)] else []) ++ (if 100 < f.link.length then [(kLink, f.link)] else [])
def paxF (m : Bs) : FileM := ⟨[112, 97, 120], [], 120, 0, m.length, 0, []⟩
def memB (f : FileM) : Bs := (if paxB f = [] then [] else headB (paxF (paxB f)) ++ fullB (paxB f)) ++ (headB f ++ fullB f.data)
def bodyB (fs : List FileM) : Bs := fs.flatMap memB
def writeB (fs : List FileM) : Bs := bodyB fs ++ List.replicate 1024 0
structure GoodM (f : FileM) : Prop where
  mode : f.mode ≤ 4095
  time : f.time < 4294967296
  k1 : 48 ≤ f.kind.toNat
  k2 : f.kind.toNat ≤ 54
  size : f.size = f.data.length
  data : f.data ≠ [] → f.kind = 48
  nl : f.name.length ≤ 256
  ll : f.link.length ≤ 256
  ne : f.name ≠ []
  n0 : ∀ c ∈ f.name, c ≠ (0 : UInt8)
  l0 : ∀ c ∈ f.link, c ≠ (0 : UInt8)
  dl : f.data.length < 8589934592
theorem paxB_nil {f : FileM} : paxB f = [] ↔ f.name.length ≤ 100 ∧ f.link.length ≤ 100 := by
  have h : ∀ k v, paxP k v = [] ↔ v.length ≤ 100 := fun k v => by
    unfold paxP
    by_cases h : 100 < v.length
    · rw [if_pos h]
      constructor
      · intro e; have := recordB_len k v; rw [e] at this; simp at this
      · intro; omega
    · rw [if_neg h]; simp; omega
  unfold paxB
  rw [List.append_eq_nil_iff, h, h]
theorem paxB_len {f : FileM} (hn : f.name.length ≤ 256) (hl : f.link.length ≤ 256) : (paxB f).length ≤ 600 := by
  have h : ∀ k v, v.length ≤ 256 → k.length ≤ 8 → (paxP k v).length ≤ 270 := fun k v hv hk => by
    unfold paxP; split
    · rw [recordB_len]; omega
    · simp
  unfold paxB
  have := h kPath f.name hn (by decide)
  have := h kLink f.link hl (by decide)
  rw [List.length_append]; omega
theorem records_pax {f : FileM} (hn : f.name.length ≤ 256) (hl : f.link.length ≤ 256) : records (paxB f).length (paxB f) [] = some (paxR f) := by
  have kp : kPath ≠ [] := by decide
  have kl : kLink ≠ [] := by decide
  have kp61 : ∀ x ∈ kPath, x ≠ 61 := by decide
  have kl61 : ∀ x ∈ kLink, x ≠ 61 := by decide
  have lp : kPath.length = 4 := rfl
  have ll : kLink.length = 8 := rfl
  have link : ∀ (g : Nat) (acc : List Rec), (paxP kLink f.link).length ≤ g → records g (paxP kLink f.link) acc = some (acc ++ (if 100 < f.link.length then [(kLink, f.link)] else [])) := by
    intro g acc hg
    unfold paxP at hg ⊢
    by_cases h : 100 < f.link.length
    · rw [if_pos h] at hg
      rw [if_pos h, if_pos h]
      obtain ⟨g', _, e⟩ := records_record (f := g) (t := []) (acc := acc) kl kl61 (v := f.link) (by omega) (by omega) (by simpa using hg)
      rw [List.append_nil] at e
      rw [e, records_nil]
    · rw [if_neg h, if_neg h, records_nil, List.append_nil]
  unfold paxB paxR
  by_cases h : 100 < f.name.length
  · have e1 : paxP kPath f.name = recordB kPath f.name := if_pos h
    rw [if_pos h, e1]
    obtain ⟨g', hg, e⟩ := records_record (f := (recordB kPath f.name ++ paxP kLink f.link).length) (t := paxP kLink f.link) (acc := []) kp kp61 (v := f.name) (by omega) (by omega) (Nat.le_refl _)
    rw [e, link g' _ (by rw [List.length_append, recordB_len] at hg; omega)]
    rfl
  · have e1 : paxP kPath f.name = [] := if_neg h
    rw [if_neg h, e1, List.nil_append, link _ _ (Nat.le_refl _)]
theorem layM_pax {f : FileM} : layM noTold (paxR f) = ⟨if 100 < f.name.length then some f.name else none, if 100 < f.link.length then some f.link else none, none, none⟩ := by
  have h1 : kLink ≠ kPath := by decide
  unfold paxR
  by_cases h : 100 < f.name.length <;> by_cases h' : 100 < f.link.length <;> simp [h, h', layM, layOne, noTold, h1]
theorem fld_at {pre h rest : Bs} {n : Nat} (hh : h.length = n) : fld (pre ++ (h ++ rest)) pre.length n = h := by
  unfold fld; rw [List.drop_left, List.take_left' hh]
theorem fld_at2 {pre h D rest : Bs} {n m : Nat} (hh : h.length = n) (hD : D.length = m) : fld (pre ++ (h ++ (D ++ rest))) (pre.length + n) m = D := by
  have e : pre ++ (h ++ (D ++ rest)) = (pre ++ h) ++ (D ++ rest) := by simp
  have e2 : pre.length + n = (pre ++ h).length := by rw [List.length_append, hh]
  rw [e, e2]; exact fld_at hD
structure HeadM (F : FileM) : Prop where
  mode : F.mode < 2097152
  size : F.size < 8589934592
  time : F.time < 8589934592
  kind : F.kind ≠ 0
  n0 : ∀ c ∈ F.name, c ≠ (0 : UInt8)
  ne : F.name ≠ []
theorem readM_head {d pre rest D : Bs} {F : FileM} {st st' : StM} {fu : Nat} (hd : d = pre ++ (headB F ++ (fullB D ++ rest))) (hF : HeadM F) (hD : lenM F.kind F.size = D.length)
    (h1 : overM st.next.size st.all.size = none) (h2 : overM st.next.time st.all.time = none) (hr : restM d (headB F) pre.length st F.mode F.size F.time = .ok st') (hfu : d.length - pre.length ≤ fu) :
    ∃ fu', fu = fu' + 1 ∧ readM fu d pre.length st = readM fu' d (pre.length + 512 + (fullB D).length) st' := by
  have hlen : d.length = pre.length + (512 + ((fullB D).length + rest.length)) := by rw [hd, List.length_append, List.length_append, List.length_append, headB_len]
  have hfd : fld d pre.length 512 = headB F := by rw [hd]; exact fld_at (headB_len F)
  obtain ⟨fu', hfu', hs⟩ := readM_step (st := st) (d := d) (p := pre.length) (f := fu) (by omega) (by omega) hfu (by rw [hfd]; exact solid_headB hF.n0 hF.ne)
  refine ⟨fu', hfu', hs.trans ?_⟩
  have fl := fullB_len D
  have hle : D.length ≤ (fullB D).length := by rw [fl]; omega
  rw [headM_headB hfd hF.mode hF.size hF.time hF.kind h1 h2 (by rw [hD]; omega), hfd, hr, hD]
  have ha : atM d pre.length D.length = pre.length + 512 + (fullB D).length := by unfold atM; rw [hlen, fl]; omega
  rw [ha]
  rfl
theorem restM_special' {d h : Bs} {p : Nat} {st : StM} {mode size time : Nat} (hs : specB (kindM h) = true) : restM d h p st mode size time = specialM st (kindM h).toNat (fld d (p + 512) (lenM (kindM h) size)) p := by unfold restM; rw [if_pos hs]
theorem restM_member' {d h : Bs} {p : Nat} {st : StM} {mode size time : Nat} (hs : specB (kindM h) = false) : restM d h p st mode size time = memberM st (kindM h) mode size time (fld d (p + 512) (lenM (kindM h) size)) h p := by unfold restM; rw [if_neg (by simp [hs])]
theorem kindM_headB {F : FileM} (h : F.kind ≠ 0) : kindM (headB F) = F.kind := by unfold kindM; rw [kind_headB, if_neg h]
def stX (nx : ToldM) (fs : List FileM) : StM := ⟨nx, noTold, none, fs⟩
theorem fullB_def (D : Bs) (rest : Bs) : fullB D ++ rest = D ++ (List.replicate (padL D.length) 0 ++ rest) := by rw [fullB, List.append_assoc]
theorem rest_pax {d pre rest m : Bs} {rs : List Rec} {fs : List FileM} (hd : d = pre ++ (headB (paxF m) ++ (fullB m ++ rest))) (hr : records m.length m [] = some rs) :
    restM d (headB (paxF m)) pre.length (stX noTold fs) (paxF m).mode (paxF m).size (paxF m).time = .ok (stX (layM noTold rs) fs) := by
  have hk : kindM (headB (paxF m)) = 120 := kindM_headB (F := paxF m) (show (120 : UInt8) ≠ 0 by decide)
  have hl : lenM 120 (paxF m).size = m.length := rfl
  rw [restM_special' (by rw [hk]; decide), hk, hl, hd, fullB_def, fld_at2 (headB_len _) rfl]
  unfold specialM
  have e1 : ¬ (120 : UInt8).toNat = 76 := by decide
  have e2 : (120 : UInt8).toNat = 120 := by decide
  rw [if_neg e1, hr]
  simp only [e2, if_true]
  rfl
theorem take_or (s : Bs) : (if 100 < s.length then some s else none).getD (s.take 100) = s := by
  by_cases h : 100 < s.length
  · rw [if_pos h]; rfl
  · rw [if_neg h]; exact List.take_of_length_le (by omega)
theorem rest_member {d pre rest : Bs} {f : FileM} {nx : ToldM} {fs : List FileM} (hg : GoodM f) (hd : d = pre ++ (headB f ++ (fullB f.data ++ rest))) (hfs : fs.length < 1024)
    (hp : nx.path.getD (f.name.take 100) = f.name) (hl : nx.link.getD (f.link.take 100) = f.link) :
    restM d (headB f) pre.length (stX nx fs) f.mode f.size f.time = .ok (stX noTold (fs ++ [f])) := by
  have hk0 : f.kind ≠ 0 := fun e => by have := hg.k1; rw [e] at this; exact absurd this (by decide)
  have hk : kindM (headB f) = f.kind := kindM_headB hk0
  have hsp : specB f.kind = false := by
    have := hg.k1; have := hg.k2
    simp only [specB, Bool.or_eq_false_iff, decide_eq_false_iff_not]
    omega
  have hD : lenM f.kind f.size = f.data.length := by
    unfold lenM
    by_cases hk48 : f.kind = 48
    · rw [if_neg (by rw [hk48]; decide), hg.size]
    · have hd0 : f.data = [] := Classical.byContradiction fun h => hk48 (hg.data h)
      rw [hg.size, hd0]; simp
  rw [restM_member' (by rw [hk]; exact hsp), hk, hD, hd, fullB_def, fld_at2 (headB_len _) rfl]
  unfold memberM
  have hn : (overM (stX nx fs).next.path (overM (stX nx fs).long (stX nx fs).all.path)).getD (nameM (headB f)) = f.name := by
    rw [name_headB hg.n0]
    show (overM nx.path none).getD _ = _
    have : overM nx.path none = nx.path := by cases nx.path <;> rfl
    rw [this, hp]
  have hlk : (overM (stX nx fs).next.link (stX nx fs).all.link).getD (takeTo 0 (fld (headB f) 157 100)) = f.link := by
    rw [link_headB hg.l0]
    show (overM nx.link none).getD _ = _
    have : overM nx.link none = nx.link := by cases nx.link <;> rfl
    rw [this, hl]
  have hne : ¬ (stX nx fs).files.length = 1024 := by show ¬ fs.length = 1024; omega
  rw [if_neg hne, hn, hlk, if_neg (by have := hg.nl; have := hg.ll; omega)]
  have hdat : (if f.kind = 48 then f.data else []) = f.data := by
    by_cases hk48 : f.kind = 48
    · rw [if_pos hk48]
    · rw [if_neg hk48]; exact (Classical.byContradiction fun h => hk48 (hg.data fun e => h e.symm))
  rw [hdat]
  rfl
theorem headM_good {f : FileM} (hg : GoodM f) : HeadM f := by
  refine ⟨?_, ?_, ?_, ?_, hg.n0, hg.ne⟩
  · have := hg.mode; omega
  · have := hg.size; have := hg.dl; omega
  · have := hg.time; omega
  · intro e; have := hg.k1; rw [e] at this; exact absurd this (by decide)
theorem lenM_good {f : FileM} (hg : GoodM f) : lenM f.kind f.size = f.data.length := by
  unfold lenM
  by_cases hk48 : f.kind = 48
  · rw [if_neg (by rw [hk48]; decide), hg.size]
  · have hd0 : f.data = [] := Classical.byContradiction fun h => hk48 (hg.data h)
    rw [hg.size, hd0]; simp
theorem readM_member {d pre rest : Bs} {f : FileM} {fs : List FileM} {fu : Nat} (hg : GoodM f) (hd : d = pre ++ (memB f ++ rest)) (hfs : fs.length < 1024) (hfu : d.length - pre.length ≤ fu) :
    ∃ fu', d.length - (pre ++ memB f).length ≤ fu' ∧ readM fu d pre.length (stX noTold fs) = readM fu' d (pre ++ memB f).length (stX noTold (fs ++ [f])) := by
  by_cases hx : paxB f = []
  · have hm : memB f = headB f ++ fullB f.data := by unfold memB; rw [if_pos hx, List.nil_append]
    obtain ⟨h1, h2⟩ := paxB_nil.1 hx
    rw [hm, List.append_assoc] at hd
    obtain ⟨fu', hfu', e⟩ := readM_head hd (headM_good hg) (lenM_good hg) (st := stX noTold fs) rfl rfl
      (rest_member hg hd hfs (List.take_of_length_le h1) (List.take_of_length_le h2)) hfu
    have hl : (pre ++ memB f).length = pre.length + 512 + (fullB f.data).length := by rw [hm, List.length_append, List.length_append, headB_len]; omega
    refine ⟨fu', ?_, ?_⟩
    · rw [hl]; omega
    · rw [hl]; exact e
  · have hm : memB f = headB (paxF (paxB f)) ++ fullB (paxB f) ++ (headB f ++ fullB f.data) := by unfold memB; rw [if_neg hx]
    have hpl := paxB_len hg.nl hg.ll
    have hd1 : d = pre ++ (headB (paxF (paxB f)) ++ (fullB (paxB f) ++ (headB f ++ fullB f.data ++ rest))) := by rw [hd, hm]; simp only [List.append_assoc]
    have hF : HeadM (paxF (paxB f)) := ⟨by show (0 : Nat) < _; omega, by show (paxB f).length < _; omega, by show (0 : Nat) < _; omega, by show (120 : UInt8) ≠ 0; decide, by show ∀ c ∈ ([112, 97, 120] : Bs), c ≠ 0; decide, by show ([112, 97, 120] : Bs) ≠ []; decide⟩
    obtain ⟨fu1, hfu1, e1⟩ := readM_head hd1 hF rfl (st := stX noTold fs) rfl rfl (rest_pax hd1 (records_pax hg.nl hg.ll)) hfu
    have hd2 : d = (pre ++ (headB (paxF (paxB f)) ++ fullB (paxB f))) ++ (headB f ++ (fullB f.data ++ rest)) := by rw [hd1]; simp only [List.append_assoc]
    have hl2 : (pre ++ (headB (paxF (paxB f)) ++ fullB (paxB f))).length = pre.length + 512 + (fullB (paxB f)).length := by rw [List.length_append, List.length_append, headB_len]; omega
    obtain ⟨fu', hfu', e⟩ := readM_head hd2 (headM_good hg) (lenM_good hg) (st := stX (layM noTold (paxR f)) fs) (by rw [layM_pax]; rfl) (by rw [layM_pax]; rfl)
      (rest_member hg hd2 hfs (by rw [layM_pax]; exact take_or _) (by rw [layM_pax]; exact take_or _)) (fu := fu1) (by rw [hl2]; omega)
    have hl : (pre ++ memB f).length = (pre ++ (headB (paxF (paxB f)) ++ fullB (paxB f))).length + 512 + (fullB f.data).length := by
      rw [hm, hl2]; simp only [List.length_append, headB_len]; omega
    refine ⟨fu', ?_, ?_⟩
    · rw [hl]; omega
    · rw [hl, ← e, e1, hl2]
theorem readM_body : ∀ {gs : List FileM} {d pre rest : Bs} {fs : List FileM} {fu : Nat}, (∀ f ∈ gs, GoodM f) → d = pre ++ (bodyB gs ++ rest) → fs.length + gs.length ≤ 1024 → d.length - pre.length ≤ fu →
    ∃ fu', d.length - (pre ++ bodyB gs).length ≤ fu' ∧ readM fu d pre.length (stX noTold fs) = readM fu' d (pre ++ bodyB gs).length (stX noTold (fs ++ gs))
  | [], d, pre, rest, fs, fu, _, hd, _, hfu => by
    have e : bodyB [] = [] := rfl
    rw [e, List.append_nil, List.append_nil]
    exact ⟨fu, hfu, rfl⟩
  | f :: gs, d, pre, rest, fs, fu, hg, hd, hn, hfu => by
    have e : bodyB (f :: gs) = memB f ++ bodyB gs := by simp [bodyB]
    rw [e, List.append_assoc] at hd
    rw [List.length_cons] at hn
    obtain ⟨fu1, h1, e1⟩ := readM_member (fs := fs) (hg f (by simp)) hd (by omega) hfu
    obtain ⟨fu2, h2, e2⟩ := readM_body (gs := gs) (pre := pre ++ memB f) (rest := rest) (fs := fs ++ [f]) (fun g h => hg g (by simp [h])) (by rw [hd]; simp only [List.append_assoc]) (by rw [List.length_append, List.length_singleton]; omega) h1
    rw [e, ← List.append_assoc]
    refine ⟨fu2, h2, e1.trans (e2.trans ?_)⟩
    rw [show fs ++ [f] ++ gs = fs ++ f :: gs by simp]
theorem zeroB_rep (n : Nat) : zeroB (List.replicate n 0) = true := by
  unfold zeroB
  rw [List.all_eq_true]
  intro c hc
  rw [(List.mem_replicate.1 hc).2]; rfl
theorem read_write {gs : List FileM} {rest : Bs} (hg : ∀ f ∈ gs, GoodM f) (hn : gs.length ≤ 1024) (hr : rest = [] ∨ ∃ m, rest = List.replicate 512 0 ++ m) :
    readM (bodyB gs ++ rest).length (bodyB gs ++ rest) 0 st0 = .ok gs := by
  obtain ⟨fu, h, e⟩ := readM_body (d := bodyB gs ++ rest) (pre := []) (fs := []) (fu := (bodyB gs ++ rest).length) hg rfl (by simpa using hn) (Nat.sub_le _ _)
  have e : readM (bodyB gs ++ rest).length (bodyB gs ++ rest) 0 st0 = readM fu (bodyB gs ++ rest) (bodyB gs).length (stX noTold gs) := e
  have h : (bodyB gs ++ rest).length - (bodyB gs).length ≤ fu := h
  rw [e]
  rcases hr with rfl | ⟨m, rfl⟩
  · exact readM_end (by simp)
  · have hl : (bodyB gs ++ (List.replicate 512 0 ++ m)).length = (bodyB gs).length + (512 + m.length) := by rw [List.length_append, List.length_append, List.length_replicate]
    refine readM_zero (by omega) (by omega) h ?_
    rw [fld_at List.length_replicate]
    exact zeroB_rep 512
end Tp
end Go.Proofs.YtiehjmjobcklmaaDoor
