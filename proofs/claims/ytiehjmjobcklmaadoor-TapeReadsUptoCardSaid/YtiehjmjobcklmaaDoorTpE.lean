/- The reference's Read, in parts: the pieces of its code; any frame written out. -/
import Derived.Test.YtiehjmjobcklmaaDoorTpD
namespace Go.Proofs.YtiehjmjobcklmaaDoor
open Go.RowKit Go.Shelf Go.Lib
namespace Tp
def cDrop : Nat → Code → Code
  | 0, c => c
  | n + 1, .seq _ b => cDrop n b
  | _ + 1, c => c
/-- n items, then tl -/
def cUpto : Nat → Code → Code → Code
  | 0, _, tl => tl
  | n + 1, .seq a b, tl => .seq a (cUpto n b tl)
  | _ + 1, _, tl => tl
def cLeft : Code → Code
  | .seq a _ => a
  | c => c
def cRight : Code → Code
  | .seq _ b => b
  | c => c
def cBlk : Code → Code
  | .block _ b => b
  | c => c
def cLoop : Code → Code
  | .loop b => b
  | c => c
noncomputable def refTop : Code := Tryd.f8.body.getD .skip
noncomputable def refLoop : Code := cLoop (cBlk (cLeft (cDrop 5 refTop)))
noncomputable def refBody : Code := cBlk (cRight refLoop)
theorem spread (t : Array Value) (h : t.size = 346) : ∃ u : Nat → Value, t = #[u 0, u 1, u 2, u 3, u 4, u 5, u 6, u 7, u 8, u 9, u 10, u 11, u 12, u 13, u 14, u 15, u 16, u 17, u 18, u 19, u 20, u 21, u 22, u 23, u 24, u 25, u 26, u 27, u 28, u 29, u 30, u 31, u 32, u 33, u 34, u 35, u 36, u 37, u 38, u 39, u 40, u 41, u 42, u 43, u 44, u 45, u 46, u 47, u 48, u 49, u 50, u 51, u 52, u 53, u 54, u 55, u 56, u 57, u 58, u 59, u 60, u 61, u 62, u 63, u 64, u 65, u 66, u 67, u 68, u 69, u 70, u 71, u 72, u 73, u 74, u 75, u 76, u 77, u 78, u 79, u 80, u 81, u 82, u 83, u 84, u 85, u 86, u 87, u 88, u 89, u 90, u 91, u 92, u 93, u 94, u 95, u 96, u 97, u 98, u 99, u 100, u 101, u 102, u 103, u 104, u 105, u 106, u 107, u 108, u 109, u 110, u 111, u 112, u 113, u 114, u 115, u 116, u 117, u 118, u 119, u 120, u 121, u 122, u 123, u 124, u 125, u 126, u 127, u 128, u 129, u 130, u 131, u 132, u 133, u 134, u 135, u 136, u 137, u 138, u 139, u 140, u 141, u 142, u 143, u 144, u 145, u 146, u 147, u 148, u 149, u 150, u 151, u 152, u 153, u 154, u 155, u 156, u 157, u 158, u 159, u 160, u 161, u 162, u 163, u 164, u 165, u 166, u 167, u 168, u 169, u 170, u 171, u 172, u 173, u 174, u 175, u 176, u 177, u 178, u 179, u 180, u 181, u 182, u 183, u 184, u 185, u 186, u 187, u 188, u 189, u 190, u 191, u 192, u 193, u 194, u 195, u 196, u 197, u 198, u 199, u 200, u 201, u 202, u 203, u 204, u 205, u 206, u 207, u 208, u 209, u 210, u 211, u 212, u 213, u 214, u 215, u 216, u 217, u 218, u 219, u 220, u 221, u 222, u 223, u 224, u 225, u 226, u 227, u 228, u 229, u 230, u 231, u 232, u 233, u 234, u 235, u 236, u 237, u 238, u 239, u 240, u 241, u 242, u 243, u 244, u 245, u 246, u 247, u 248, u 249, u 250, u 251, u 252, u 253, u 254, u 255, u 256, u 257, u 258, u 259, u 260, u 261, u 262, u 263, u 264, u 265, u 266, u 267, u 268, u 269, u 270, u 271, u 272, u 273, u 274, u 275, u 276, u 277, u 278, u 279, u 280, u 281, u 282, u 283, u 284, u 285, u 286, u 287, u 288, u 289, u 290, u 291, u 292, u 293, u 294, u 295, u 296, u 297, u 298, u 299, u 300, u 301, u 302, u 303, u 304, u 305, u 306, u 307, u 308, u 309, u 310, u 311, u 312, u 313, u 314, u 315, u 316, u 317, u 318, u 319, u 320, u 321, u 322, u 323, u 324, u 325, u 326, u 327, u 328, u 329, u 330, u 331, u 332, u 333, u 334, u 335, u 336, u 337, u 338, u 339, u 340, u 341, u 342, u 343, u 344, u 345] := by
  refine ⟨fun n => t.getD n undef, ?_⟩
  have e : t = ((List.range 346).map fun n => t.getD n undef).toArray := Array.ext (by simp [h]) (fun i h1 h2 => by simp [Array.getElem?_eq_getElem h1])
  exact e.trans (by kernel_rfl)
/-- the frame between rounds -/
structure Fr (s : ByteArray) (fv x y : Value) (lo : ByteArray) (named : Bool) (p : Nat) (t : Array Value) : Prop where
  size : t.size = 346
  t0 : t[0]? = some (.string s)
  t5 : t[5]? = some fv
  t6 : t[6]? = some x
  t7 : t[7]? = some y
  t8 : t[8]? = some (.string lo)
  t9 : t[9]? = some (.bool named)
  t10 : t[10]? = some (.int .i64 p)
/-- what holds at a round's start -/
structure RK (s : ByteArray) (w0 : World) (fv x y : Value) (xs ys : List Rec) (fs : List FileM) (p : Nat) (w : World) : Prop where
  le : p ≤ s.size
  al : p % 512 = 0 ∨ p = s.size
  fl : fs.length ≤ 1024
  xy : xs.length + ys.length ≤ p
  xl : ∀ r ∈ xs, r.2.length ≤ 1048576
  yl : ∀ r ∈ ys, r.2.length ≤ 1048576
  rs : RS w0.heap.size x y fv xs ys fs w
  b : Below w0.heap.size w0 w
def RInv (s : ByteArray) (w0 : World) (p : Nat) (t : Array Value) (w : World) : Prop :=
  ∃ (fv x y : Value) (lo : ByteArray) (named : Bool) (xs ys : List Rec) (fs : List FileM) (f : Nat), Fr s fv x y lo named p t ∧ RK s w0 fv x y xs ys fs p w ∧ s.size - p ≤ f ∧ readM s.size (bl s) 0 st0 = readM f (bl s) p (stOf xs ys lo named fs)
structure Qs (s : ByteArray) (w0 : World) (p : Nat) (Q : Exit → Act → World → Prop) : Prop where
  ret : ∀ (t : Array Value) (w' : World) (v : Value) (c a : Int), t[2]? = some v → t[3]? = some (.int .i64 c) → t[4]? = some (.int .i64 a) → RefR s w0 (.returned (.tuple #[v, .int .i64 c, .int .i64 a])) w' → Q .ret ⟨t, []⟩ w'
  next : ∀ (p' : Nat) (t : Array Value) (w' : World), p < p' → RInv s w0 p' t w' → Q .normal ⟨t, []⟩ w' ∧ Q (.exit 1) ⟨t, []⟩ w'
end Tp
end Go.Proofs.YtiehjmjobcklmaaDoor
