import Derived.Test.YtpndbidpennlcaaBase
import Derived.Lib.ConvBytes
namespace Go.Proofs.Ytpndbidpennlcaa
open Go.RowKit
set_option linter.unusedVariables false
set_option linter.unusedSimpArgs false
/-! wire's texts -/
theorem conv4 (x0 x1 x2 x3 : Int) (w : World) : (convert 79 9 (.slice (some ⟨w.heap.size, 0, none⟩) 4 4)).run Try.prog (w.alloc (.cells #[.int .u8 x0, .int .u8 x1, .int .u8 x2, .int .u8 x3] 5)) =
    .ok (.string (strOfNums [x0, x1, x2, x3])) (w.alloc (.cells #[.int .u8 x0, .int .u8 x1, .int .u8 x2, .int .u8 x3] 5)) := by
  refine run_convert_bytes_arg _ 79 5 Try.underlying79 Try.underlying5 w.heap.size 0 4 4 [x0, x1, x2, x3] rfl (fun i hi => ?_) 9 Try.underlying9
  have hb := Blk.new w #[.int .u8 x0, .int .u8 x1, .int .u8 x2, .int .u8 x3] 5
  have hc := hb.cell (0 + i)
  have : i = 0 ∨ i = 1 ∨ i = 2 ∨ i = 3 := by omega
  rcases this with rfl | rfl | rfl | rfl <;> (simp at hc ⊢; try exact hc)
theorem conv_bytes (w : World) (s : ByteArray) : ∃ w2 c, (convert 9 79 (.string s)).run Try.prog w = .ok (.slice (some ⟨w.heap.size, 0, none⟩) s.size c) w2 ∧ Keep [] w w2 ∧
    ∀ j, j < s.size → w2.cell? ⟨w.heap.size, j, none⟩ = some (.int .u8 (s.data.toList.getD j 0).toNat) :=
  ⟨_, _, Lib.run_convert_string_bytes w 9 79 5 s Try.underlying9 Try.underlying79 Try.underlying5,
    ⟨by simp [Lib.bytesWorld, World.freeze, World.alloc, World.drew, -World.alloc_eq, -World.drew_eq], by simp [Lib.bytesWorld, World.freeze, World.alloc, World.drew, -World.alloc_eq, -World.drew_eq], by simp [Lib.bytesWorld, World.freeze, World.alloc, World.drew, -World.alloc_eq, -World.drew_eq], by rw [Lib.bytesWorld_size]; omega, fun k hk _ => Lib.bytesWorld_at_old w 5 s k hk⟩, fun j hj => Lib.bytesWorld_cell w 5 s j hj⟩
def numF (n : Int) : ByteArray := if 0 ≤ n ∧ n ≤ 2147483647 then strOfNums [n / 16777216, n / 65536 % 256, n / 256 % 256, n % 256] else strOfNums [0, 0, 0, 0]
theorem numF_size (n : Int) : (numF n).size = 4 := by unfold numF; split <;> rfl
def textF (s : ByteArray) : ByteArray := numF s.size ++ s
def reqF (r : Req) : ByteArray := numF r.c ++ numF r.s ++ textF r.b
def cat (l : List ByteArray) : ByteArray := l.foldl (· ++ ·) ByteArray.empty
theorem cat_snoc (l : List ByteArray) (x : ByteArray) : cat (l ++ [x]) = cat l ++ x := by simp [cat]
theorem cat_take (l : List ByteArray) (k : Nat) (h : k < l.length) : cat (l.take (k + 1)) = cat (l.take k) ++ l[k] := by
  rw [List.take_succ_eq_append_getElem h, cat_snoc]
theorem cat_from (l : List ByteArray) : ∀ x : ByteArray, l.foldl (· ++ ·) x = x ++ cat l := by
  induction l with
  | nil => intro x; simp [cat]
  | cons a l ih => intro x; simp only [cat, List.foldl_cons]; rw [ih, ih (ByteArray.empty ++ a)]; simp [ByteArray.append_assoc]
theorem cat_app (l m : List ByteArray) : cat (l ++ m) = cat l ++ cat m := by
  rw [cat, List.foldl_append, cat_from]; rfl
theorem cat_le (l : List ByteArray) (k : Nat) : (cat (l.take k)).size ≤ (cat l).size := by
  conv => rhs; rw [← List.take_append_drop k l, cat_app, ByteArray.size_append]
  omega
def sigF (s : Sg) : ByteArray := numF s.f ++ numF s.ts.length ++ cat s.ts
def certF (c : Ct) : ByteArray := numF c.v ++ c.h ++ numF c.sg.length ++ cat (c.sg.map sigF)
def batchF (l : List Req) : ByteArray := numF l.length ++ cat (l.map reqF)
def blockF (b : Bk) : ByteArray := numF b.v ++ numF b.p ++ certF b.j ++ batchF b.q
def coreF (b : Bk) : ByteArray := numF b.v ++ numF b.p ++ numF b.j.v ++ b.j.h ++ batchF b.q
/-- A loop that puts texts behind one another. -/
def accF (p : ByteArray) (l : List ByteArray) (k : Nat) : ByteArray := p ++ cat (l.take k)
theorem accF_zero (p : ByteArray) (l : List ByteArray) : accF p l 0 = p := by simp [accF, cat]
theorem accF_succ (p : ByteArray) (l : List ByteArray) (k : Nat) (h : k < l.length) : accF p l (k + 1) = accF p l k ++ l[k] := by
  unfold accF; rw [cat_take l k h, ByteArray.append_assoc]
theorem accF_all (p : ByteArray) (l : List ByteArray) : accF p l l.length = p ++ cat l := by simp [accF]
theorem accF_le (p : ByteArray) (l : List ByteArray) (k : Nat) : (accF p l k).size ≤ p.size + (cat l).size := by
  unfold accF; rw [ByteArray.size_append]; have := cat_le l k; omega
theorem accF_room (p : ByteArray) (l : List ByteArray) (k : Nat) (h : k < l.length) (hs : p.size + (cat l).size ≤ 9223372036854775807) : (9223372036854775807 < (accF p l k).size + l[k].size) = False := by
  have h1 := accF_le p l (k + 1)
  rw [accF_succ p l k h, ByteArray.size_append] at h1
  simp; omega
theorem accF_map {α : Type} (f : α → ByteArray) (p : ByteArray) (l : List α) (k : Nat) (h : k < l.length) : accF p (l.map f) (k + 1) = accF p (l.map f) k ++ f l[k] := by
  have := accF_succ p (l.map f) k (by simpa using h)
  simpa using this
theorem accF_roomMap {α : Type} (f : α → ByteArray) (p : ByteArray) (l : List α) (k : Nat) (h : k < l.length) (hs : p.size + (cat (l.map f)).size ≤ 9223372036854775807) : (9223372036854775807 < (accF p (l.map f) k).size + (f l[k]).size) = False := by
  have := accF_room p (l.map f) k (by simpa using h) hs
  simpa using this
theorem cat_mem (l : List ByteArray) (k : Nat) (h : k < l.length) : l[k].size ≤ (cat l).size := by
  have h1 := cat_le l (k + 1)
  rw [cat_take l k h, ByteArray.size_append] at h1
  omega
theorem cat_memMap {α : Type} (f : α → ByteArray) (l : List α) (k : Nat) (h : k < l.length) : (f l[k]).size ≤ (cat (l.map f)).size := by
  have := cat_mem (l.map f) k (by simpa using h)
  simpa using this
end Go.Proofs.Ytpndbidpennlcaa
