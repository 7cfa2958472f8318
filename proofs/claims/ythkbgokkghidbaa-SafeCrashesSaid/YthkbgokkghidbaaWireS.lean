import Derived.Test.YthkbgokkghidbaaBase
import Derived.Lib.ConvBytes
namespace Go.Proofs.Ythkbgokkghidbaa
open Go.RowKit
set_option linter.unusedVariables false
set_option linter.unusedSimpArgs false
/-! wire's numbers and texts, the reference's; the number of bytes -/
theorem conv4 (x0 x1 x2 x3 : Int) (w : World) : (convert 60 9 (.slice (some ⟨w.heap.size, 0, none⟩) 4 4)).run Try.prog (w.alloc (.cells #[.int .u8 x0, .int .u8 x1, .int .u8 x2, .int .u8 x3] 5)) =
    .ok (.string (strOfNums [x0, x1, x2, x3])) (w.alloc (.cells #[.int .u8 x0, .int .u8 x1, .int .u8 x2, .int .u8 x3] 5)) := by
  refine run_convert_bytes_arg _ 60 5 Try.underlying60 Try.underlying5 w.heap.size 0 4 4 [x0, x1, x2, x3] rfl (fun i hi => ?_) 9 Try.underlying9
  have hb := Blk.new w #[.int .u8 x0, .int .u8 x1, .int .u8 x2, .int .u8 x3] 5
  have hc := hb.cell (0 + i)
  have : i = 0 ∨ i = 1 ∨ i = 2 ∨ i = 3 := by omega
  rcases this with rfl | rfl | rfl | rfl <;> (simp at hc ⊢; try exact hc)
theorem conv_bytes (w : World) (s : ByteArray) : ∃ w2 c, (convert 9 60 (.string s)).run Try.prog w = .ok (.slice (some ⟨w.heap.size, 0, none⟩) s.size c) w2 ∧ Keep [] w w2 ∧
    ∀ j, j < s.size → w2.cell? ⟨w.heap.size, j, none⟩ = some (.int .u8 (s.data.toList.getD j 0).toNat) :=
  ⟨_, _, Lib.run_convert_string_bytes w 9 60 5 s Try.underlying9 Try.underlying60 Try.underlying5,
    ⟨by simp [Lib.bytesWorld, World.freeze, World.alloc, World.drew, -World.alloc_eq, -World.drew_eq], by simp [Lib.bytesWorld, World.freeze, World.alloc, World.drew, -World.alloc_eq, -World.drew_eq], by simp [Lib.bytesWorld, World.freeze, World.alloc, World.drew, -World.alloc_eq, -World.drew_eq], by rw [Lib.bytesWorld_size]; omega, fun k hk _ => Lib.bytesWorld_at_old w 5 s k hk⟩, fun j hj => Lib.bytesWorld_cell w 5 s j hj⟩
def numF (n : Int) : ByteArray := if 0 ≤ n ∧ n ≤ 2147483647 then strOfNums [n / 16777216, n / 65536 % 256, n / 256 % 256, n % 256] else strOfNums [0, 0, 0, 0]
theorem numF_size (n : Int) : (numF n).size = 4 := by unfold numF; split <;> rfl
def textF (s : ByteArray) : ByteArray := numF s.size ++ s
set_option maxHeartbeats 400000 in
theorem number_call (n : Int) (w : World) :
    Calls Try.prog 29 #[.int .i64 n] w fun e w' => e = .returned (.string (numF n)) ∧ Keep [] w w' := by
  have hc := fun x0 x1 x2 x3 => conv4 x0 x1 x2 x3 w
  by_cases h : 0 ≤ n ∧ n ≤ 2147483647
  · have hf : numF n = strOfNums [n / 16777216, n / 65536 % 256, n / 256 % 256, n % 256] := if_pos h
    obtain ⟨h0, h1⟩ := h
    have HF := Lib.hid hf
    clear hf
    have c1 : decide (n < 0) = false := by simp; omega
    have c2 : decide (2147483647 < n) = false := by simp; omega
    go_enter Try.func29, Try.ntmps29
    go_wp2
    go_ret
    exact ⟨by rw [HF.out]; rfl, (Keep.refl _ _).alloc _⟩
  · have hf : numF n = strOfNums [0, 0, 0, 0] := if_neg h
    have HF := Lib.hid hf
    clear hf
    by_cases h0 : n < 0
    · clear h
      have c1 : decide (n < 0) = true := by simp; omega
      go_enter Try.func29, Try.ntmps29
      go_wp2
      go_ret
      exact ⟨by rw [HF.out]; rfl, (Keep.refl _ _).alloc _⟩
    · have h1 : 2147483647 < n := by omega
      clear h
      have c1 : decide (n < 0) = false := by simp; omega
      have c2 : decide (2147483647 < n) = true := by simp; omega
      go_enter Try.func29, Try.ntmps29
      go_wp2
      go_ret
      exact ⟨by rw [HF.out]; rfl, (Keep.refl _ _).alloc _⟩
theorem text_call (s : ByteArray) (w : World) (hs : s.size ≤ 4611686018427387904) :
    Calls Try.prog 26 #[.string s] w fun e w' => e = .returned (.string (textF s)) ∧ Keep [] w w' := by
  have z1 := numF_size s.size
  have q1 : (9223372036854775807 < (numF s.size).size + s.size) = False := by simp; omega
  clear z1
  go_enter Try.func26, Try.ntmps26
  go_wp2_with fail
  refine (number_call _ _).mono ?_
  rintro e w1 ⟨rfl, k1⟩
  go_wp2
  go_ret
  exact ⟨rfl, k1⟩
theorem strOf_congr {l m : List Int} (h : l = m) : strOfNums l = strOfNums m := by rw [h]
set_option maxHeartbeats 400000 in
theorem rnumber_call (n : Int) (w : World) (hn : I64 n) :
    Calls Try.prog 28 #[.int .i64 n] w fun e w' => e = .returned (.string (numF n)) ∧ Keep [] w w' := by
  obtain ⟨hn1, hn2⟩ := hn
  have hc := fun x0 x1 x2 x3 => conv4 x0 x1 x2 x3 w
  by_cases h : 0 ≤ n ∧ n ≤ 2147483647
  · have hf : numF n = strOfNums [n / 16777216, n / 65536 % 256, n / 256 % 256, n % 256] := if_pos h
    obtain ⟨h0, h1⟩ := h
    have HF := Lib.hid hf
    clear hf
    have c1 : decide (n < 0) = false := by simp; omega
    have c2 : decide (2147483647 < n) = false := by simp; omega
    go_enter Try.func28, Try.ntmps28
    go_wp2
    go_ret
    refine ⟨?_, (Keep.refl _ _).alloc _⟩
    rw [HF.out]
    simp
  · have hf : numF n = strOfNums [0, 0, 0, 0] := if_neg h
    have HF := Lib.hid hf
    clear hf
    by_cases h0 : n < 0
    · clear h
      have c1 : decide (n < 0) = true := by simp; omega
      go_enter Try.func28, Try.ntmps28
      go_wp2
      go_ret
      exact ⟨by rw [HF.out]; rfl, (Keep.refl _ _).alloc _⟩
    · have h1 : 2147483647 < n := by omega
      clear h
      have c1 : decide (n < 0) = false := by simp; omega
      have c2 : decide (2147483647 < n) = true := by simp; omega
      go_enter Try.func28, Try.ntmps28
      go_wp2
      go_ret
      exact ⟨by rw [HF.out]; rfl, (Keep.refl _ _).alloc _⟩
theorem rtext_call (s : ByteArray) (w : World) (hs : s.size ≤ 4611686018427387904) :
    Calls Try.prog 24 #[.string s] w fun e w' => e = .returned (.string (textF s)) ∧ Keep [] w w' := by
  have z1 := numF_size s.size
  have q1 : (9223372036854775807 < (numF s.size).size + s.size) = False := by simp; omega
  clear z1
  go_enter Try.func24, Try.ntmps24
  go_wp2_with fail
  refine (rnumber_call _ _ (by unfold I64; omega)).mono ?_
  rintro e w1 ⟨rfl, k1⟩
  go_wp2
  go_ret
  exact ⟨rfl, k1⟩
/-- the number of bytes -/
def be (l : List UInt8) : Int := l.foldl (fun n c => n * 256 + (c.toNat : Int)) 0
theorem be_snoc (l : List UInt8) (c : UInt8) : be (l ++ [c]) = be l * 256 + (c.toNat : Int) := by simp [be]
theorem be_bound (l : List UInt8) : ∀ n : Nat, l.length ≤ n → 0 ≤ be l ∧ be l < 256 ^ n := by
  suffices H : ∀ (n : Nat) (l : List UInt8), l.length ≤ n → 0 ≤ be l ∧ be l < 256 ^ n from fun n => H n l
  intro n
  induction n with
  | zero =>
    intro l hl
    obtain rfl : l = [] := List.eq_nil_of_length_eq_zero (by omega)
    simp [be]
  | succ n ih =>
    intro l hl
    rcases List.eq_nil_or_concat l with rfl | ⟨l', c, rfl⟩
    · simp only [be, List.foldl_nil]
      exact ⟨by omega, by have : (0 : Int) < 256 ^ (n + 1) := Int.pow_pos (by omega); omega⟩
    · have h := ih l' (by simp at hl; omega)
      rw [List.concat_eq_append, be_snoc]
      have := c.toNat_lt
      have e : (256 : Int) ^ (n + 1) = 256 ^ n * 256 := by rw [Int.pow_succ]
      omega
theorem be_take (t : ByteArray) (k : Nat) (h : k < t.size) : be (t.data.toList.take (k + 1)) = be (t.data.toList.take k) * 256 + ((t.data[k]'h).toNat : Int) := by
  rw [List.take_succ_eq_append_getElem (by simpa using h), be_snoc]; rfl
theorem or_byte (x : Int) (c : Nat) (h0 : 0 ≤ x) (h1 : x < 256 ^ 3) (h2 : c < 256) : bits .or .i64 (x * 256) (wrap64 c) = x * 256 + c := by
  obtain ⟨n, rfl⟩ := Int.eq_ofNat_of_zero_le h0
  have hn : n < 16777216 := by omega
  have hw : wrap64 (c : Int) = (c : Int) := by unfold wrap64; omega
  have e : (n : Int) * 256 = ((n * 256 : Nat) : Int) := by omega
  rw [hw, e]
  have h3 : (BitVec.ofInt 64 ((n * 256 : Nat) : Int)).toNat = n * 256 := by
    rw [BitVec.ofInt_natCast, BitVec.toNat_ofNat]; exact Nat.mod_eq_of_lt (by omega)
  have h4 : (BitVec.ofInt 64 (c : Int)).toNat = c := by
    rw [BitVec.ofInt_natCast, BitVec.toNat_ofNat]; exact Nat.mod_eq_of_lt (by omega)
  have h5 : n * 256 ||| c = n * 256 + c := by
    have := Nat.shiftLeft_add_eq_or_of_lt (i := 8) (b := c) (by omega) n
    rw [Nat.shiftLeft_eq] at this
    exact this.symm
  show IntKind.i64.wrap ((BitVec.ofInt 64 ((n * 256 : Nat) : Int) ||| BitVec.ofInt 64 (c : Int)).toNat : Int) = _
  rw [BitVec.toNat_or, h3, h4, h5, IntKind.wrap_i64]
  omega
end Go.Proofs.Ythkbgokkghidbaa
