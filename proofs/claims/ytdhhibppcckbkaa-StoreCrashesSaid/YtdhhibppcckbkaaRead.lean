import Derived.Test.YtdhhibppcckbkaaWire
namespace Go.Proofs.Ytdhhibppcckbkaa
open Go.RowKit
set_option linter.unusedVariables false
set_option linter.unusedSimpArgs false
/-! the reader -/
def Rd (w : World) (g : Nat) (b : ByteArray) (bad : Bool) : Prop := Blk w g #[.string b, .bool bad] 91
theorem Rd.c0 {w : World} {g : Nat} {b : ByteArray} {bad : Bool} (h : Rd w g b bad) : w.cell? ⟨g, 0, none⟩ = some (.string b) := Blk.cell h 0
theorem Rd.c1 {w : World} {g : Nat} {b : ByteArray} {bad : Bool} (h : Rd w g b bad) : w.cell? ⟨g, 1, none⟩ = some (.bool bad) := Blk.cell h 1
theorem Rd.f {w : World} {g : Nat} {b : ByteArray} {bad : Bool} (h : Rd w g b bad) (i : Nat) : w.frozen? ⟨g, i, none⟩ = false := Blk.frozen h i
theorem Rd.lt {w : World} {g : Nat} {b : ByteArray} {bad : Bool} (h : Rd w g b bad) : g < w.heap.size := Blk.lt h

/-- what is left, and whether it went wrong -/
structure St where
  b : ByteArray
  bad : Bool
def St.check (s : St) (ok : Bool) : St := ⟨s.b, s.bad || !ok⟩
def cutF (n : Int) (s : St) : ByteArray × St :=
  if s.bad = false ∧ 0 ≤ n ∧ n ≤ s.b.size then (s.b.extract 0 n.toNat, ⟨s.b.extract n.toNat s.b.size, false⟩) else (ByteArray.empty, ⟨s.b, true⟩)
/-- the number of bytes -/
def be (l : List UInt8) : Int := l.foldl (fun n c => n * 256 + (c.toNat : Int)) 0
def numR (lo hi : Int) (s : St) : Int × St :=
  let r := cutF 4 s
  let n := be r.1.data.toList
  if r.2.bad = false ∧ lo ≤ n ∧ n ≤ hi then (n, r.2) else (0, ⟨r.2.b, true⟩)
def textR (most : Int) (s : St) : ByteArray × St := let r := numR 0 most s; cutF r.1 r.2
def reqR (s : St) : Req × St :=
  let a := numR 0 3 s
  let b := numR 1 2147483647 a.2
  let c := textR 40 b.2
  (⟨a.1, b.1, c.1⟩, c.2)

set_option maxHeartbeats 400000 in
theorem check_call (g : Nat) (s : St) (ok : Bool) (w : World) (h : Rd w g s.b s.bad) :
    Calls Try.prog 74 #[.pointer (some ⟨g, 0, none⟩), .bool ok] w fun e w' => e = .returned (.tuple #[]) ∧ Rd w' g (s.check ok).b (s.check ok).bad ∧ Keep [g] w w' := by
  obtain ⟨b, bad⟩ := s
  have c1 := h.c1
  have f1 := h.f 1
  cases bad
  all_goals
    go_enter Try.func74, Try.ntmps74
    go_wp2
    go_end0
    exact ⟨rfl, Blk.set h 1 _, (Keep.refl _ _).setCell _ _ (by simp)⟩

set_option maxHeartbeats 400000 in
theorem cut_call (g : Nat) (s : St) (n : Int) (w : World) (h : Rd w g s.b s.bad) :
    Calls Try.prog 78 #[.pointer (some ⟨g, 0, none⟩), .int .i64 n] w fun e w' => e = .returned (.string (cutF n s).1) ∧ Rd w' g (cutF n s).2.b (cutF n s).2.bad ∧ Keep [g] w w' := by
  obtain ⟨b, bad⟩ := s
  have c0 := h.c0
  simp only at c0
  by_cases h0 : 0 ≤ n
  · have p0 : decide (0 ≤ n) = true := by simpa using h0
    obtain ⟨m, rfl⟩ := Int.eq_ofNat_of_zero_le h0
    by_cases h1 : (m : Int) ≤ b.size
    · have p1 : decide ((m : Int) ≤ b.size) = true := by simpa using h1
      cases bad
      · have HE : Hid (cutF (m : Int) ⟨b, false⟩ = (b.extract 0 m, ⟨b.extract m b.size, false⟩)) := Lib.hid (by unfold cutF; rw [if_pos ⟨rfl, h0, h1⟩]; simp)
        generalize cutF (m : Int) ⟨b, false⟩ = out at *
        go_enter Try.func78, Try.ntmps78
        go_wp2_with fail
        refine (check_call g ⟨b, false⟩ true _ h).mono ?_
        rintro e w1 ⟨rfl, r1, k1⟩
        simp only [St.check] at r1
        have c01 := r1.c0
        have c11 := r1.c1
        have f01 := r1.f 0
        go_wp2
        go_ret
        rw [HE.out]
        exact ⟨rfl, Blk.set r1 0 _, k1.setCell _ _ (by simp)⟩
      · have HE : Hid (cutF (m : Int) ⟨b, true⟩ = (ByteArray.empty, ⟨b, true⟩)) := Lib.hid (by unfold cutF; rw [if_neg (by simp)])
        generalize cutF (m : Int) ⟨b, true⟩ = out at *
        go_enter Try.func78, Try.ntmps78
        go_wp2_with fail
        refine (check_call g ⟨b, true⟩ true _ h).mono ?_
        rintro e w1 ⟨rfl, r1, k1⟩
        simp only [St.check] at r1
        have c11 := r1.c1
        go_wp2
        go_ret
        rw [HE.out]
        exact ⟨rfl, r1, k1⟩
    · have p1 : decide ((m : Int) ≤ b.size) = false := by simpa using h1
      have HE : Hid (cutF (m : Int) ⟨b, bad⟩ = (ByteArray.empty, ⟨b, true⟩)) := Lib.hid (by unfold cutF; rw [if_neg (fun h => h1 h.2.2)])
      generalize cutF (m : Int) ⟨b, bad⟩ = out at *
      have h2 : (b.size : Int) < m := by omega
      have p2 : decide (m ≤ b.size) = false := by simp; omega
      clear h1
      go_enter Try.func78, Try.ntmps78
      go_wp2_with fail
      refine (check_call g ⟨b, bad⟩ false _ h).mono ?_
      rintro e w1 ⟨rfl, r1, k1⟩
      simp only [St.check, Bool.not_false, Bool.or_true] at r1
      have c11 := r1.c1
      go_wp2
      go_ret
      rw [HE.out]
      exact ⟨rfl, r1, k1⟩
  · have p0 : decide (0 ≤ n) = false := by simpa using h0
    have HE : Hid (cutF n ⟨b, bad⟩ = (ByteArray.empty, ⟨b, true⟩)) := Lib.hid (by unfold cutF; rw [if_neg (fun h => h0 h.2.1)])
    generalize cutF n ⟨b, bad⟩ = out at *
    clear h0
    go_enter Try.func78, Try.ntmps78
    go_wp2_with fail
    refine (check_call g ⟨b, bad⟩ false _ h).mono ?_
    rintro e w1 ⟨rfl, r1, k1⟩
    simp only [St.check, Bool.not_false, Bool.or_true] at r1
    have c11 := r1.c1
    go_wp2
    go_ret
    rw [HE.out]
    exact ⟨rfl, r1, k1⟩
theorem be_snoc (l : List UInt8) (c : UInt8) : be (l ++ [c]) = be l * 256 + (c.toNat : Int) := by simp [be]
theorem be_bound (l : List UInt8) : ∀ n : Nat, l.length ≤ n → 0 ≤ be l ∧ be l < 256 ^ n := by
  suffices H : ∀ (n : Nat) (l : List UInt8), l.length ≤ n → 0 ≤ be l ∧ be l < 256 ^ n from fun n => H n l
  intro n
  induction n with
  | zero =>
    intro l hl
    obtain rfl : l = [] := List.eq_nil_of_length_eq_zero (by omega)
    simp [be]
  | succ n ih =>
    intro l hl
    rcases List.eq_nil_or_concat l with rfl | ⟨l', c, rfl⟩
    · simp only [be, List.foldl_nil]
      exact ⟨by omega, by have : (0 : Int) < 256 ^ (n + 1) := Int.pow_pos (by omega); omega⟩
    · have h := ih l' (by simp at hl; omega)
      rw [List.concat_eq_append, be_snoc]
      have := c.toNat_lt
      have e : (256 : Int) ^ (n + 1) = 256 ^ n * 256 := by rw [Int.pow_succ]
      omega
theorem cutF_len (n : Nat) (s : St) : (cutF n s).1.size ≤ n := by
  unfold cutF; split
  · simp [ByteArray.size_extract]; omega
  · simp
theorem be_take (t : ByteArray) (k : Nat) (h : k < t.size) : be (t.data.toList.take (k + 1)) = be (t.data.toList.take k) * 256 + ((t.data[k]'h).toNat : Int) := by
  rw [List.take_succ_eq_append_getElem (by simpa using h), be_snoc]; rfl
theorem or_byte (x : Int) (c : Nat) (h0 : 0 ≤ x) (h1 : x < 256 ^ 3) (h2 : c < 256) : bits .or .i64 (x * 256) (wrap64 c) = x * 256 + c := by
  obtain ⟨n, rfl⟩ := Int.eq_ofNat_of_zero_le h0
  have hn : n < 16777216 := by omega
  have hw : wrap64 (c : Int) = (c : Int) := by unfold wrap64; omega
  have e : (n : Int) * 256 = ((n * 256 : Nat) : Int) := by omega
  rw [hw, e]
  have h3 : (BitVec.ofInt 64 ((n * 256 : Nat) : Int)).toNat = n * 256 := by
    rw [BitVec.ofInt_natCast, BitVec.toNat_ofNat]; exact Nat.mod_eq_of_lt (by omega)
  have h4 : (BitVec.ofInt 64 (c : Int)).toNat = c := by
    rw [BitVec.ofInt_natCast, BitVec.toNat_ofNat]; exact Nat.mod_eq_of_lt (by omega)
  have h5 : n * 256 ||| c = n * 256 + c := by
    have := Nat.shiftLeft_add_eq_or_of_lt (i := 8) (b := c) (by omega) n
    rw [Nat.shiftLeft_eq] at this
    exact this.symm
  show IntKind.i64.wrap ((BitVec.ofInt 64 ((n * 256 : Nat) : Int) ||| BitVec.ofInt 64 (c : Int)).toNat : Int) = _
  rw [BitVec.toNat_or, h3, h4, h5, IntKind.wrap_i64]
  omega
set_option maxHeartbeats 1000000 in
theorem numR_call (g : Nat) (s : St) (lo hi : Int) (w : World) (h : Rd w g s.b s.bad) (h1 : I64 lo) (h2 : I64 hi) :
    Calls Try.prog 72 #[.pointer (some ⟨g, 0, none⟩), .int .i64 lo, .int .i64 hi] w fun e w' => e = .returned (.int .i64 (numR lo hi s).1) ∧ Rd w' g (numR lo hi s).2.b (numR lo hi s).2.bad ∧ Keep [g] w w' := by
  obtain ⟨l1, l2⟩ := h1
  obtain ⟨u1, u2⟩ := h2
  have hlen := cutF_len 4 s
  simp only [Int.cast_ofNat_Int] at hlen
  have HE : Hid (numR lo hi s = if (cutF 4 s).2.bad = false ∧ lo ≤ be (cutF 4 s).1.data.toList ∧ be (cutF 4 s).1.data.toList ≤ hi then (be (cutF 4 s).1.data.toList, (cutF 4 s).2) else (0, ⟨(cutF 4 s).2.b, true⟩)) := Lib.hid rfl
  generalize numR lo hi s = out at *
  go_enter Try.func72, Try.ntmps72
  go_wp2_with fail
  refine (cut_call g s 4 _ h).mono ?_
  rintro e w1 ⟨rfl, r1, k1⟩
  generalize cutF 4 s = cs at *
  obtain ⟨t, b1, bad1⟩ := cs
  dsimp only at hlen HE r1 ⊢
  obtain ⟨w2, c, hcv, k2, hcell⟩ := conv_bytes w1 t
  go_wp2
  go_loop [7, 14] (fun n i => ∃ k : Nat, k ≤ t.size ∧ i = .int .i64 k ∧ n = .int .i64 (be (t.data.toList.take k))) (fun _ i => t.size - (intOf i).toNat)
  case atStart => exact ⟨0, Nat.zero_le _, rfl, rfl⟩
  case round =>
    obtain ⟨k, hk, rfl, rfl⟩ := hrel
    by_cases hlt : k < t.size
    · have hc := hcell k hlt
      have hb := be_bound (t.data.toList.take k) 3 (by simp; omega)
      have HS := Lib.hid (be_take t k hlt)
      have HO := Lib.hid (or_byte (be (t.data.toList.take k)) t.data[k].toNat hb.1 hb.2 (t.data[k].toNat_lt))
      go_wp2
      go_round
      case rel => exact ⟨k + 1, by omega, by go_num, by rw [HS.out, HO.out]⟩
      case measure => simp [intOf]; omega
    · have hk' : k = t.size := by omega
      subst hk'
      have ht : be (t.data.toList.take t.size) = be t.data.toList := by rw [List.take_of_length_le (by simp)]
      rw [ht]
      clear ht
      have hb := be_bound t.data.toList 4 (by simp; omega)
      generalize be t.data.toList = n at *
      clear hcell hcv
      by_cases a : lo ≤ n
      · by_cases b : n ≤ hi
        · cases bad1
          · have HE2 := Lib.hid (HE.out.trans (if_pos ⟨rfl, a, b⟩))
            go_wp2_with fail
            refine (check_call g ⟨b1, false⟩ true _ (Blk.keep r1 k2 (by simp))).mono ?_
            rintro e w3 ⟨rfl, r3, k3⟩
            have c3 := r3.c1
            go_wp2
            go_ret
            rw [HE2.out]
            exact ⟨rfl, r3, (k1.trans (k2.mono (by simp))).trans k3⟩
          · have HE2 := Lib.hid (HE.out.trans (if_neg (by simp)))
            go_wp2_with fail
            refine (check_call g ⟨b1, true⟩ true _ (Blk.keep r1 k2 (by simp))).mono ?_
            rintro e w3 ⟨rfl, r3, k3⟩
            have c3 := r3.c1
            go_wp2
            go_ret
            rw [HE2.out]
            exact ⟨rfl, r3, (k1.trans (k2.mono (by simp))).trans k3⟩
        · have b2 : hi < n := by omega
          have b3 : decide (n ≤ hi) = false := by simp; omega
          have HE2 := Lib.hid (HE.out.trans (if_neg (fun h => b h.2.2)))
          clear b
          go_wp2_with fail
          refine (check_call g ⟨b1, bad1⟩ false _ (Blk.keep r1 k2 (by simp))).mono ?_
          rintro e w3 ⟨rfl, r3, k3⟩
          simp only [St.check, Bool.not_false, Bool.or_true] at r3
          have c3 := r3.c1
          go_wp2
          go_ret
          rw [HE2.out]
          exact ⟨rfl, r3, (k1.trans (k2.mono (by simp))).trans k3⟩
      · have a2 : n < lo := by omega
        have a3 : decide (lo ≤ n) = false := by simp; omega
        have HE2 := Lib.hid (HE.out.trans (if_neg (fun h => a h.2.1)))
        clear a
        go_wp2_with fail
        refine (check_call g ⟨b1, bad1⟩ false _ (Blk.keep r1 k2 (by simp))).mono ?_
        rintro e w3 ⟨rfl, r3, k3⟩
        simp only [St.check, Bool.not_false, Bool.or_true] at r3
        have c3 := r3.c1
        go_wp2
        go_ret
        rw [HE2.out]
        exact ⟨rfl, r3, (k1.trans (k2.mono (by simp))).trans k3⟩
end Go.Proofs.Ytdhhibppcckbkaa
