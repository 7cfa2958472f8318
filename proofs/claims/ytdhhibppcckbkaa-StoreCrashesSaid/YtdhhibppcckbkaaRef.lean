import Derived.Test.YtdhhibppcckbkaaWire
namespace Go.Proofs.Ytdhhibppcckbkaa
open Go.RowKit
set_option linter.unusedVariables false
set_option linter.unusedSimpArgs false
/-! the reference's texts -/
theorem strOf_congr {l m : List Int} (h : l = m) : strOfNums l = strOfNums m := by rw [h]
set_option maxHeartbeats 400000 in
theorem rnumber_call (n : Int) (w : World) (hn : I64 n) :
    Calls Try.prog 34 #[.int .i64 n] w fun e w' => e = .returned (.string (numF n)) ∧ Keep [] w w' := by
  obtain ⟨hn1, hn2⟩ := hn
  have hc := fun x0 x1 x2 x3 => conv4 x0 x1 x2 x3 w
  by_cases h : 0 ≤ n ∧ n ≤ 2147483647
  · have hf : numF n = strOfNums [n / 16777216, n / 65536 % 256, n / 256 % 256, n % 256] := if_pos h
    obtain ⟨h0, h1⟩ := h
    have HF := Lib.hid hf
    clear hf
    have c1 : decide (n < 0) = false := by simp; omega
    have c2 : decide (2147483647 < n) = false := by simp; omega
    go_enter Try.func34, Try.ntmps34
    go_wp2
    go_ret
    refine ⟨?_, (Keep.refl _ _).alloc _⟩
    rw [HF.out]
    simp
  · have hf : numF n = strOfNums [0, 0, 0, 0] := if_neg h
    have HF := Lib.hid hf
    clear hf
    by_cases h0 : n < 0
    · clear h
      have c1 : decide (n < 0) = true := by simp; omega
      go_enter Try.func34, Try.ntmps34
      go_wp2
      go_ret
      exact ⟨by rw [HF.out]; rfl, (Keep.refl _ _).alloc _⟩
    · have h1 : 2147483647 < n := by omega
      clear h
      have c1 : decide (n < 0) = false := by simp; omega
      have c2 : decide (2147483647 < n) = true := by simp; omega
      go_enter Try.func34, Try.ntmps34
      go_wp2
      go_ret
      exact ⟨by rw [HF.out]; rfl, (Keep.refl _ _).alloc _⟩
def rightReq (r : Req) : Bool := decide (0 ≤ r.c) && decide (r.c < 4) && decide (1 ≤ r.s) && decide (r.s ≤ 2147483647) && decide ((r.b.size : Int) ≤ 40)
set_option maxHeartbeats 400000 in
theorem rightReq_call (r : Req) (w : World) :
    Calls Try.prog 67 #[.agg #[.int .i64 r.c, .int .i64 r.s, .string r.b]] w fun e w' => e = .returned (.bool (rightReq r)) ∧ Keep [] w w' := by
  obtain ⟨c, s, b⟩ := r
  dsimp only
  have HE : Hid (rightReq ⟨c, s, b⟩ = (decide (0 ≤ c) && decide (c < 4) && decide (1 ≤ s) && decide (s ≤ 2147483647) && decide ((b.size : Int) ≤ 40))) := Lib.hid rfl
  generalize rightReq ⟨c, s, b⟩ = out at *
  go_enter Try.func67, Try.ntmps67
  go_wp2
  all_goals
    go_ret
    refine ⟨?_, (Keep.refl _ _).alloc _⟩
    rw [HE.out]
    (simp [*]; try omega)
theorem rtext_call (s : ByteArray) (w : World) (hs : s.size ≤ 4611686018427387904) :
    Calls Try.prog 14 #[.string s] w fun e w' => e = .returned (.string (textF s)) ∧ Keep [] w w' := by
  have z1 := numF_size s.size
  have q1 : (9223372036854775807 < (numF s.size).size + s.size) = False := by simp; omega
  clear z1
  go_enter Try.func14, Try.ntmps14
  go_wp2_with fail
  refine (rnumber_call _ _ (by unfold I64; omega)).mono ?_
  rintro e w1 ⟨rfl, k1⟩
  go_wp2
  go_ret
  exact ⟨rfl, k1⟩
set_option maxHeartbeats 400000 in
theorem rrequest_call (r : Req) (w : World) (hc : I64 r.c) (hs2 : I64 r.s) (hs : r.b.size ≤ 4611686018427387904) :
    Calls Try.prog 71 #[.agg #[.int .i64 r.c, .int .i64 r.s, .string r.b]] w fun e w' => e = .returned (.string (reqF r)) ∧ Keep [] w w' := by
  obtain ⟨c, s, b⟩ := r
  have z1 := numF_size c
  have z2 := numF_size s
  have z3 : (textF b).size = 4 + b.size := by unfold textF; rw [ByteArray.size_append, numF_size]
  simp only at hs hc hs2
  have q1 : (9223372036854775807 < (numF c).size + (numF s).size) = False := by simp; omega
  have q2 : (9223372036854775807 < (numF c).size + (numF s).size + (textF b).size) = False := by simp; omega
  clear z1 z2 z3
  dsimp only [reqF]
  go_enter Try.func71, Try.ntmps71
  go_wp2_with fail
  go_region_held3 (fun w' => Keep [] w w' ∧ w'.cell? ⟨w.heap.size, 0, none⟩ = some (.int .i64 c) ∧ w'.cell? ⟨w.heap.size, 1, none⟩ = some (.int .i64 s) ∧ w'.cell? ⟨w.heap.size, 2, none⟩ = some (.string b))
    (first
      | (refine ⟨((Keep.refl _ _).alloc _).drew, ?_⟩; go_keep)
      | (go_split_ands; (refine ⟨Keep.trans ‹Keep [] w _› ‹Keep [] _ _›, ?_, ?_, ?_⟩ <;> first | assumption | exact Keep.cell ‹Keep [] _ _› (by simp) ‹_›)))
    (first
      | (go_at_call 34; refine (rnumber_call _ _ (by assumption)).mono ?_; rintro e w' ⟨rfl, kq⟩)
      | (go_at_call 14; refine (rtext_call _ _ hs).mono ?_; rintro e w' ⟨rfl, kq⟩))
  go_wp2
  go_ret
  exact ⟨rfl, (‹Keep [] w _ ∧ _›).1⟩
end Go.Proofs.Ytdhhibppcckbkaa
