import Derived.Test.YtbhpkknlpjdcaaaNet4
namespace Go.Proofs.Ytbhpkknlpjdcaaa
open Go.RowKit
set_option linter.unusedVariables false
set_option linter.unusedSimpArgs false
/-! net: NetFull -/
def NL (w0 w : World) (n a : Nat) (s : Int) : Prop := ∃ xs, xs.length = a ∧ NP w0 w [] n xs s
theorem NL.inject {w0 w : World} {n a : Nat} {s : Int} (h : NL w0 w n a s) (b : ByteArray) (hb : b.size = 1) (ha : a < 2000) :
    Calls Try.prog 17 #[.pointer (some ⟨n, 0, none⟩), .string b] w fun e w' => e = .returned (.bool true) ∧ NL w0 w' n (a + 1) s := by
  obtain ⟨xs, rfl, h⟩ := h
  have e : injF b xs = true := by unfold injF; simp [hb, ha]
  refine (h.inject b (by rw [hb]; unfold M47; decide)).mono ?_
  rw [e]
  rintro e w' ⟨rfl, q⟩
  exact ⟨rfl, _, by simp, q⟩
theorem NL.injectF {w0 w : World} {n a : Nat} {s : Int} (h : NL w0 w n a s) (b : ByteArray) (hb : b.size = 1) (ha : 2000 ≤ a) :
    Calls Try.prog 17 #[.pointer (some ⟨n, 0, none⟩), .string b] w fun e w' => e = .returned (.bool false) ∧ NL w0 w' n a s := by
  obtain ⟨xs, rfl, h⟩ := h
  have e : injF b xs = false := by unfold injF; simp [hb]; omega
  refine (h.inject b (by rw [hb]; unfold M47; decide)).mono ?_
  rw [e]
  rintro e w' ⟨rfl, q⟩
  exact ⟨rfl, _, rfl, by simpa using q⟩
theorem NL.put {w0 W : World} {n a : Nat} {s : Int} (h : NL w0 W n a s) (hs : 0 ≤ s ∧ s ≤ 1000000) (ha : a < 2000) :
    Calls Try.prog 11 #[.pointer (some ⟨n, 0, none⟩), .slice (some ⟨W.heap.size, 0, none⟩) 1 1] (W.alloc (.cells (msgV (mK 6 0 0) nilV nilV nilV nilV) 39)) fun e w' =>
      e = .returned (.int .i64 1) ∧ NL w0 w' n (a + 1) (s + 1) := by
  obtain ⟨xs, rfl, h⟩ := h
  refine (nput6 h hs).mono ?_
  have e : one6 xs = 1 := if_pos ha
  have e2 : addN xs (msgF (mK 6 0 0)) = xs ++ [msgF (mK 6 0 0)] := if_pos ha
  rw [e, e2]
  rintro e w' ⟨rfl, q⟩
  exact ⟨rfl, _, by simp, q⟩
theorem NL.putF {w0 W : World} {n a : Nat} {s : Int} (h : NL w0 W n a s) (hs : 0 ≤ s ∧ s ≤ 1000000) (ha : 2000 ≤ a) :
    Calls Try.prog 11 #[.pointer (some ⟨n, 0, none⟩), .slice (some ⟨W.heap.size, 0, none⟩) 1 1] (W.alloc (.cells (msgV (mK 6 0 0) nilV nilV nilV nilV) 39)) fun e w' =>
      e = .returned (.int .i64 0) ∧ NL w0 w' n a s := by
  obtain ⟨xs, rfl, h⟩ := h
  refine (nput6 h hs).mono ?_
  have e : one6 xs = 0 := if_neg (by omega)
  have e2 : addN xs (msgF (mK 6 0 0)) = xs := if_neg (by omega)
  rw [e, e2]
  rintro e w' ⟨rfl, q⟩
  exact ⟨rfl, _, rfl, by simpa using q⟩
theorem NL.take {w0 w : World} {n a : Nat} {s : Int} (h : NL w0 w n a s) (i : Int) (ha : 0 < a) (ha2 : a ≤ 2000) :
    Calls Try.prog 12 #[.pointer (some ⟨n, 0, none⟩), .int .i64 i] w fun e w' => ∃ b, e = .returned (.tuple #[.string b, .bool true]) ∧ NL w0 w' n (a - 1) s := by
  obtain ⟨xs, rfl, h⟩ := h
  have hlt := atF_lt i xs.length ha
  refine (h.take i (atF i xs.length) xs[atF i xs.length] rfl (List.getElem?_eq_getElem hlt) ha2).mono ?_
  rintro e w' ⟨rfl, q⟩
  exact ⟨_, rfl, _, by rw [List.length_eraseIdx, if_pos hlt], q⟩
theorem NL.twiceF {w0 w : World} {n a : Nat} {s : Int} (h : NL w0 w n a s) (i : Int) (ha : a = 2000) :
    Calls Try.prog 16 #[.pointer (some ⟨n, 0, none⟩), .int .i64 i] w fun e w' => e = .returned (.bool false) ∧ NL w0 w' n a s := by
  obtain ⟨xs, rfl, h⟩ := h
  have hlt := atF_lt i xs.length (by omega)
  refine (h.twice i (atF i xs.length) xs[atF i xs.length] rfl (List.getElem?_eq_getElem hlt) (by omega)).mono ?_
  rw [show decide (xs.length < 2000) = false by rw [decide_eq_false_iff_not]; omega, show addN xs xs[atF i xs.length] = xs from if_neg (by omega)]
  rintro e w' ⟨rfl, q⟩
  exact ⟨rfl, _, rfl, q⟩
theorem NL.len {w0 w : World} {n a : Nat} {s : Int} (h : NL w0 w n a s) :
    Calls Try.prog 13 #[.pointer (some ⟨n, 0, none⟩)] w fun e w' => e = .returned (.int .i64 (a : Nat)) ∧ w = w' := by
  obtain ⟨xs, rfl, h⟩ := h
  exact h.len
theorem NL.sent {w0 w : World} {n a : Nat} {s : Int} (h : NL w0 w n a s) :
    Calls Try.prog 18 #[.pointer (some ⟨n, 0, none⟩)] w fun e w' => e = .returned (.int .i64 s) ∧ w = w' := by
  obtain ⟨xs, rfl, h⟩ := h
  exact h.sent
theorem NL.kept {w0 w : World} {n a : Nat} {s : Int} (h : NL w0 w n a s) : Keep [] w0 w := by
  obtain ⟨xs, rfl, h⟩ := h
  exact h.kept
set_option maxHeartbeats 4000000 in
theorem netFull_call (m : Int) (w : World) (hm : 0 ≤ m ∧ m ≤ 255) :
    Calls Try.prog 5 #[.int .u8 m] w fun e w' => e = .returned (.bool true) ∧ Keep [] w w' := by
  obtain ⟨m, rfl⟩ := Int.eq_ofNat_of_zero_le hm.1
  have hm2 : m ≤ 255 := by omega
  clear hm
  go_enter Try.func5, Try.ntmps5
  go_wp2_with fail
  refine (nawake_call _).mono ?_
  rintro e w1 ⟨rfl, k1⟩
  go_wp2_with fail
  refine (nnew_NP w _ k1).mono ?_
  rintro e w2 ⟨n, rfl, h2⟩
  replace h2 : Hid (NL w w2 n 0 0) := Lib.hid ⟨_, rfl, h2⟩
  clear k1
  go_wp2_with fail
  go_loopw [4] (fun i wr => ∃ j : Nat, j ≤ 2000 ∧ i = .int .i64 (j : Int) ∧ Hid (NL w wr n j 0)) (fun i _ => 2000 - (intOf i).toNat)
  case atStart => exact ⟨0, Nat.zero_le _, rfl, h2⟩
  case round =>
    obtain ⟨j, hj, rfl, hQ⟩ := hrel
    by_cases hlt : j < 2000
    · have hltz : (j : Int) < 2000 := by omega
      have hP := Lib.hid (hQ.out.inject ⟨#[120]⟩ rfl hlt)
      go_wp2_with fail
      refine hP.out.mono ?_
      rintro e w5 ⟨rfl, h5⟩
      replace h5 := Lib.hid h5
      go_wp2
      go_roundw
      case rel => exact ⟨j + 1, by omega, by go_num, h5⟩
      case measure => simp [intOf]; omega
    · have hltz : ¬ (j : Int) < 2000 := by omega
      obtain rfl : j = 2000 := by omega
      clear h2
      have hP := Lib.hid (hQ.out.injectF ⟨#[121]⟩ rfl (Nat.le_refl _))
      go_wp2_with fail
      refine hP.out.mono ?_
      rintro e w3 ⟨rfl, h3⟩
      clear hQ hP
      replace h3 := Lib.hid h3
      go_wp2_with (first | ((with_reducible refine wl_build 39 _ ?_ ?_); (with_reducible rfl); refine sy_build rfl 39 _ rfl (msgV (mK 6 0 0) nilV nilV nilV nilV) (by kernel_rfl) ?_; (try simp only [Act.put, List.setIfInBounds_toArray, List.set_cons_zero, List.set_cons_succ])))
      refine (h3.out.putF (by omega) (Nat.le_refl _)).mono ?_
      rintro e w4 ⟨rfl, h4⟩
      clear h3
      replace h4 := Lib.hid h4
      go_wp2_with fail
      refine (h4.out.twiceF 0 rfl).mono ?_
      rintro e w5 ⟨rfl, h5⟩
      clear h4
      replace h5 := Lib.hid h5
      go_wp2_with fail
      refine h5.out.len.mono ?_
      rintro e w6 ⟨rfl, rfl⟩
      go_wp2_with fail
      go_loopw [6] (fun i wr => ∃ j : Nat, j ≤ m ∧ i = .int .i64 (j : Int) ∧ Hid (NL w wr n (2000 - j) 0)) (fun i _ => m - (intOf i).toNat)
      case atStart => exact ⟨0, Nat.zero_le _, rfl, h5⟩
      case round =>
        obtain ⟨j, hj, rfl, hQ⟩ := hrel
        by_cases hlt : j < m
        · have hltz : (j : Int) < (m : Int) := by omega
          have hP := hQ.out.take (j : Int) (by omega) (by omega)
          rw [show 2000 - j - 1 = 2000 - (j + 1) by omega] at hP
          replace hP := Lib.hid hP
          go_wp2_with fail
          refine hP.out.mono ?_
          rintro e w7 ⟨b, rfl, h7⟩
          replace h7 := Lib.hid h7
          go_wp2
          go_roundw
          case rel => exact ⟨j + 1, by omega, by go_num, h7⟩
          case measure => simp [intOf]; omega
        · have hltz : ¬ (j : Int) < (m : Int) := by omega
          obtain rfl : j = m := by omega
          clear h5
          go_wp2_with fail
          go_loopw [7] (fun i wr => ∃ u : Nat, u ≤ j ∧ i = .int .i64 (u : Int) ∧ Hid (NL w wr n (2000 - j + u) (u : Nat))) (fun i _ => j - (intOf i).toNat)
          case atStart => exact ⟨0, Nat.zero_le _, rfl, hQ⟩
          case round =>
            obtain ⟨u, hu, rfl, hR⟩ := hrel
            clear hQ
            by_cases hlt : u < j
            · have hltz : (u : Int) < (j : Int) := by omega
              have hP := hR.out.put (by omega) (by omega)
              rw [show 2000 - j + u + 1 = 2000 - j + (u + 1) by omega, show ((u : Nat) : Int) + 1 = ((u + 1 : Nat) : Int) by omega] at hP
              replace hP := Lib.hid hP
              go_wp2_with (first | ((with_reducible refine wl_build 39 _ ?_ ?_); (with_reducible rfl); refine sx_build rfl 39 _ rfl (msgV (mK 6 0 0) nilV nilV nilV nilV) (by kernel_rfl) ?_; (try simp only [Act.put, List.setIfInBounds_toArray, List.set_cons_zero, List.set_cons_succ])))
              refine hP.out.mono ?_
              rintro e w7 ⟨rfl, h7⟩
              replace h7 := Lib.hid h7
              go_wp2
              go_roundw
              case rel => exact ⟨u + 1, by omega, by go_num, h7⟩
              case measure => simp [intOf]; omega
            · have hltz : ¬ (u : Int) < (j : Int) := by omega
              obtain rfl : u = j := by omega
              have hP := hR.out
              rw [show 2000 - u + u = 2000 by omega] at hP
              replace hP := Lib.hid hP
              clear hR
              go_wp2_with fail
              refine hP.out.len.mono ?_
              rintro e w7 ⟨rfl, rfl⟩
              go_wp2_with fail
              refine hP.out.sent.mono ?_
              rintro e w7 ⟨rfl, rfl⟩
              have hk := hP.out.kept
              clear hP
              go_wp2
              go_ret
              exact ⟨rfl, hk⟩
end Go.Proofs.Ytbhpkknlpjdcaaa
