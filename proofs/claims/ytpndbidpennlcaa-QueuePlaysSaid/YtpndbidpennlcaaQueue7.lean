import Derived.Test.YtpndbidpennlcaaQueue6
namespace Go.Proofs.Ytpndbidpennlcaa
open Go.RowKit
set_option linter.unusedVariables false
set_option linter.unusedSimpArgs false
/-! the queue: QueueBounds -/
theorem pqA (xs ys : List ByteArray) (d : Int) : pushQ (msgF (mK 4 0 1)) xs ys d = if ys.length < 64 then (0, xs, ys ++ [msgF (mK 4 0 1)], d) else (7, xs, ys, d + 1) := by
  rw [pqK k4_right]; rfl
theorem pqV (xs ys : List ByteArray) (d : Int) : pushQ (msgF (mK 2 3 0)) xs ys d = if xs.length < 64 then (0, xs ++ [msgF (mK 2 3 0)], ys, d) else (7, xs, ys, d + 1) := by
  rw [pqK k2_right]; rfl
/-- A queue in blocks that are new. -/
def QN (w0 w : World) (q a b : Nat) (d : Nat) : Prop := ∃ S xs ys, QS w S q xs ys d ∧ xs.length = a ∧ ys.length = b ∧ (∀ k, k ∈ S → w0.heap.size ≤ k) ∧ Keep [] w0 w
theorem QN.push_ask {w0 w : World} {q a b d : Nat} (h : QN w0 w q a b d) (ha : a ≤ 64) (hb : b ≤ 64) (hd : d ≤ 1000) (x : ByteArray) (hx : x = msgF (mK 4 0 1)) :
    Calls Try.prog 9 #[.pointer (some ⟨q, 0, none⟩), .string x] w fun e w' => e = .returned (.int .i64 (if b < 64 then 0 else 7)) ∧ QN w0 w' q a (min (b + 1) 64) (if b < 64 then d else d + 1) := by
  subst hx
  obtain ⟨S, xs, ys, h1, rfl, rfl, h4, k⟩ := h
  refine (qpush_QS _ h1 (by have := k4_size; unfold M47; omega) (by omega) (by omega) (by omega)).mono ?_
  rw [pqA]
  rintro e w' ⟨rfl, S', h1', h2', k'⟩
  have hS : ∀ k, k ∈ S' → w0.heap.size ≤ k := fun k hk => (h2' k hk).elim (h4 k) (fun h => Nat.le_trans (Keep.size ‹Keep [] w0 w›) h)
  by_cases hlt : ys.length < 64
  · rw [if_pos hlt] at h1' ⊢
    exact ⟨by rw [if_pos hlt], S', _, _, by rw [if_pos hlt]; exact h1', rfl, by simp; omega, hS, (‹Keep [] w0 w›).new k' (fun i hi => .inr (h4 i hi))⟩
  · rw [if_neg hlt] at h1' ⊢
    exact ⟨by rw [if_neg hlt], S', _, _, by rw [if_neg hlt, Int.natCast_succ]; exact h1', rfl, by simp; omega, hS, (‹Keep [] w0 w›).new k' (fun i hi => .inr (h4 i hi))⟩
theorem QN.push_vote {w0 w : World} {q a b d : Nat} (h : QN w0 w q a b d) (ha : a ≤ 64) (hb : b ≤ 64) (hd : d ≤ 1000) (x : ByteArray) (hx : x = msgF (mK 2 3 0)) :
    Calls Try.prog 9 #[.pointer (some ⟨q, 0, none⟩), .string x] w fun e w' => e = .returned (.int .i64 (if a < 64 then 0 else 7)) ∧ QN w0 w' q (min (a + 1) 64) b (if a < 64 then d else d + 1) := by
  subst hx
  obtain ⟨S, xs, ys, h1, rfl, rfl, h4, k⟩ := h
  refine (qpush_QS _ h1 (by have := k2_size; unfold M47; omega) (by omega) (by omega) (by omega)).mono ?_
  rw [pqV]
  rintro e w' ⟨rfl, S', h1', h2', k'⟩
  have hS : ∀ k, k ∈ S' → w0.heap.size ≤ k := fun k hk => (h2' k hk).elim (h4 k) (fun h => Nat.le_trans (Keep.size ‹Keep [] w0 w›) h)
  by_cases hlt : xs.length < 64
  · rw [if_pos hlt] at h1' ⊢
    exact ⟨by rw [if_pos hlt], S', _, _, by rw [if_pos hlt]; exact h1', by simp; omega, rfl, hS, (‹Keep [] w0 w›).new k' (fun i hi => .inr (h4 i hi))⟩
  · rw [if_neg hlt] at h1' ⊢
    exact ⟨by rw [if_neg hlt], S', _, _, by rw [if_neg hlt, Int.natCast_succ]; exact h1', by simp; omega, rfl, hS, (‹Keep [] w0 w›).new k' (fun i hi => .inr (h4 i hi))⟩
theorem QN.next {w0 w w' : World} {q a b d : Nat} (h : QN w0 w q a b d) (k : Keep [] w w') : QN w0 w' q a b d := by
  obtain ⟨S, xs, ys, h1, h2, h3, h4, k0⟩ := h
  exact ⟨S, xs, ys, h1.keep k (by simp), h2, h3, h4, k0.trans k⟩
set_option maxHeartbeats 4000000 in
theorem queueBounds_call (n m : Int) (w : World) (hn : 0 ≤ n ∧ n ≤ 255) (hm : 0 ≤ m ∧ m ≤ 255) :
    Calls Try.prog 3 #[.int .u8 n, .int .u8 m] w fun e w' => e = .returned (.bool true) ∧ Keep [] w w' := by
  obtain ⟨n, rfl⟩ := Int.eq_ofNat_of_zero_le hn.1
  obtain ⟨m, rfl⟩ := Int.eq_ofNat_of_zero_le hm.1
  have hn2 : n ≤ 255 := by omega
  have hm2 : m ≤ 255 := by omega
  clear hn hm
  go_enter Try.func3, Try.ntmps3
  go_wp2_with fail
  refine (qawake_call _).mono ?_
  rintro e w1 ⟨rfl, k1⟩
  go_wp2_with fail
  refine (qnew_QS _).mono ?_
  rintro e w2 ⟨q, rfl, h2, hq, k2⟩
  have s1 := k1.size
  have kk2 := k1.trans k2
  have h2 : QN w w2 q 0 0 0 := ⟨_, _, _, h2, rfl, rfl, fun k hk => by simp at hk; omega, kk2⟩
  clear k1 k2 kk2 hq s1
  go_wp2_with (first
    | ((with_reducible refine wl_build 27 _ ?_ ?_); (with_reducible rfl); refine sx_build rfl 27 _ rfl #[.int .i64 0, .int .i64 1, .string ⟨#[]⟩] (by kernel_rfl) ?_; (try simp only [Act.put, List.setIfInBounds_toArray, List.set_cons_zero, List.set_cons_succ]))
    | ((with_reducible refine wl_build 38 _ ?_ ?_); (with_reducible rfl); refine sx_build rfl 38 _ rfl (msgV (mK 4 0 1) nilV nilV nilV nilV) (by kernel_rfl) ?_; (try simp only [Act.put, List.setIfInBounds_toArray, List.set_cons_zero, List.set_cons_succ])))
  refine (rmsg_call _ _ _ _ _ (fun _ => False) _ (mK_ok 4 0 1 _ _ (i64s _ (by omega)) (i64s _ (by omega)) (i64s _ (by omega))) (MsSz.of_size (by have := k4_size; omega))).mono ?_
  rintro e w3 ⟨rfl, k3⟩
  replace h2 := h2.next k3
  clear k3
  obtain ⟨A, hA⟩ : ∃ A, A = msgF (mK 4 0 1) := ⟨_, rfl⟩
  rw [← hA]
  replace hA := Lib.hid hA
  go_wp2_with (first
    | ((with_reducible refine wl_build 38 _ ?_ ?_); (with_reducible rfl); refine sx_build rfl 38 _ rfl (msgV (mK 2 3 0) nilV nilV nilV nilV) (by kernel_rfl) ?_; (try simp only [Act.put, List.setIfInBounds_toArray, List.set_cons_zero, List.set_cons_succ])))
  refine (rmsg_call _ _ _ _ _ (fun _ => False) _ (mK_ok 2 3 0 _ _ (i64s _ (by omega)) (i64s _ (by omega)) (i64s _ (by omega))) (MsSz.of_size (by have := k2_size; omega))).mono ?_
  rintro e w4 ⟨rfl, k4⟩
  replace h2 := h2.next k4
  clear k4
  obtain ⟨V, hV⟩ : ∃ V, V = msgF (mK 2 3 0) := ⟨_, rfl⟩
  rw [← hV]
  replace hV := Lib.hid hV
  replace h2 := Lib.hid h2
  go_wp2_with fail
  go_loopw [8] (fun i wr => ∃ j : Nat, j ≤ n ∧ i = .int .i64 (j : Int) ∧ Hid (QN w wr q 0 (min j 64) (j - 64))) (fun i _ => n - (intOf i).toNat)
  case atStart => exact ⟨0, Nat.zero_le _, rfl, by simpa using h2⟩
  case round =>
    obtain ⟨j, hj, rfl, hQ⟩ := hrel
    by_cases hlt : j < n
    · have hltz : (j : Int) < (n : Int) := by omega
      have hP := hQ.out.push_ask (by omega) (by omega) (by omega) A hA.out
      rw [show min (min j 64 + 1) 64 = min (j + 1) 64 by omega] at hP
      by_cases h64 : j < 64
      · have h64z : (j : Int) < 64 := by omega
        rw [if_pos (by omega), if_pos (by omega), show j - 64 = j + 1 - 64 by omega] at hP
        replace hP := Lib.hid hP
        go_wp2_with fail
        refine hP.out.mono ?_
        rintro e w5 ⟨rfl, h5⟩
        replace h5 := Lib.hid h5
        go_wp2
        go_roundw
        case rel => exact ⟨j + 1, by omega, by go_num, h5⟩
        case measure => simp [intOf]; omega
      · have h64z : ¬ (j : Int) < 64 := by omega
        rw [if_neg (by omega), if_neg (by omega), show j - 64 + 1 = j + 1 - 64 by omega] at hP
        replace hP := Lib.hid hP
        go_wp2_with fail
        refine hP.out.mono ?_
        rintro e w5 ⟨rfl, h5⟩
        replace h5 := Lib.hid h5
        go_wp2
        go_roundw
        case rel => exact ⟨j + 1, by omega, by go_num, h5⟩
        case measure => simp [intOf]; omega
    · have hltz : ¬ (j : Int) < (n : Int) := by omega
      obtain rfl : j = n := by omega
      clear h2
      go_wp2_with fail
      go_loopw [9] (fun i wr => ∃ i2 : Nat, i2 ≤ m ∧ i = .int .i64 (i2 : Int) ∧ Hid (QN w wr q (min i2 64) (min j 64) (j - 64 + (i2 - 64)))) (fun i _ => m - (intOf i).toNat)
      case atStart => exact ⟨0, Nat.zero_le _, rfl, by simpa using hQ⟩
      case round =>
        obtain ⟨i2, hi2, rfl, hQ2⟩ := hrel
        by_cases hlt2 : i2 < m
        · have hltz2 : (i2 : Int) < (m : Int) := by omega
          have hP := hQ2.out.push_vote (by omega) (by omega) (by omega) V hV.out
          rw [show min (min i2 64 + 1) 64 = min (i2 + 1) 64 by omega] at hP
          by_cases h64 : i2 < 64
          · have h64z : (i2 : Int) < 64 := by omega
            rw [if_pos (by omega), if_pos (by omega), show j - 64 + (i2 - 64) = j - 64 + (i2 + 1 - 64) by omega] at hP
            replace hP := Lib.hid hP
            go_wp2_with fail
            refine hP.out.mono ?_
            rintro e w5 ⟨rfl, h5⟩
            replace h5 := Lib.hid h5
            go_wp2
            go_roundw
            case rel => exact ⟨i2 + 1, by omega, by go_num, h5⟩
            case measure => simp [intOf]; omega
          · have h64z : ¬ (i2 : Int) < 64 := by omega
            rw [if_neg (by omega), if_neg (by omega), show j - 64 + (i2 - 64) + 1 = j - 64 + (i2 + 1 - 64) by omega] at hP
            replace hP := Lib.hid hP
            go_wp2_with fail
            refine hP.out.mono ?_
            rintro e w5 ⟨rfl, h5⟩
            replace h5 := Lib.hid h5
            go_wp2
            go_roundw
            case rel => exact ⟨i2 + 1, by omega, by go_num, h5⟩
            case measure => simp [intOf]; omega
        · have hltz2 : ¬ (i2 : Int) < (m : Int) := by omega
          obtain rfl : i2 = m := by omega
          clear hQ
          obtain ⟨S, xs, ys, h1, h2, h3, h4, k0⟩ := hQ2.out
          have h1' := Lib.hid h1
          clear hQ2
          go_wp2_with fail
          refine (qlanes_QS h1).mono ?_
          rintro e w6 ⟨rfl, k6⟩
          rw [h2, h3]
          have h6 := h1'.out.keep k6 (by simp)
          have k6 := k0.trans k6
          clear h1 h1' h2 h3 h4
          by_cases g1 : i2 ≤ 64
          · by_cases g2 : j ≤ 64
            · skip
              have e1 : min i2 64 = i2 := by omega
              have e2 : min j 64 = j := by omega
              have e3 : j - 64 + (i2 - 64) = 0 := by omega
              rw [e1, e2]
              rw [e3] at h6
              clear e1 e2 e3
              have f1 : (i2 : Int) ≤ 64 := by omega
              have f2 : (j : Int) ≤ 64 := by omega
              go_wp2_with fail
              refine (qdropped_QS h6).mono ?_
              rintro e w7 ⟨rfl, rfl⟩
              go_wp2
              all_goals
                go_ret
                first
                | exact ⟨rfl, k6⟩
                | exact ⟨congrArg (fun b => Ending.returned (Value.bool b)) (beq_iff_eq.2 (by omega)), k6⟩
            · skip
              have e1 : min i2 64 = i2 := by omega
              have e2 : min j 64 = 64 := by omega
              have e3 : j - 64 + (i2 - 64) = j - 64 := by omega
              rw [e1, e2]
              rw [e3] at h6
              clear e1 e2 e3
              have f1 : (i2 : Int) ≤ 64 := by omega
              have f2 : ¬ (j : Int) ≤ 64 := by omega
              go_wp2_with fail
              refine (qdropped_QS h6).mono ?_
              rintro e w7 ⟨rfl, rfl⟩
              go_wp2
              all_goals
                go_ret
                first
                | exact ⟨rfl, k6⟩
                | exact ⟨congrArg (fun b => Ending.returned (Value.bool b)) (beq_iff_eq.2 (by omega)), k6⟩
          · by_cases g2 : j ≤ 64
            · skip
              have e1 : min i2 64 = 64 := by omega
              have e2 : min j 64 = j := by omega
              have e3 : j - 64 + (i2 - 64) = i2 - 64 := by omega
              rw [e1, e2]
              rw [e3] at h6
              clear e1 e2 e3
              have f1 : ¬ (i2 : Int) ≤ 64 := by omega
              have f2 : (j : Int) ≤ 64 := by omega
              go_wp2_with fail
              refine (qdropped_QS h6).mono ?_
              rintro e w7 ⟨rfl, rfl⟩
              go_wp2
              all_goals
                go_ret
                first
                | exact ⟨rfl, k6⟩
                | exact ⟨congrArg (fun b => Ending.returned (Value.bool b)) (beq_iff_eq.2 (by omega)), k6⟩
            · skip
              have e1 : min i2 64 = 64 := by omega
              have e2 : min j 64 = 64 := by omega
              rw [e1, e2]
              clear e1 e2
              have f1 : ¬ (i2 : Int) ≤ 64 := by omega
              have f2 : ¬ (j : Int) ≤ 64 := by omega
              go_wp2_with fail
              refine (qdropped_QS h6).mono ?_
              rintro e w7 ⟨rfl, rfl⟩
              go_wp2
              all_goals
                go_ret
                first
                | exact ⟨rfl, k6⟩
                | exact ⟨congrArg (fun b => Ending.returned (Value.bool b)) (beq_iff_eq.2 (by omega)), k6⟩
end Go.Proofs.Ytpndbidpennlcaa
