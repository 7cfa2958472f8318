import Derived.Test.YtbhpkknlpjdcaaaBase
import Derived.Test.YtbhpkknlpjdcaaaEqReq
namespace Go.Proofs.Ytbhpkknlpjdcaaa
open Go.RowKit
set_option linter.unusedVariables false
set_option linter.unusedSimpArgs false
/-! slices.Equal over strings and over requests -/
set_option maxHeartbeats 2000000 in
theorem eqStrs_call (A B : Option Addr) (xs ys : List ByteArray) (c d : Nat) (F G : Nat → Prop) (w : World) (ha : SliceOf Rep.str w F (.slice A xs.length c) xs) (hb : SliceOf Rep.str w G (.slice B ys.length d) ys) :
    Calls Try.prog 60 #[.slice A xs.length c, .slice B ys.length d] w fun e w' => ∃ r, e = .returned (.bool r) ∧ (r = true ↔ xs = ys) ∧ Keep [] w w' := by
  obtain ⟨_, _, e0, hl⟩ := ha.form
  obtain ⟨_, _, e1, hl1⟩ := hb.form
  clear e0 e1
  have HA := Lib.hid ha
  have HB := Lib.hid hb
  clear ha hb
  go_enter Try.func60, Try.ntmps60
  by_cases hlen : xs.length = ys.length
  · have e1 : ((xs.length : Int) == (ys.length : Int)) = true := by simp [hlen]
    have hlenz : (xs.length : Int) = (ys.length : Int) := by omega
    go_wp2_with fail
    go_loopw [13] (fun i wr => ∃ m : Nat, m ≤ xs.length ∧ i = .int .i64 m ∧ Keep [] w wr ∧ Hid (∀ j (hj : j < xs.length) (hj' : j < ys.length), j < m → xs[j] = ys[j])) (fun i _ => xs.length - (intOf i).toNat)
    case atStart => exact ⟨0, Nat.zero_le _, rfl, Keep.refl _ _, Lib.hid (fun j _ _ h => absurd h (Nat.not_lt_zero _))⟩
    case round =>
      obtain ⟨m, hm, rfl, kk, hi⟩ := hrel
      by_cases hlt : m < xs.length
      · have hltz : (m : Int) < (xs.length : Int) := by omega
        have hlt' : m < ys.length := by omega
        have hltz' : (m : Int) < (ys.length : Int) := by omega
        obtain ⟨g, o, rfl, c0, -⟩ := (HA.out.keep (fun i hF hi => kk.block i hi (by simp))).str_at hlt
        obtain ⟨g', o', rfl, d0, -⟩ := (HB.out.keep (fun i hF hi => kk.block i hi (by simp))).str_at hlt'
        by_cases he : xs[m] = ys[m]
        · have he' : Hid (∀ j (h1 : j < xs.length) (h2 : j < ys.length), j = m → xs[j] = ys[j]) := Lib.hid (fun j h1 h2 e => by subst e; exact he)
          rw [← he] at d0
          clear he
          generalize xs[m] = x at *
          skip
          go_wp2_with fail
          refine wp_region_class (C := fun w' => Keep [] wr w' ∧ w'.cell? ⟨g, o + m, none⟩ = some (.string x) ∧ w'.cell? ⟨g', o' + m, none⟩ = some (.string x)) (by kernel_rfl) (by kernel_rfl) ⟨(Keep.refl _ _).drew, c0, d0⟩ ?_
          iterate 9 (first
            | go_big_quiet_skip
            | (go_big_quiet_want; first
              | (go_big_quiet_op; go_big_quiet_on)
              | (refine quiet_run (v := ?_) ?_ ?_; (rotate_left; (intro w' hC; (try dsimp only at hC); go_split_ands; go_simp; with_reducible rfl); simp only [Act.put, List.setIfInBounds_toArray, List.set_cons_zero, List.set_cons_succ]; go_big_quiet_on))
              | (refine quiet_call (v := ?_) (f := ?_) (args := ?_) ?_ ?_ ?_; (rotate_left; rotate_left; rotate_left; (intro w' hC; (try dsimp only at hC); go_split_ands; go_simp; (refine ⟨?_, ?_⟩ <;> with_reducible rfl)); (intro w' hC; fail); simp only [Act.put, List.setIfInBounds_toArray, List.set_cons_zero, List.set_cons_succ]; go_big_quiet_on))))
          refine wpQuiet_nil ?_
          intro w2 hC2
          have kk2 := hC2.1
          clear hC2
          go_wp2
          go_roundw
          case rel => exact ⟨m + 1, by omega, by go_num, kk.trans kk2, Lib.hid (fun j hj hj' h => by
            by_cases e : j = m
            · exact he'.out j hj hj' e
            · exact hi.out j hj hj' (by omega))⟩
          case measure => simp [intOf]; omega
        · have hout : ¬ xs = ys := by
            intro h
            apply he
            simp only [h]
          have hout := Lib.hid hout
          generalize xs[m] = x at *
          generalize ys[m] = y at *
          have hne : (x.toList == y.toList) = false := by
            rw [beq_eq_false_iff_ne]
            intro h
            rw [ByteArray.toList_eq, ByteArray.toList_eq] at h
            exact he (ByteArray.ext (Array.toList_inj.1 h))
          have hne2 : ¬ x.toList = y.toList := by simpa using hne
          clear he
          go_wp2_with fail
          refine wp_region_class (C := fun w' => Keep [] wr w' ∧ w'.cell? ⟨g, o + m, none⟩ = some (.string x) ∧ w'.cell? ⟨g', o' + m, none⟩ = some (.string y)) (by kernel_rfl) (by kernel_rfl) ⟨(Keep.refl _ _).drew, c0, d0⟩ ?_
          iterate 9 (first
            | go_big_quiet_skip
            | (go_big_quiet_want; first
              | (go_big_quiet_op; go_big_quiet_on)
              | (refine quiet_run (v := ?_) ?_ ?_; (rotate_left; (intro w' hC; (try dsimp only at hC); go_split_ands; go_simp; with_reducible rfl); simp only [Act.put, List.setIfInBounds_toArray, List.set_cons_zero, List.set_cons_succ]; go_big_quiet_on))
              | (refine quiet_call (v := ?_) (f := ?_) (args := ?_) ?_ ?_ ?_; (rotate_left; rotate_left; rotate_left; (intro w' hC; (try dsimp only at hC); go_split_ands; go_simp; (refine ⟨?_, ?_⟩ <;> with_reducible rfl)); (intro w' hC; fail); simp only [Act.put, List.setIfInBounds_toArray, List.set_cons_zero, List.set_cons_succ]; go_big_quiet_on))))
          refine wpQuiet_nil ?_
          intro w2 hC2
          have kk2 := hC2.1
          clear hC2
          go_wp2
          go_ret
          exact ⟨false, rfl, by simp [hout.out], kk.trans kk2⟩
      · have hltz : ¬ (m : Int) < (xs.length : Int) := by omega
        obtain rfl : m = xs.length := by omega
        have hout : xs = ys := List.ext_getElem hlen (fun j h1 h2 => hi.out j h1 h2 h1)
        have hout := Lib.hid hout
        go_wp2
        go_ret
        exact ⟨rfl, kk⟩
  · have e1 : ((xs.length : Int) == (ys.length : Int)) = false := by rw [beq_eq_false_iff_ne]; omega
    have hlenz : ¬ (xs.length : Int) = (ys.length : Int) := by omega
    have hout : ¬ xs = ys := by
      intro h
      exact hlen (by rw [h])
    have hout := Lib.hid hout
    go_wp2
    go_ret
    exact ⟨false, rfl, by simp [hout.out], Keep.refl _ _⟩
theorem neqReq_t (x y : Req) (h : x ≠ y) (w : World) : (binOp .neq 37 (.agg #[.int .i64 x.c, .int .i64 x.s, .string x.b]) (.agg #[.int .i64 y.c, .int .i64 y.s, .string y.b])).run Try.prog w = .ok (.bool true) w := by
  have h0 : eqReq x y = false := by
    cases hq : eqReq x y
    · rfl
    · exact absurd ((eqReq_iff x y).1 hq) h
  unfold eqReq at h0
  go_simp
  by_cases h1 : x.c = y.c <;> by_cases h2 : x.s = y.s <;> by_cases h3 : x.b.toList = y.b.toList <;> simp_all
theorem neqReq_f (x : Req) (w : World) : (binOp .neq 37 (.agg #[.int .i64 x.c, .int .i64 x.s, .string x.b]) (.agg #[.int .i64 x.c, .int .i64 x.s, .string x.b])).run Try.prog w = .ok (.bool false) w := by
  go_simp
set_option maxHeartbeats 2000000 in
theorem eqReqs_call (A B : Option Addr) (xs ys : List Req) (c d : Nat) (F G : Nat → Prop) (w : World) (ha : SliceOf Rep.req w F (.slice A xs.length c) xs) (hb : SliceOf Rep.req w G (.slice B ys.length d) ys) :
    Calls Try.prog 53 #[.slice A xs.length c, .slice B ys.length d] w fun e w' => ∃ r, e = .returned (.bool r) ∧ (r = true ↔ xs = ys) ∧ Keep [] w w' := by
  obtain ⟨_, _, e0, hl⟩ := ha.form
  obtain ⟨_, _, e1, hl1⟩ := hb.form
  clear e0 e1
  have HA := Lib.hid ha
  have HB := Lib.hid hb
  clear ha hb
  go_enter Try.func53, Try.ntmps53
  by_cases hlen : xs.length = ys.length
  · have e1 : ((xs.length : Int) == (ys.length : Int)) = true := by simp [hlen]
    have hlenz : (xs.length : Int) = (ys.length : Int) := by omega
    go_wp2_with fail
    go_loopw [13] (fun i wr => ∃ m : Nat, m ≤ xs.length ∧ i = .int .i64 m ∧ Keep [] w wr ∧ Hid (∀ j (hj : j < xs.length) (hj' : j < ys.length), j < m → xs[j] = ys[j])) (fun i _ => xs.length - (intOf i).toNat)
    case atStart => exact ⟨0, Nat.zero_le _, rfl, Keep.refl _ _, Lib.hid (fun j _ _ h => absurd h (Nat.not_lt_zero _))⟩
    case round =>
      obtain ⟨m, hm, rfl, kk, hi⟩ := hrel
      by_cases hlt : m < xs.length
      · have hltz : (m : Int) < (xs.length : Int) := by omega
        have hlt' : m < ys.length := by omega
        have hltz' : (m : Int) < (ys.length : Int) := by omega
        obtain ⟨g, o, rfl, c0, c1, c2, -, -, -⟩ := (HA.out.keep (fun i hF hi => kk.block i hi (by simp))).req_at hlt
        obtain ⟨g', o', rfl, d0, d1, d2, -, -, -⟩ := (HB.out.keep (fun i hF hi => kk.block i hi (by simp))).req_at hlt'
        by_cases he : xs[m] = ys[m]
        · have he' : Hid (∀ j (h1 : j < xs.length) (h2 : j < ys.length), j = m → xs[j] = ys[j]) := Lib.hid (fun j h1 h2 e => by subst e; exact he)
          rw [← he] at d0 d1 d2
          clear he
          generalize xs[m] = x at *
          have hnq := neqReq_f x
          go_wp2_with fail
          refine wp_region_class (C := fun w' => Keep [] wr w' ∧ w'.cell? ⟨g, o + m * 3, none⟩ = some (.int .i64 x.c) ∧ w'.cell? ⟨g, o + m * 3 + 1, none⟩ = some (.int .i64 x.s) ∧ w'.cell? ⟨g, o + m * 3 + 2, none⟩ = some (.string x.b) ∧ w'.cell? ⟨g', o' + m * 3, none⟩ = some (.int .i64 x.c) ∧ w'.cell? ⟨g', o' + m * 3 + 1, none⟩ = some (.int .i64 x.s) ∧ w'.cell? ⟨g', o' + m * 3 + 2, none⟩ = some (.string x.b)) (by kernel_rfl) (by kernel_rfl) ⟨(Keep.refl _ _).drew, c0, c1, c2, d0, d1, d2⟩ ?_
          iterate 9 (first
            | go_big_quiet_skip
            | (go_big_quiet_want; first
              | (go_big_quiet_op; go_big_quiet_on)
              | (refine quiet_run (v := ?_) ?_ ?_; (rotate_left; (intro w' hC; (try dsimp only at hC); go_split_ands; go_simp; with_reducible rfl); simp only [Act.put, List.setIfInBounds_toArray, List.set_cons_zero, List.set_cons_succ]; go_big_quiet_on))
              | (refine quiet_call (v := ?_) (f := ?_) (args := ?_) ?_ ?_ ?_; (rotate_left; rotate_left; rotate_left; (intro w' hC; (try dsimp only at hC); go_split_ands; go_simp; (refine ⟨?_, ?_⟩ <;> with_reducible rfl)); (intro w' hC; fail); simp only [Act.put, List.setIfInBounds_toArray, List.set_cons_zero, List.set_cons_succ]; go_big_quiet_on))))
          refine wpQuiet_nil ?_
          intro w2 hC2
          have kk2 := hC2.1
          clear hC2
          go_wp2
          go_roundw
          case rel => exact ⟨m + 1, by omega, by go_num, kk.trans kk2, Lib.hid (fun j hj hj' h => by
            by_cases e : j = m
            · exact he'.out j hj hj' e
            · exact hi.out j hj hj' (by omega))⟩
          case measure => simp [intOf]; omega
        · have hout : ¬ xs = ys := by
            intro h
            apply he
            simp only [h]
          have hout := Lib.hid hout
          generalize xs[m] = x at *
          generalize ys[m] = y at *
          have hnq := neqReq_t x y he
          clear he
          go_wp2_with fail
          refine wp_region_class (C := fun w' => Keep [] wr w' ∧ w'.cell? ⟨g, o + m * 3, none⟩ = some (.int .i64 x.c) ∧ w'.cell? ⟨g, o + m * 3 + 1, none⟩ = some (.int .i64 x.s) ∧ w'.cell? ⟨g, o + m * 3 + 2, none⟩ = some (.string x.b) ∧ w'.cell? ⟨g', o' + m * 3, none⟩ = some (.int .i64 y.c) ∧ w'.cell? ⟨g', o' + m * 3 + 1, none⟩ = some (.int .i64 y.s) ∧ w'.cell? ⟨g', o' + m * 3 + 2, none⟩ = some (.string y.b)) (by kernel_rfl) (by kernel_rfl) ⟨(Keep.refl _ _).drew, c0, c1, c2, d0, d1, d2⟩ ?_
          iterate 9 (first
            | go_big_quiet_skip
            | (go_big_quiet_want; first
              | (go_big_quiet_op; go_big_quiet_on)
              | (refine quiet_run (v := ?_) ?_ ?_; (rotate_left; (intro w' hC; (try dsimp only at hC); go_split_ands; go_simp; with_reducible rfl); simp only [Act.put, List.setIfInBounds_toArray, List.set_cons_zero, List.set_cons_succ]; go_big_quiet_on))
              | (refine quiet_call (v := ?_) (f := ?_) (args := ?_) ?_ ?_ ?_; (rotate_left; rotate_left; rotate_left; (intro w' hC; (try dsimp only at hC); go_split_ands; go_simp; (refine ⟨?_, ?_⟩ <;> with_reducible rfl)); (intro w' hC; fail); simp only [Act.put, List.setIfInBounds_toArray, List.set_cons_zero, List.set_cons_succ]; go_big_quiet_on))))
          refine wpQuiet_nil ?_
          intro w2 hC2
          have kk2 := hC2.1
          clear hC2
          go_wp2
          go_ret
          exact ⟨false, rfl, by simp [hout.out], kk.trans kk2⟩
      · have hltz : ¬ (m : Int) < (xs.length : Int) := by omega
        obtain rfl : m = xs.length := by omega
        have hout : xs = ys := List.ext_getElem hlen (fun j h1 h2 => hi.out j h1 h2 h1)
        have hout := Lib.hid hout
        go_wp2
        go_ret
        exact ⟨rfl, kk⟩
  · have e1 : ((xs.length : Int) == (ys.length : Int)) = false := by rw [beq_eq_false_iff_ne]; omega
    have hlenz : ¬ (xs.length : Int) = (ys.length : Int) := by omega
    have hout : ¬ xs = ys := by
      intro h
      exact hlen (by rw [h])
    have hout := Lib.hid hout
    go_wp2
    go_ret
    exact ⟨false, rfl, by simp [hout.out], Keep.refl _ _⟩
end Go.Proofs.Ytbhpkknlpjdcaaa
