import Derived.Test.YtaiemagmkfjklaaPool8
import Derived.Test.YtaiemagmkfjklaaEqReq
namespace Go.Proofs.Ytaiemagmkfjklaa
open Go.RowKit Go.Shelf
set_option linter.unusedVariables false
set_option linter.unusedSimpArgs false
/-! the reference's lists -/
theorem hasR_take (l : List Req) (c s : Int) (k : Nat) (hk : k < l.length) : hasR (l.take (k + 1)) c s = (hasR (l.take k) c s || hasP c s l[k]) := by
  rw [List.take_succ_eq_append_getElem hk, hasR_app]
  simp [hasR, hasP]
theorem hasR_hit (l : List Req) (c s : Int) (k : Nat) (hk : k < l.length) (h : hasP c s l[k] = true) : hasR l c s = true := by
  simp only [hasR, List.any_eq_true]
  exact ⟨l[k], List.getElem_mem hk, h⟩
set_option maxHeartbeats 2000000 in
theorem refHas_call (A : Option Addr) (l : List Req) (cp : Nat) (F : Nat → Prop) (r : Req) (w : World) (hs : SliceOf Rep.req w F (.slice A l.length cp) l) :
    Calls Try.prog 16 #[.slice A l.length cp, .agg #[.int .i64 r.c, .int .i64 r.s, .string r.b]] w fun e w' => e = .returned (.bool (hasR l r.c r.s)) ∧ Keep [] w w' := by
  obtain ⟨c, s, b⟩ := r
  dsimp only
  obtain ⟨_, _, e0, hl⟩ := hs.form
  clear e0
  have HS := Lib.hid hs
  clear hs
  have k0 : Keep [] w (w.alloc (.cells #[.int .i64 c, .int .i64 s, .string b] 24)) := (Keep.refl _ _).alloc _
  have b0 := Blk.new w #[.int .i64 c, .int .i64 s, .string b] 24
  go_enter Try.func16, Try.ntmps16
  go_wp2
  go_loopw [5] (fun i wr => ∃ m : Nat, m ≤ l.length ∧ i = .int .i64 m ∧ Keep [] (w.alloc (.cells #[.int .i64 c, .int .i64 s, .string b] 24)) wr ∧ Hid (hasR (l.take m) c s = false)) (fun i _ => l.length - (intOf i).toNat)
  case atStart => exact ⟨0, Nat.zero_le _, rfl, Keep.refl _ _, Lib.hid rfl⟩
  case round =>
    obtain ⟨m, hm, rfl, kk, ho⟩ := hrel
    have b1 := (b0.keep kk (by simp)).three
    by_cases hlt : m < l.length
    · have hltz : (m : Int) < (l.length : Int) := by omega
      obtain ⟨g, o, rfl, c0, c1, c2, i1, i2, i3⟩ := (HS.out.keep (fun i hF hi => (k0.trans kk).block i hi (by simp))).req_at hlt
      have ht := Lib.hid (hasR_take l c s m hlt)
      have hhit := Lib.hid (hasR_hit l c s m hlt)
      generalize l[m] = x at *
      obtain ⟨xc, xs, xb⟩ := x
      dsimp only at *
      go_wp2_with fail
      by_cases hc : xc = c
      · subst hc
        by_cases hx : xs = s
        · subst hx
          refine wp_region_class (C := fun w' => Keep [] wr w' ∧ w'.cell? ⟨w.heap.size, 0, none⟩ = some (.int .i64 xc) ∧ w'.cell? ⟨w.heap.size, 1, none⟩ = some (.int .i64 xs) ∧ w'.cell? ⟨g, o + m * 3, none⟩ = some (.int .i64 xc) ∧ w'.cell? ⟨g, o + m * 3 + 1, none⟩ = some (.int .i64 xs)) (by kernel_rfl) (by kernel_rfl) ⟨(Keep.refl _ _).drew, b1.1, b1.2.1, c0, c1⟩ ?_
          iterate 18 (first
            | go_big_quiet_skip
            | (go_big_quiet_want; first
              | (go_big_quiet_op; go_big_quiet_on)
              | (refine quiet_run (v := ?_) ?_ ?_; (rotate_left; (intro w' hC; (try dsimp only at hC); go_split_ands; go_simp; with_reducible rfl); simp only [Act.put, List.setIfInBounds_toArray, List.set_cons_zero, List.set_cons_succ]; go_big_quiet_on))
              | (refine quiet_call (v := ?_) (f := ?_) (args := ?_) ?_ ?_ ?_; (rotate_left; rotate_left; rotate_left; (intro w' hC; (try dsimp only at hC); go_split_ands; go_simp; (refine ⟨?_, ?_⟩ <;> with_reducible rfl)); (intro w' hC; fail); simp only [Act.put, List.setIfInBounds_toArray, List.set_cons_zero, List.set_cons_succ]; go_big_quiet_on))))
          refine wpQuiet_nil ?_
          intro w2 hC2
          have kk2 := hC2.1
          clear hC2
          go_wp2
          go_ret
          exact ⟨by rw [hhit.out (by simp [hasP])]; rfl, (k0.trans kk).trans kk2⟩
        · have hd : (xs == s) = false := by simp [hx]
          refine wp_region_class (C := fun w' => Keep [] wr w' ∧ w'.cell? ⟨w.heap.size, 0, none⟩ = some (.int .i64 xc) ∧ w'.cell? ⟨w.heap.size, 1, none⟩ = some (.int .i64 s) ∧ w'.cell? ⟨g, o + m * 3, none⟩ = some (.int .i64 xc) ∧ w'.cell? ⟨g, o + m * 3 + 1, none⟩ = some (.int .i64 xs)) (by kernel_rfl) (by kernel_rfl) ⟨(Keep.refl _ _).drew, b1.1, b1.2.1, c0, c1⟩ ?_
          iterate 18 (first
            | go_big_quiet_skip
            | (go_big_quiet_want; first
              | (go_big_quiet_op; go_big_quiet_on)
              | (refine quiet_run (v := ?_) ?_ ?_; (rotate_left; (intro w' hC; (try dsimp only at hC); go_split_ands; go_simp; with_reducible rfl); simp only [Act.put, List.setIfInBounds_toArray, List.set_cons_zero, List.set_cons_succ]; go_big_quiet_on))
              | (refine quiet_call (v := ?_) (f := ?_) (args := ?_) ?_ ?_ ?_; (rotate_left; rotate_left; rotate_left; (intro w' hC; (try dsimp only at hC); go_split_ands; go_simp; (refine ⟨?_, ?_⟩ <;> with_reducible rfl)); (intro w' hC; fail); simp only [Act.put, List.setIfInBounds_toArray, List.set_cons_zero, List.set_cons_succ]; go_big_quiet_on))))
          refine wpQuiet_nil ?_
          intro w2 hC2
          have kk2 := hC2.1
          clear hC2
          go_wp2
          go_roundw
          case rel => exact ⟨m + 1, by omega, by go_num, kk.trans kk2, Lib.hid (by rw [ht.out, ho.out]; simp [hasP, hx])⟩
          case measure => simp [intOf]; omega
      · have hd : (xc == c) = false := by simp [hc]
        refine wp_region_class (C := fun w' => Keep [] wr w' ∧ w'.cell? ⟨w.heap.size, 0, none⟩ = some (.int .i64 c) ∧ w'.cell? ⟨w.heap.size, 1, none⟩ = some (.int .i64 s) ∧ w'.cell? ⟨g, o + m * 3, none⟩ = some (.int .i64 xc) ∧ w'.cell? ⟨g, o + m * 3 + 1, none⟩ = some (.int .i64 xs)) (by kernel_rfl) (by kernel_rfl) ⟨(Keep.refl _ _).drew, b1.1, b1.2.1, c0, c1⟩ ?_
        iterate 18 (first
          | go_big_quiet_skip
          | (go_big_quiet_want; first
            | (go_big_quiet_op; go_big_quiet_on)
            | (refine quiet_run (v := ?_) ?_ ?_; (rotate_left; (intro w' hC; (try dsimp only at hC); go_split_ands; go_simp; with_reducible rfl); simp only [Act.put, List.setIfInBounds_toArray, List.set_cons_zero, List.set_cons_succ]; go_big_quiet_on))
            | (refine quiet_call (v := ?_) (f := ?_) (args := ?_) ?_ ?_ ?_; (rotate_left; rotate_left; rotate_left; (intro w' hC; (try dsimp only at hC); go_split_ands; go_simp; (refine ⟨?_, ?_⟩ <;> with_reducible rfl)); (intro w' hC; fail); simp only [Act.put, List.setIfInBounds_toArray, List.set_cons_zero, List.set_cons_succ]; go_big_quiet_on))))
        refine wpQuiet_nil ?_
        intro w2 hC2
        have kk2 := hC2.1
        clear hC2
        go_wp2
        go_roundw
        case rel => exact ⟨m + 1, by omega, by go_num, kk.trans kk2, Lib.hid (by rw [ht.out, ho.out]; simp [hasP, hc])⟩
        case measure => simp [intOf]; omega
    · have hltz : ¬ (m : Int) < (l.length : Int) := by omega
      obtain rfl : m = l.length := by omega
      go_wp2
      go_ret
      refine ⟨?_, k0.trans kk⟩
      have := ho.out
      rw [List.take_length] at this
      rw [this]; rfl
end Go.Proofs.Ytaiemagmkfjklaa
