import Derived.Test.YtpndbidpennlcaaQueue5
import Derived.Test.YtpndbidpennlcaaMsgK
namespace Go.Proofs.Ytpndbidpennlcaa
open Go.RowKit
set_option linter.unusedVariables false
set_option linter.unusedSimpArgs false
/-! the queue: awake, QueueBytes -/
theorem pq1 (xs ys : List ByteArray) (d : Int) : pushQ ⟨#[]⟩ xs ys d = (2, xs, ys, d) := by
  unfold pushQ
  rw [read_empty]
  rfl
theorem pqK {x : Ms} (hr : rightMsg x = true) (xs ys : List ByteArray) (d : Int) : pushQ (msgF x) xs ys d = if laneF x.k = 0 then (if xs.length < 64 then (0, xs ++ [msgF x], ys, d) else (7, xs, ys, d + 1)) else (if ys.length < 64 then (0, xs, ys ++ [msgF x], d) else (7, xs, ys, d + 1)) := by
  unfold pushQ
  rw [M2_holds x hr]
  rfl
set_option maxHeartbeats 1000000 in
theorem qawake_call (w : World) : Calls Try.prog 6 #[] w fun e w' => e = .returned (.bool true) ∧ Keep [] w w' := by
  have p2 : pushQ (msgF (mK 6 0 0)) [] [] 0 = (0, [msgF (mK 6 0 0)], [], 0) := by rw [pqK k6_right]; rfl
  go_enter Try.func6, Try.ntmps6
  go_wp2_with fail
  refine (qnew_QS _).mono ?_
  rintro e w1 ⟨q, rfl, h1, hq, k1⟩
  go_wp2_with fail
  refine (qpush_QS ⟨#[]⟩ h1 (by decide) (by decide) (by decide) (by decide)).mono ?_
  rw [pq1]
  rintro e w2 ⟨rfl, S2, h2, s2, k2⟩
  have i2 : Keep [] w w2 := k1.new k2 (fun i hi => .inr (by simp at hi; omega))
  go_wp2_with (first | ((with_reducible refine wl_build 38 _ ?_ ?_); (with_reducible rfl); refine sy_build rfl 38 _ rfl (msgV (mK 6 0 0) nilV nilV nilV nilV) (by kernel_rfl) ?_; (try simp only [Act.put, List.setIfInBounds_toArray, List.set_cons_zero, List.set_cons_succ])))
  refine (rmsg_call _ _ _ _ _ (fun _ => False) _ (mK_ok 6 0 0 _ _ (i64s _ (by omega)) (i64s _ (by omega)) (i64s _ (by omega))) (MsSz.of_size (by have := k6_size; omega))).mono ?_
  rintro e w3 ⟨rfl, k3⟩
  have h3 := h2.keep k3 (by simp)
  have sz2 := k1.size
  have sz3 := k2.size
  have n3 : ∀ i, i ∈ S2 → w.heap.size ≤ i := fun i hi => by
    rcases s2 i hi with hi | hi
    · simp at hi; omega
    · omega
  clear h1 h2
  go_wp2_with fail
  refine (qpush_QS (msgF (mK 6 0 0)) h3 (by have := k6_size; unfold M47; omega) (by decide) (by decide) (by decide)).mono ?_
  rw [p2]
  rintro e w4 ⟨rfl, S4, h4, s4, k4⟩
  have i4 : Keep [] w w4 := (i2.trans k3).new k4 (fun i hi => .inr (n3 i hi))
  dsimp only at h4
  go_wp2_with fail
  refine (qlen_QS h4 (by simp) (by simp)).mono ?_
  rintro e w5 ⟨rfl, k5⟩
  go_wp2
  go_ret
  exact ⟨rfl, i4.trans k5⟩
set_option maxHeartbeats 2000000 in
theorem queueBytes_call (b : ByteArray) (w : World) (hb : b.size ≤ M47) : Calls Try.prog 4 #[.string b] w fun e w' => e = .returned (.bool true) ∧ Keep [] w w' := by
  have hbl : b.size < 9223372036854775808 := by unfold M47 at hb; omega
  go_enter Try.func4, Try.ntmps4
  go_wp2_with fail
  refine (qawake_call _).mono ?_
  rintro e w1 ⟨rfl, k1⟩
  by_cases hs : b.size ≤ 800
  · have hs2 : ¬ (800 : Int) < (b.size : Int) := by omega
    go_wp2_with fail
    refine (qnew_QS _).mono ?_
    rintro e w2 ⟨q, rfl, h2, hq, k2⟩
    have i2 := k1.trans k2
    go_wp2_with fail
    refine (qpush_QS b h2 hb (by decide) (by decide) (by decide)).mono ?_
    rintro e w3 ⟨rfl, S3, h3, s3, k3⟩
    have i3 : Keep [] w w3 := i2.new k3 (fun i hi => .inr (by have := k1.size; simp at hi; omega))
    rcases M3_holds b with hz | ⟨x, hx, hr, hm⟩
    · have e1 : pushQ b [] [] 0 = (2, [], [], 0) := by unfold pushQ; rw [hz]; rfl
      rw [e1] at h3 ⊢
      dsimp only at *
      clear e1 hz h2
      go_wp2_with fail
      refine (qpop0_QS 0 h3).mono ?_
      rintro e w4 ⟨rfl, k4⟩
      have h4 := h3.keep k4 (by simp)
      go_wp2_with (first
        | ((with_reducible refine wl_alloc 38 ?_ ?_); (with_reducible rfl); refine sx_alloc rfl 38 rfl _ 21 zMs zMs_info rfl ?_; intro w5 b5 k5 z5; clear z5; (try simp only [Act.put, List.setIfInBounds_toArray, List.set_cons_zero, List.set_cons_succ]))
        | ((with_reducible refine wl_store 38 (.tmp 5) (.tmp 22) ?_ ?_); (with_reducible rfl); refine sx_storeW rfl 38 (.tmp 5) (.tmp 22) rfl w4.heap.size _ zMs _ 21 rfl rfl b5 zMs_size rfl rfl rfl ?_; intro w6 b6 k6 z6; clear z6; (try simp only [Act.put, List.setIfInBounds_toArray, List.set_cons_zero, List.set_cons_succ])))
      have h6 := (h4.keep k5 (by simp)).keep k6 (fun i hi hm => by have := h4.lt i hm; simp at hi; omega)
      have i4 := i3.trans k4
      have i6 : Keep [] w w6 := (i4.trans k5).new k6 (fun i hi => .inr (by have := i4.size; simp at hi; omega))
      refine (qdropped_QS h6).mono ?_
      rintro e w7 ⟨rfl, rfl⟩
      go_wp2
      go_ret
      exact ⟨rfl, i6⟩
    · have hsz : MsSz x := MsSz.of_size (by rw [hm]; omega)
      have e1 : ∃ xs ys, pushQ b [] [] 0 = (0, xs, ys, 0) ∧ xs ++ ys = [b] ∧ xs.length + ys.length = 1 ∧ popQ 0 xs ys = ([], []) := by
        unfold pushQ
        rw [hx]
        by_cases hl : laneF x.k = 0
        · exact ⟨[b], [], by simp [hl], rfl, rfl, rfl⟩
        · exact ⟨[], [b], by simp [hl], rfl, rfl, rfl⟩
      obtain ⟨xs, ys, e1, e2, e3, e4⟩ := e1
      rw [e1] at h3 ⊢
      dsimp only at *
      clear h2 e1
      go_wp2_with fail
      refine (qpop_QS 0 1 0 b h3 e3 (by decide) (by decide) (by rw [e2]; rfl)).mono ?_
      rw [hx, e4]
      dsimp only
      rintro e w4 ⟨v1, v2, v3, v4, rfl, hok, h4, k4⟩
      have i4 : Keep [] w w4 := i3.new k4 (fun i hi => .inr (by
        rcases s3 i hi with hi | hi
        · have := k1.size; simp at hi; omega
        · have := k1.size; have := k2.size; omega))
      clear h3 e2 e3 e4 hx
      obtain ⟨A1, c1, rfl, -⟩ := hok.bs.form
      obtain ⟨A2, c2, rfl, -⟩ := hok.bq.form
      obtain ⟨A3, c3, rfl, -⟩ := hok.cs.form
      obtain ⟨A4, c4, rfl, -⟩ := hok.st.form
      have HY := Lib.hid (hok.mono (G := fun i => i < w4.heap.size) (fun i _ hl => hl))
      have hm := Lib.hid hm
      have hr := Lib.hid hr
      clear hok
      go_wp2_with (first
        | ((with_reducible refine wl_alloc 38 ?_ ?_); (with_reducible rfl); refine sx_alloc rfl 38 rfl _ 21 zMs zMs_info rfl ?_; intro w5 b5 k5 z5; clear z5; (try simp only [Act.put, List.setIfInBounds_toArray, List.set_cons_zero, List.set_cons_succ]))
        | ((with_reducible refine wl_store 38 (.tmp 5) (.tmp 22) ?_ ?_); (with_reducible rfl); refine sx_storeW rfl 38 (.tmp 5) (.tmp 22) rfl w4.heap.size (msgV x (.slice A1 x.b.j.sg.length c1) (.slice A2 x.b.q.length c2) (.slice A3 x.c.sg.length c3) (.slice A4 x.s.ts.length c4)) zMs _ 21 rfl rfl b5 zMs_size rfl rfl rfl ?_; intro w6 b6 k6 z6; clear z6; (try simp only [Act.put, List.setIfInBounds_toArray, List.set_cons_zero, List.set_cons_succ]))
        | ((with_reducible refine wl_load 38 (.tmp 5) ?_ ?_); (with_reducible rfl); refine sy_loadW rfl 38 (.tmp 5) rfl w4.heap.size (msgV x (.slice A1 x.b.j.sg.length c1) (.slice A2 x.b.q.length c2) (.slice A3 x.c.sg.length c3) (.slice A4 x.s.ts.length c4)) _ _ 21 rfl b6 Try.underlying38 rfl zMs_size rfl ?_; (try simp only [Act.put, List.setIfInBounds_toArray, List.set_cons_zero, List.set_cons_succ])))
      have h6 := (h4.keep k5 (by simp)).keep k6 (fun i hi hm => by have := h4.lt i hm; simp at hi; omega)
      have Y6 := Lib.hid ((HY.out.keep (k5.at _ (by simp))).keep (k6.at _ (by simp)))
      have i6 : Keep [] w w6 := (i4.trans k5).new k6 (fun i hi => .inr (by have := i4.size; simp at hi; omega))
      refine (rmsg_call x _ _ _ _ _ _ Y6.out hsz).mono ?_
      rw [hm.out]
      rintro e w7 ⟨rfl, k7⟩
      have b7 := b6.keep k7 (by simp)
      have h7 := h6.keep k7 (by simp)
      have Y7 := Lib.hid (Y6.out.keep (k7.at _ (by simp)))
      clear b6 h6 Y6 h4 HY b5
      go_wp2_with (first
        | ((with_reducible refine wl_load 38 (.tmp 5) ?_ ?_); (with_reducible rfl); refine sy_loadW rfl 38 (.tmp 5) rfl w4.heap.size (msgV x (.slice A1 x.b.j.sg.length c1) (.slice A2 x.b.q.length c2) (.slice A3 x.c.sg.length c3) (.slice A4 x.s.ts.length c4)) _ _ 21 rfl b7 Try.underlying38 rfl zMs_size rfl ?_; (try simp only [Act.put, List.setIfInBounds_toArray, List.set_cons_zero, List.set_cons_succ])))
      refine (rightMsg_call x _ _ _ _ _ _ Y7.out).mono ?_
      rw [hr.out]
      rintro e w8 ⟨rfl, k8⟩
      have h8 := h7.keep k8 (by simp)
      go_wp2_with fail
      refine (qlen_QS h8 (by decide) (by decide)).mono ?_
      rintro e w9 ⟨rfl, k9⟩
      go_wp2
      go_ret
      exact ⟨rfl, ((i6.trans k7).trans k8).trans k9⟩
  · have hs2 : (800 : Int) < (b.size : Int) := by omega
    go_wp2_with fail
    refine (qawake_call _).mono ?_
    rintro e w2 ⟨rfl, k2⟩
    go_wp2
    go_ret
    exact ⟨rfl, k1.trans k2⟩
end Go.Proofs.Ytpndbidpennlcaa
