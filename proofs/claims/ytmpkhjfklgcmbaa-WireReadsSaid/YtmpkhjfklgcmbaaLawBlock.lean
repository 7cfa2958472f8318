import Derived.Test.YtmpkhjfklgcmbaaThy3
import Derived.Test.YtmpkhjfklgcmbaaLawCert
namespace Go.Proofs.Ytmpkhjfklgcmbaa
open Go.RowKit
set_option linter.unusedVariables false
set_option linter.unusedSimpArgs false
theorem fewBlock_size (x : Bk) (h : fewBlock x = true) : (blockF x).size ≤ 5000 ∧ (coreF x).size ≤ 5000 := by
  unfold fewBlock at h
  simp only [Bool.and_eq_true, decide_eq_true_eq, List.all_eq_true] at h
  have h1 := cat_size_le 72 (x.q.map reqF) (fun t ht => by
    obtain ⟨r, hr, rfl⟩ := List.mem_map.1 ht
    have := h.1.1 r (by rwa [List.take_of_length_le (by omega)])
    unfold reqF textF
    rw [ByteArray.size_append, ByteArray.size_append, ByteArray.size_append, numF_size, numF_size, numF_size]
    omega)
  have h2 := fewCert_size x.j h.2
  have h5 : (x.j.h.size : Int) ≤ 50 := by
    have := h.2
    unfold fewCert at this
    simp only [Bool.and_eq_true, decide_eq_true_eq] at this
    exact this.2
  rw [List.length_map] at h1
  have h3 := h.1.2
  have h4 : 72 * x.q.length ≤ 432 := by omega
  unfold blockF coreF batchF
  simp only [ByteArray.size_append, numF_size]
  omega
theorem zeroBlock_zero : zeroBlock ⟨0, 0, ⟨0, ⟨#[]⟩, []⟩, []⟩ = true := by decide +kernel
set_option maxHeartbeats 4000000 in
theorem wireBlocks_call (x : Bk) (v u : Value) (F : Nat → Prop) (w : World) (h : SliceOf Rep.sg w F v x.j.sg) (h2 : SliceOf Rep.req w F u x.q) (hv : I64 x.v) (hp : I64 x.p) (hj : I64 x.j.v) :
    Calls Try.prog 7 #[.agg #[.int .i64 x.v, .int .i64 x.p, .int .i64 x.j.v, .string x.j.h, v, u]] w fun e w' => e = .returned (.bool true) ∧ Keep [] w w' := by
  obtain ⟨A, c, rfl, hl⟩ := h.form
  obtain ⟨B, d, rfl, hd⟩ := h2.form
  go_enter Try.func7, Try.ntmps7
  go_wp2_with fail
  refine (awake_call _).mono ?_
  rintro e w1 ⟨rfl, k1⟩
  have b1 := (Blk.new w #[.int .i64 x.v, .int .i64 x.p, .int .i64 x.j.v, .string x.j.h, .slice A x.j.sg.length c, .slice B x.q.length d] 31).keep k1 (by simp)
  have kk1 : Keep [] w w1 := ((Keep.refl _ _).alloc _).trans k1
  obtain ⟨c0, c1, c2, c3, c4, c5⟩ := b1.six
  go_wp2_with fail
  refine (fewBlock_call x _ _ F _ (h.keep (kk1.at F (by simp))) (h2.keep (kk1.at F (by simp)))).mono ?_
  rintro e w2 ⟨rfl, k2⟩
  have b2 := b1.keep k2 (by simp)
  have kk2 := kk1.trans k2
  clear c0 c1 c2 c3 c4 c5
  obtain ⟨c0, c1, c2, c3, c4, c5⟩ := b2.six
  cases hfew : fewBlock x
  · go_wp2_with fail
    refine (awake_call _).mono ?_
    rintro e w3 ⟨rfl, k3⟩
    go_wp2
    go_ret
    exact ⟨rfl, kk2.trans k3⟩
  · obtain ⟨hsz, hszc⟩ := fewBlock_size x hfew
    have hsz2 : (blockF x).size ≤ 4611686018427387904 := by omega
    have hsz3 : (coreF x).size ≤ 4611686018427387904 := by omega
    go_wp2_with fail
    refine (block_call x _ _ F _ (h.keep (kk2.at F (by simp))) (h2.keep (kk2.at F (by simp))) hsz2).mono ?_
    rintro e w3 ⟨rfl, k3⟩
    have b3 := b2.keep k3 (by simp)
    have kk3 := kk2.trans k3
    go_wp2_with fail
    refine (readBlock_call _ _).mono ?_
    rintro e w4 ⟨v', u', rfl, hsl, hsq, k4⟩
    have HR := B3_holds (blockF x)
    have HF := B2_holds x
    generalize hrd : readBlockF (blockF x) = rd at *
    clear hrd
    obtain ⟨y, m⟩ := rd
    dsimp only at *
    obtain ⟨A', c', rfl, hl'⟩ := hsl.form
    obtain ⟨B', d', rfl, hd'⟩ := hsq.form
    have b4 := (b3.keep k4 (by simp)).alloc (.cells #[.int .i64 y.v, .int .i64 y.p, .int .i64 y.j.v, .string y.j.h, .slice A' y.j.sg.length c', .slice B' y.q.length d'] 31)
    have y4 := Blk.new w4 #[.int .i64 y.v, .int .i64 y.p, .int .i64 y.j.v, .string y.j.h, .slice A' y.j.sg.length c', .slice B' y.q.length d'] 31
    have kk4 := (kk3.trans k4).alloc (.cells #[.int .i64 y.v, .int .i64 y.p, .int .i64 y.j.v, .string y.j.h, .slice A' y.j.sg.length c', .slice B' y.q.length d'] 31)
    have hs4 := hsl.keep (((Keep.refl [] w4).alloc (.cells #[.int .i64 y.v, .int .i64 y.p, .int .i64 y.j.v, .string y.j.h, .slice A' y.j.sg.length c', .slice B' y.q.length d'] 31)).at (New w3) (by simp))
    have hq4 := hsq.keep (((Keep.refl [] w4).alloc (.cells #[.int .i64 y.v, .int .i64 y.p, .int .i64 y.j.v, .string y.j.h, .slice A' y.j.sg.length c', .slice B' y.q.length d'] 31)).at (New w3) (by simp))
    clear c0 c1 c2 c3 c4 c5 hsl hsq
    obtain ⟨c0, c1, c2, c3, c4, c5⟩ := b4.six
    go_wp2_with fail
    generalize hW4 : w4.alloc (.cells #[.int .i64 y.v, .int .i64 y.p, .int .i64 y.j.v, .string y.j.h, .slice A' y.j.sg.length c', .slice B' y.q.length d'] 31) = W4 at *
    clear hW4
    refine wp_region_class (C := fun w' => Keep [] W4 w' ∧ w'.cell? ⟨w.heap.size, 0, none⟩ = some (.int .i64 x.v) ∧ w'.cell? ⟨w.heap.size, 1, none⟩ = some (.int .i64 x.p) ∧ w'.cell? ⟨w.heap.size, 2, none⟩ = some (.int .i64 x.j.v) ∧ w'.cell? ⟨w.heap.size, 3, none⟩ = some (.string x.j.h) ∧ w'.cell? ⟨w.heap.size, 4, none⟩ = some (.slice A x.j.sg.length c) ∧ w'.cell? ⟨w.heap.size, 5, none⟩ = some (.slice B x.q.length d)) (by kernel_rfl) (by kernel_rfl) ⟨(Keep.refl _ _).drew, c0, c1, c2, c3, c4, c5⟩ ?_
    iterate 11 (first
      | go_big_quiet_skip
      | (go_big_quiet_want; first
        | (go_big_quiet_op; go_big_quiet_on)
        | (refine quiet_run (v := ?_) ?_ ?_; (rotate_left; (intro w' hC; (try dsimp only at hC); go_split_ands; go_simp; with_reducible rfl); simp only [Act.put, List.setIfInBounds_toArray, List.set_cons_zero, List.set_cons_succ]; go_big_quiet_on))
        | (refine quiet_call (v := ?_) (f := ?_) (args := ?_) ?_ ?_ ?_; (rotate_left; rotate_left; rotate_left; (intro w' hC; (try dsimp only at hC); go_split_ands; go_simp; (refine ⟨?_, ?_⟩ <;> with_reducible rfl)); (intro w' hC; first | (go_at_call 29; refine (rblock_call x _ _ F _ (h.keep ((kk4.trans hC.1).at F (by simp))) (h2.keep ((kk4.trans hC.1).at F (by simp))) hv hp hj hsz2).mono ?_; rintro e w5 ⟨rfl, kq⟩; refine ⟨?_, Keep.trans hC.1 kq, Keep.cell kq (by simp) hC.2.1, Keep.cell kq (by simp) hC.2.2.1, Keep.cell kq (by simp) hC.2.2.2.1, Keep.cell kq (by simp) hC.2.2.2.2.1, Keep.cell kq (by simp) hC.2.2.2.2.2.1, Keep.cell kq (by simp) hC.2.2.2.2.2.2⟩; with_reducible rfl) | (go_at_call 30; refine (core_call x _ _ F _ (h.keep ((kk4.trans hC.1).at F (by simp))) (h2.keep ((kk4.trans hC.1).at F (by simp))) hsz3).mono ?_; rintro e w5 ⟨rfl, kq⟩; refine ⟨?_, Keep.trans hC.1 kq, Keep.cell kq (by simp) hC.2.1, Keep.cell kq (by simp) hC.2.2.1, Keep.cell kq (by simp) hC.2.2.2.1, Keep.cell kq (by simp) hC.2.2.2.2.1, Keep.cell kq (by simp) hC.2.2.2.2.2.1, Keep.cell kq (by simp) hC.2.2.2.2.2.2⟩; with_reducible rfl) | (go_at_call 31; refine (rcore_call x _ _ F _ (h.keep ((kk4.trans hC.1).at F (by simp))) (h2.keep ((kk4.trans hC.1).at F (by simp))) hv hp hj hsz3).mono ?_; rintro e w5 ⟨rfl, kq⟩; refine ⟨?_, Keep.trans hC.1 kq, Keep.cell kq (by simp) hC.2.1, Keep.cell kq (by simp) hC.2.2.1, Keep.cell kq (by simp) hC.2.2.2.1, Keep.cell kq (by simp) hC.2.2.2.2.1, Keep.cell kq (by simp) hC.2.2.2.2.2.1, Keep.cell kq (by simp) hC.2.2.2.2.2.2⟩; with_reducible rfl)); simp only [Act.put, List.setIfInBounds_toArray, List.set_cons_zero, List.set_cons_succ]; go_big_quiet_on))))
    refine wpQuiet_nil ?_
    intro w5 hC5
    have k5 := hC5.1
    clear hC5
    have b5 := b4.keep k5 (by simp)
    have y5 := y4.keep k5 (by simp)
    have kk5 := kk4.trans k5
    have hs5 := hs4.keep (k5.at (New w3) (by simp))
    have hq5 := hq4.keep (k5.at (New w3) (by simp))
    clear c0 c1 c2 c3 c4 c5
    obtain ⟨c0, c1, c2, c3, c4, c5⟩ := b5.six
    go_wp2_with fail
    refine (rightBlock_call x _ _ F _ (h.keep (kk5.at F (by simp))) (h2.keep (kk5.at F (by simp)))).mono ?_
    rintro e w6 ⟨rfl, k6⟩
    have b6 := b5.keep k6 (by simp)
    have y6 := y5.keep k6 (by simp)
    have kk6 := kk5.trans k6
    have hs6 := hs5.keep (k6.at (New w3) (by simp))
    have hq6 := hq5.keep (k6.at (New w3) (by simp))
    clear c0 c1 c2 c3 c4 c5
    obtain ⟨c0, c1, c2, c3, c4, c5⟩ := b6.six
    obtain ⟨d0, d1, d2, d3, d4, d5⟩ := y6.six
    cases hr : rightBlock x
    · have hr' := Lib.hid hr
      clear hr
      rcases HR with e2 | ⟨z, e2, e3, e4⟩
      · obtain rfl : y = _ := congrArg Prod.fst e2
        obtain rfl : m = _ := congrArg Prod.snd e2
        clear e2
        go_wp2_with fail
        refine (zeroBlock_call ⟨0, 0, ⟨0, ⟨#[]⟩, []⟩, []⟩ A' B' c' d' _).mono ?_
        rintro e w7 ⟨rfl, k7⟩
        have HZ := Lib.hid zeroBlock_zero
        rw [HZ.out]
        go_wp2
        go_ret
        exact ⟨rfl, kk6.trans k7⟩
      · obtain rfl : y = z := congrArg Prod.fst e2
        obtain rfl : m = 0 := congrArg Prod.snd e2
        have hy := (rightBlock_iff y).1 e3
        have hyc := (rightCert_iff y.j).1 hy.2.2.2.2.1
        have hyv : I64 y.v := by unfold I64; omega
        have hyp : I64 y.p := by unfold I64; omega
        have hyj : I64 y.j.v := by unfold I64; omega
        have HY := Lib.hid e3
        have HB := Lib.hid e4
        have hysz : (blockF y).size ≤ 4611686018427387904 := by rw [e4]; omega
        clear e2 e3 e4 HF hy hyc
        go_wp2_with fail
        refine (rightBlock_call y _ _ (New w3) _ hs6 hq6).mono ?_
        rintro e w7 ⟨rfl, k7⟩
        rw [HY.out]
        have y7 := y6.keep k7 (by simp)
        have hs7 := hs6.keep (k7.at (New w3) (by simp))
        have hq7 := hq6.keep (k7.at (New w3) (by simp))
        clear d0 d1 d2 d3 d4 d5
        obtain ⟨d0, d1, d2, d3, d4, d5⟩ := y7.six
        go_wp2_with fail
        refine (rblock_call y _ _ (New w3) _ hs7 hq7 hyv hyp hyj hysz).mono ?_
        rintro e w8 ⟨rfl, k8⟩
        rw [HB.out]
        go_wp2
        go_ret
        exact ⟨by simp, (kk6.trans k7).trans k8⟩
    · have e2 := HF hr
      obtain rfl : y = x := congrArg Prod.fst e2
      obtain rfl : m = 0 := congrArg Prod.snd e2
      clear e2 hr HR HF
      go_wp2_with fail
      refine (rblock_call y _ _ (New w3) _ hs6 hq6 hv hp hj hsz2).mono ?_
      rintro e w7 ⟨rfl, k7⟩
      have b7 := b6.keep k7 (by simp)
      have y7 := y6.keep k7 (by simp)
      clear c0 c1 c2 c3 c4 c5 d0 d1 d2 d3 d4 d5
      obtain ⟨c0, c1, c2, c3, c4, c5⟩ := b7.six
      obtain ⟨d0, d1, d2, d3, d4, d5⟩ := y7.six
      go_wp2
      go_ret
      exact ⟨by simp, kk6.trans k7⟩
end Go.Proofs.Ytmpkhjfklgcmbaa
