import Derived.Test.YtmpkhjfklgcmbaaRefO
import Derived.Test.YtmpkhjfklgcmbaaStrc2
import Derived.Test.YtmpkhjfklgcmbaaLawBlock
namespace Go.Proofs.Ytmpkhjfklgcmbaa
open Go.RowKit
set_option linter.unusedVariables false
set_option linter.unusedSimpArgs false
/-! the law WireMsgs -/
theorem fewMsg_sz {x : Ms} (h : fewMsg x = true) : MsSz x := by
  simp only [fewMsg, Bool.and_eq_true] at h
  have h1 := fewBlock_size x.b h.1
  have h2 := fewCert_size x.c h.2.1
  have h3 := fewSig_size x.s h.2.2.1
  exact ⟨by omega, by omega, by omega⟩
theorem maybeF_part (z : Bool) (b : ByteArray) (n m : Nat) (h0 : z = true → b.size ≤ m) (h : (maybeF z b).size ≤ n) (hm : m ≤ n) : b.size ≤ n := by
  cases z
  · have e : (maybeF false b).size = 1 + b.size := by unfold maybeF; rw [if_neg (by simp), ByteArray.size_append]; rfl
    omega
  · have := h0 rfl; omega
theorem MsSz.of_size {x : Ms} (h : (msgF x).size ≤ 1000000) : MsSz x := by
  unfold msgF at h
  simp only [ByteArray.size_append] at h
  have z1 : (blockF zBk).size ≤ 100 := by decide +kernel
  have z2 : (certF ⟨0, ⟨#[]⟩, []⟩).size ≤ 100 := by decide +kernel
  have z3 : (sigF ⟨0, []⟩).size ≤ 100 := by decide +kernel
  have h1 := maybeF_part (zeroBlock x.b) (blockF x.b) 1000000 100 (fun hz => by rw [zeroBlock_eq hz]; exact z1) (by omega) (by omega)
  have h2 := maybeF_part (zeroCert x.c) (certF x.c) 1000000 100 (fun hz => by rw [zeroCert_eq hz]; exact z2) (by omega) (by omega)
  have h3 := maybeF_part (zeroSig x.s) (sigF x.s) 1000000 100 (fun hz => by rw [zeroSig_eq hz]; exact z3) (by omega) (by omega)
  exact ⟨by omega, by omega, by omega⟩
theorem zM_sz : MsSz zM := MsSz.of_size (by decide +kernel)
theorem fewMsg_small {x : Ms} (h : fewMsg x = true) : (msgF x).size ≤ 20000 := by
  simp only [fewMsg, Bool.and_eq_true, decide_eq_true_eq] at h
  have h1 := fewBlock_size x.b h.1
  have h2 := fewCert_size x.c h.2.1
  have h3 := fewSig_size x.s h.2.2.1
  unfold msgF
  have z4 : (textF x.h).size = 4 + x.h.size := by unfold textF; rw [ByteArray.size_append, numF_size]
  have z10 : (textF x.g).size = 4 + x.g.size := by unfold textF; rw [ByteArray.size_append, numF_size]
  have z5 := maybeF_le (zeroBlock x.b) (blockF x.b)
  have z6 := maybeF_le (zeroCert x.c) (certF x.c)
  have z7 := maybeF_le (zeroSig x.s) (sigF x.s)
  have z8 := maybeF_le (zeroReq x.r) (reqF x.r)
  have zr : (reqF x.r).size = 12 + x.r.b.size := by unfold reqF textF; simp only [ByteArray.size_append, numF_size]; omega
  simp only [ByteArray.size_append, numF_size]
  omega
set_option maxRecDepth 100000 in
set_option maxHeartbeats 8000000 in
theorem wireMsgs_call (x : Ms) (v1 v2 v3 v4 : Value) (F : Nat → Prop) (w : World) (h : MsOk w F x v1 v2 v3 v4) :
    Calls Try.prog 9 #[.agg (msgV x v1 v2 v3 v4)] w fun e w' => e = .returned (.bool true) ∧ Keep [] w w' := by
  obtain ⟨A1, c1, rfl, l1⟩ := h.bs.form
  obtain ⟨A2, c2, rfl, l2⟩ := h.bq.form
  obtain ⟨A3, c3, rfl, l3⟩ := h.cs.form
  obtain ⟨A4, c4, rfl, l4⟩ := h.st.form
  have H0 := Lib.hid h
  clear h l1 l2 l3 l4
  go_enter Try.func9, Try.ntmps9
  go_wp2_with (first | (refine sx_box rfl 52 (.tmp 0) rfl (msgV x (.slice A1 x.b.j.sg.length c1) (.slice A2 x.b.q.length c2) (.slice A3 x.c.sg.length c3) (.slice A4 x.s.ts.length c4)) rfl ?_; intro w0 b0 k0 z0; clear z0; (try simp only [Act.put, List.setIfInBounds_toArray, List.set_cons_zero, List.set_cons_succ])))
  refine (awake_call _).mono ?_
  rintro e w1 ⟨rfl, k1⟩
  have b1 := b0.keep k1 (by simp)
  have kk1 := k0.trans k1
  clear k0 k1 b0
  go_wp2_with (first | (refine sy_loadW rfl 52 (.tmp 1) rfl w.heap.size (msgV x (.slice A1 x.b.j.sg.length c1) (.slice A2 x.b.q.length c2) (.slice A3 x.c.sg.length c3) (.slice A4 x.s.ts.length c4)) _ _ 21 rfl b1 Try.underlying52 rfl zMs_size rfl ?_; (try simp only [Act.put, List.setIfInBounds_toArray, List.set_cons_zero, List.set_cons_succ])))
  refine (fewMsg_call x _ _ _ _ F _ (H0.out.keep (kk1.at F (by simp)))).mono ?_
  rintro e w2 ⟨rfl, k2⟩
  have b2 := b1.keep k2 (by simp)
  have kk2 := kk1.trans k2
  clear b1 k2 kk1
  cases hfew : fewMsg x with
  | false =>
    clear hfew
    go_wp2_with fail
    refine (awake_call _).mono ?_
    rintro e w3 ⟨rfl, k3⟩
    go_wp2
    go_ret
    exact ⟨rfl, kk2.trans k3⟩
  | true =>
    have hsz := fewMsg_sz hfew
    have hsm := fewMsg_small hfew
    clear hfew
    go_wp2_with (first | (refine sy_loadW rfl 52 (.tmp 1) rfl w.heap.size (msgV x (.slice A1 x.b.j.sg.length c1) (.slice A2 x.b.q.length c2) (.slice A3 x.c.sg.length c3) (.slice A4 x.s.ts.length c4)) _ _ 21 rfl b2 Try.underlying52 rfl zMs_size rfl ?_; (try simp only [Act.put, List.setIfInBounds_toArray, List.set_cons_zero, List.set_cons_succ])))
    refine (msg_call x _ _ _ _ F _ (H0.out.keep (kk2.at F (by simp))) hsz).mono ?_
    rintro e w3 ⟨rfl, k3⟩
    have b3 := b2.keep k3 (by simp)
    have kk3 := kk2.trans k3
    clear b2 k3 kk2
    go_wp2_with fail
    refine (readMsg_call _ _).mono ?_
    rintro e w4 ⟨_, _, _, _, rfl, hok, k4⟩
    have HR := M3_holds (msgF x)
    have HF := M2_holds x
    have b4 := b3.keep k4 (by simp)
    have kk4 := kk3.trans k4
    clear b3 k4
    generalize readMsgF (msgF x) = rd at *
    obtain ⟨y, m⟩ := rd
    dsimp only at *
    obtain ⟨A5, c5, rfl, -⟩ := hok.bs.form
    obtain ⟨A6, c6, rfl, -⟩ := hok.bq.form
    obtain ⟨A7, c7, rfl, -⟩ := hok.cs.form
    obtain ⟨A8, c8, rfl, -⟩ := hok.st.form
    have HY := Lib.hid hok
    have HR := Lib.hid HR
    have HF := Lib.hid HF
    clear hok
    go_wp2_with (first
      | (refine sx_alloc rfl 52 rfl _ 21 zMs zMs_info rfl ?_; intro w5 q5 k5 z5; clear z5; (try simp only [Act.put, List.setIfInBounds_toArray, List.set_cons_zero, List.set_cons_succ]))
      | (refine sx_storeW rfl 52 (.tmp 4) (.tmp 19) rfl w4.heap.size (msgV y (.slice A5 y.b.j.sg.length c5) (.slice A6 y.b.q.length c6) (.slice A7 y.c.sg.length c7) (.slice A8 y.s.ts.length c8)) zMs _ 21 rfl rfl q5 zMs_size rfl rfl rfl ?_; intro w6 y6 k6 z6; clear z6; (try simp only [Act.put, List.setIfInBounds_toArray, List.set_cons_zero, List.set_cons_succ]); have b6 := (b4.keep k5 (by simp)).keep k6 (by have := b4.lt; simp; omega))
      | (refine sy_loadW rfl 52 (.tmp 1) rfl w.heap.size (msgV x (.slice A1 x.b.j.sg.length c1) (.slice A2 x.b.q.length c2) (.slice A3 x.c.sg.length c3) (.slice A4 x.s.ts.length c4)) _ _ 21 rfl b6 Try.underlying52 rfl zMs_size rfl ?_; (try simp only [Act.put, List.setIfInBounds_toArray, List.set_cons_zero, List.set_cons_succ])))
    have z45 := b4.lt
    have kk6 : Keep [] w w6 := (kk4.trans k5).new k6 (fun i hi => .inr (by have := kk4.size; simp at hi; omega))
    have Y6 : Hid (MsOk w6 (fun i => w3.heap.size ≤ i ∧ i < w4.heap.size) y (.slice A5 y.b.j.sg.length c5) (.slice A6 y.b.q.length c6) (.slice A7 y.c.sg.length c7) (.slice A8 y.s.ts.length c8)) :=
      Lib.hid (((HY.out.mono (G := fun i => w3.heap.size ≤ i ∧ i < w4.heap.size) (fun i hi hl => ⟨hi, hl⟩)).keep (k5.at _ (by simp))).keep (k6.at _ (by simp)))
    refine (rmsg_call x _ _ _ _ F _ (H0.out.keep (kk6.at F (by simp))) hsz).mono ?_
    rintro e w7 ⟨rfl, k7⟩
    have b7 := b6.keep k7 (by simp)
    have y7 := y6.keep k7 (by simp)
    have kk7 := kk6.trans k7
    have Y7 := Lib.hid (Y6.out.keep (k7.at _ (by simp)))
    clear b6 y6 kk6 Y6 k7 b4 kk4 k5 k6 q5 HY kk3
    go_wp2_with (first | (refine sy_loadW rfl 52 (.tmp 1) rfl w.heap.size (msgV x (.slice A1 x.b.j.sg.length c1) (.slice A2 x.b.q.length c2) (.slice A3 x.c.sg.length c3) (.slice A4 x.s.ts.length c4)) _ _ 21 rfl b7 Try.underlying52 rfl zMs_size rfl ?_; (try simp only [Act.put, List.setIfInBounds_toArray, List.set_cons_zero, List.set_cons_succ])))
    refine (rightMsg_call x _ _ _ _ F _ (H0.out.keep (kk7.at F (by simp)))).mono ?_
    rintro e w8 ⟨rfl, k8⟩
    have b8 := b7.keep k8 (by simp)
    have y8 := y7.keep k8 (by simp)
    have kk8 := kk7.trans k8
    have Y8 := Lib.hid (Y7.out.keep (k8.at _ (by simp)))
    clear b7 y7 kk7 Y7 k8
    cases hr : rightMsg x with
    | true =>
      have e2 := HF.out hr
      obtain rfl : y = x := congrArg Prod.fst e2
      obtain rfl : m = 0 := congrArg Prod.snd e2
      clear e2 hr HR HF
      go_wp2_with (first | (refine sy_loadW rfl 52 (.tmp 4) rfl w4.heap.size (msgV y (.slice A5 y.b.j.sg.length c5) (.slice A6 y.b.q.length c6) (.slice A7 y.c.sg.length c7) (.slice A8 y.s.ts.length c8)) _ _ 21 rfl y8 Try.underlying52 rfl zMs_size rfl ?_; (try simp only [Act.put, List.setIfInBounds_toArray, List.set_cons_zero, List.set_cons_succ])))
      refine (rmsg_call y _ _ _ _ _ _ Y8.out hsz).mono ?_
      rintro e w9 ⟨rfl, k9⟩
      have hb9 := MsAt.of (b8.keep k9 (by simp))
      have hy9 := MsAt.of (y8.keep k9 (by simp))
      obtain ⟨h0, h1, h2, h3, h4, h5, h6, h7, h8, h9, h10, h11, h12, h13, h14, h15, h16, h17, h18, h19, h20⟩ := hb9
      obtain ⟨g0, g1, g2, g3, g4, g5, g6, g7, g8, g9, g10, g11, g12, g13, g14, g15, g16, g17, g18, g19, g20⟩ := hy9
      clear h2 h3 h4 h5 h6 h7 h8 h9 h10 h11 h12 h13 h14 h15 h20 g2 g3 g4 g5 g6 g7 g8 g9 g10 g11 g12 g13 g14 g15 g20
      have heq := eq_req y.r y.r
      have he1 : eqReq y.r y.r = true := by simp [eqReq]
      rw [he1] at heq
      clear he1
      go_wp2
      go_ret
      exact ⟨rfl, kk8.trans k9⟩
    | false =>
      have hr' := Lib.hid hr
      clear hr HF
      rcases HR.out with e2 | ⟨z, e2, e3, e4⟩
      · obtain rfl : y = _ := congrArg Prod.fst e2
        obtain rfl : m = _ := congrArg Prod.snd e2
        clear e2
        go_wp2_with (first | (refine sy_loadW rfl 52 (.tmp 4) rfl w4.heap.size (msgV zM (.slice A5 zM.b.j.sg.length c5) (.slice A6 zM.b.q.length c6) (.slice A7 zM.c.sg.length c7) (.slice A8 zM.s.ts.length c8)) _ _ 21 rfl y8 Try.underlying52 rfl zMs_size rfl ?_; (try simp only [Act.put, List.setIfInBounds_toArray, List.set_cons_zero, List.set_cons_succ])))
        refine (rmsg_call zM _ _ _ _ _ _ Y8.out zM_sz).mono ?_
        rintro e w9 ⟨rfl, k9⟩
        go_wp2_with (first | (refine sy_build rfl 52 _ rfl zMs (by kernel_rfl) ?_; (try simp only [Act.put, List.setIfInBounds_toArray, List.set_cons_zero, List.set_cons_succ])))
        refine (rmsg_call zM (.slice none 0 0) (.slice none 0 0) (.slice none 0 0) (.slice none 0 0) (fun _ => False) _ (zM_ok _ _ _ _ _ _ _ _ _ _) zM_sz).mono ?_
        rintro e w10 ⟨rfl, k10⟩
        go_wp2
        go_ret
        exact ⟨by simp, (kk8.trans k9).trans k10⟩
      · obtain rfl : y = z := congrArg Prod.fst e2
        obtain rfl : m = 0 := congrArg Prod.snd e2
        have hys : MsSz y := MsSz.of_size (by rw [e4]; omega)
        have HYr := Lib.hid e3
        have HB := Lib.hid e4
        clear e2 e3 e4 HR
        go_wp2_with (first | (refine sy_loadW rfl 52 (.tmp 4) rfl w4.heap.size (msgV y (.slice A5 y.b.j.sg.length c5) (.slice A6 y.b.q.length c6) (.slice A7 y.c.sg.length c7) (.slice A8 y.s.ts.length c8)) _ _ 21 rfl y8 Try.underlying52 rfl zMs_size rfl ?_; (try simp only [Act.put, List.setIfInBounds_toArray, List.set_cons_zero, List.set_cons_succ])))
        refine (rightMsg_call y _ _ _ _ _ _ Y8.out).mono ?_
        rintro e w9 ⟨rfl, k9⟩
        rw [HYr.out]
        have y9 := y8.keep k9 (by simp)
        have Y9 := Lib.hid (Y8.out.keep (k9.at _ (by simp)))
        go_wp2_with (first | (refine sy_loadW rfl 52 (.tmp 4) rfl w4.heap.size (msgV y (.slice A5 y.b.j.sg.length c5) (.slice A6 y.b.q.length c6) (.slice A7 y.c.sg.length c7) (.slice A8 y.s.ts.length c8)) _ _ 21 rfl y9 Try.underlying52 rfl zMs_size rfl ?_; (try simp only [Act.put, List.setIfInBounds_toArray, List.set_cons_zero, List.set_cons_succ])))
        refine (rmsg_call y _ _ _ _ _ _ Y9.out hys).mono ?_
        rintro e w10 ⟨rfl, k10⟩
        rw [HB.out]
        go_wp2
        go_ret
        exact ⟨by simp, (kk8.trans k9).trans k10⟩
end Go.Proofs.Ytmpkhjfklgcmbaa
