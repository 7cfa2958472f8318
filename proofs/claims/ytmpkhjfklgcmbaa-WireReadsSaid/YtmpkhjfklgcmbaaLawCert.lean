import Derived.Test.YtmpkhjfklgcmbaaThy2
import Derived.Test.YtmpkhjfklgcmbaaRefD
import Derived.Test.YtmpkhjfklgcmbaaLawReq
namespace Go.Proofs.Ytmpkhjfklgcmbaa
open Go.RowKit
set_option linter.unusedVariables false
set_option linter.unusedSimpArgs false
theorem cat_size_le (n : Nat) : ∀ (l : List ByteArray), (∀ t ∈ l, t.size ≤ n) → (cat l).size ≤ n * l.length
  | [], _ => by simp [cat_nil]
  | a :: l, h => by
    rw [cat_cons, ByteArray.size_append, List.length_cons, Nat.mul_add, Nat.mul_one]
    have h1 := h a (by simp)
    have h2 := cat_size_le n l (fun t ht => h t (by simp [ht]))
    omega
theorem fewSig_size (x : Sg) (h : fewSig x = true) : (sigF x).size ≤ 308 := by
  unfold fewSig at h
  simp only [Bool.and_eq_true, decide_eq_true_eq, List.all_eq_true] at h
  have h1 := cat_size_le 30 x.ts (fun t ht => by
    have := h.1 t (by rwa [List.take_of_length_le (by omega)])
    omega)
  unfold sigF
  rw [ByteArray.size_append, ByteArray.size_append, numF_size, numF_size]
  have h2 := h.2
  have h3 : 30 * x.ts.length ≤ 300 := by omega
  omega
theorem fewCert_size (x : Ct) (h : fewCert x = true) : (certF x).size ≤ 3200 := by
  unfold fewCert at h
  simp only [Bool.and_eq_true, decide_eq_true_eq, List.all_eq_true] at h
  have h1 := cat_size_le 308 (x.sg.map sigF) (fun t ht => by
    obtain ⟨s, hs, rfl⟩ := List.mem_map.1 ht
    exact fewSig_size s (h.1.1 s (by rwa [List.take_of_length_le (by omega)])))
  unfold certF
  rw [ByteArray.size_append, ByteArray.size_append, ByteArray.size_append, numF_size, numF_size]
  rw [List.length_map] at h1
  have h2 := h.1.2
  have h4 := h.2
  have h3 : 308 * x.sg.length ≤ 3080 := by omega
  omega
theorem toList_beq (a : ByteArray) : (a.toList == a.toList) = true := by simp
theorem zeroCert_zero : zeroCert ⟨0, ⟨#[]⟩, []⟩ = true := by decide +kernel
set_option maxHeartbeats 2000000 in
theorem wireCerts_call (x : Ct) (v : Value) (F : Nat → Prop) (w : World) (h : SliceOf Rep.sg w F v x.sg) (hv : I64 x.v) :
    Calls Try.prog 6 #[.agg #[.int .i64 x.v, .string x.h, v]] w fun e w' => e = .returned (.bool true) ∧ Keep [] w w' := by
  obtain ⟨A, c, rfl, hl⟩ := h.form
  go_enter Try.func6, Try.ntmps6
  go_wp2_with fail
  refine (awake_call _).mono ?_
  rintro e w1 ⟨rfl, k1⟩
  have b1 := (Blk.new w #[.int .i64 x.v, .string x.h, .slice A x.sg.length c] 28).keep k1 (by simp)
  have kk1 : Keep [] w w1 := ((Keep.refl _ _).alloc _).trans k1
  have c0 := b1.cell 0
  have c1 := b1.cell 1
  have c2 := b1.cell 2
  simp only [List.getElem?_toArray, List.getElem?_cons_zero, List.getElem?_cons_succ] at c0 c1 c2
  go_wp2_with fail
  refine (fewCert_call x _ F _ (h.keep (kk1.at F (by simp)))).mono ?_
  rintro e w2 ⟨rfl, k2⟩
  have b2 := b1.keep k2 (by simp)
  have kk2 := kk1.trans k2
  clear c0 c1 c2
  have c0 := b2.cell 0
  have c1 := b2.cell 1
  have c2 := b2.cell 2
  simp only [List.getElem?_toArray, List.getElem?_cons_zero, List.getElem?_cons_succ] at c0 c1 c2
  cases hfew : fewCert x
  · go_wp2_with fail
    refine (awake_call _).mono ?_
    rintro e w3 ⟨rfl, k3⟩
    go_wp2
    go_ret
    exact ⟨rfl, kk2.trans k3⟩
  · have hsz := fewCert_size x hfew
    have hsz2 : (certF x).size ≤ 4611686018427387904 := by omega
    go_wp2_with fail
    refine (cert_call x _ F _ (h.keep (kk2.at F (by simp))) hsz2).mono ?_
    rintro e w3 ⟨rfl, k3⟩
    have b3 := b2.keep k3 (by simp)
    have kk3 := kk2.trans k3
    go_wp2_with fail
    refine (readCert_call _ _).mono ?_
    rintro e w4 ⟨u, rfl, hsl, k4⟩
    have HR := C3_holds (certF x)
    have HF := C2_holds x
    generalize hrd : readCertF (certF x) = rd at *
    clear hrd
    obtain ⟨y, m⟩ := rd
    dsimp only at *
    obtain ⟨B, d, rfl, hd⟩ := hsl.form
    have b4 := (b3.keep k4 (by simp)).alloc (.cells #[.int .i64 y.v, .string y.h, .slice B y.sg.length d] 28)
    have y4 := Blk.new w4 #[.int .i64 y.v, .string y.h, .slice B y.sg.length d] 28
    have kk4 := (kk3.trans k4).alloc (.cells #[.int .i64 y.v, .string y.h, .slice B y.sg.length d] 28)
    have hs4 := hsl.keep (((Keep.refl [] w4).alloc (.cells #[.int .i64 y.v, .string y.h, .slice B y.sg.length d] 28)).at (New w3) (by simp))
    clear c0 c1 c2
    have c0 := b4.cell 0
    have c1 := b4.cell 1
    have c2 := b4.cell 2
    simp only [List.getElem?_toArray, List.getElem?_cons_zero, List.getElem?_cons_succ] at c0 c1 c2
    go_wp2_with fail
    refine (rcert_call x _ F _ (h.keep (kk4.at F (by simp))) hv hsz2).mono ?_
    rintro e w5 ⟨rfl, k5⟩
    have b5 := b4.keep k5 (by simp)
    have y5 := y4.keep k5 (by simp)
    have kk5 := kk4.trans k5
    have hs5 := hs4.keep (k5.at (New w3) (by simp))
    clear c0 c1 c2
    have c0 := b5.cell 0
    have c1 := b5.cell 1
    have c2 := b5.cell 2
    have d0 := y5.cell 0
    have d1 := y5.cell 1
    have d2 := y5.cell 2
    simp only [List.getElem?_toArray, List.getElem?_cons_zero, List.getElem?_cons_succ] at c0 c1 c2 d0 d1 d2
    go_wp2_with fail
    refine (rightCert_call x _ F _ (h.keep (kk5.at F (by simp)))).mono ?_
    rintro e w6 ⟨rfl, k6⟩
    have b6 := b5.keep k6 (by simp)
    have y6 := y5.keep k6 (by simp)
    have kk6 := kk5.trans k6
    have hs6 := hs5.keep (k6.at (New w3) (by simp))
    clear c0 c1 c2 d0 d1 d2
    have c0 := b6.cell 0
    have c1 := b6.cell 1
    have c2 := b6.cell 2
    have d0 := y6.cell 0
    have d1 := y6.cell 1
    have d2 := y6.cell 2
    simp only [List.getElem?_toArray, List.getElem?_cons_zero, List.getElem?_cons_succ] at c0 c1 c2 d0 d1 d2
    cases hr : rightCert x
    · have hr' := Lib.hid hr
      clear hr
      rcases HR with h2 | ⟨z, h2, h3, h4⟩
      · obtain rfl : y = _ := congrArg Prod.fst h2
        obtain rfl : m = _ := congrArg Prod.snd h2
        clear h2
        go_wp2_with fail
        refine (zeroCert_call ⟨0, ⟨#[]⟩, []⟩ B d _).mono ?_
        rintro e w7 ⟨rfl, k7⟩
        have HZ := Lib.hid zeroCert_zero
        rw [HZ.out]
        go_wp2
        go_ret
        exact ⟨rfl, kk6.trans k7⟩
      · obtain rfl : y = z := congrArg Prod.fst h2
        obtain rfl : m = 0 := congrArg Prod.snd h2
        have hyv : I64 y.v := by have := (rightCert_iff y).1 h3; unfold I64; omega
        have HY := Lib.hid h3
        have HB := Lib.hid h4
        have hysz : (certF y).size ≤ 4611686018427387904 := by rw [h4]; omega
        clear h2 h3 h4 HF
        go_wp2_with fail
        refine (rightCert_call y _ (New w3) _ hs6).mono ?_
        rintro e w7 ⟨rfl, k7⟩
        rw [HY.out]
        have y7 := y6.keep k7 (by simp)
        have hs7 := hs6.keep (k7.at (New w3) (by simp))
        clear d0 d1 d2
        have d0 := y7.cell 0
        have d1 := y7.cell 1
        have d2 := y7.cell 2
        simp only [List.getElem?_toArray, List.getElem?_cons_zero, List.getElem?_cons_succ] at d0 d1 d2
        go_wp2_with fail
        refine (rcert_call y _ (New w3) _ hs7 hyv hysz).mono ?_
        rintro e w8 ⟨rfl, k8⟩
        rw [HB.out]
        go_wp2
        go_ret
        exact ⟨by simp, (kk6.trans k7).trans k8⟩
    · have h2 := HF hr
      obtain rfl : y = x := congrArg Prod.fst h2
      obtain rfl : m = 0 := congrArg Prod.snd h2
      have hr' := Lib.hid hr
      clear h2 hr HR HF
      go_wp2_with fail
      refine (rightCert_call y _ (New w3) _ hs6).mono ?_
      rintro e w7 ⟨rfl, k7⟩
      rw [hr'.out]
      have b7 := b6.keep k7 (by simp)
      have y7 := y6.keep k7 (by simp)
      have hs7 := hs6.keep (k7.at (New w3) (by simp))
      clear c0 c1 c2 d0 d1 d2
      have d0 := y7.cell 0
      have d1 := y7.cell 1
      have d2 := y7.cell 2
      simp only [List.getElem?_toArray, List.getElem?_cons_zero, List.getElem?_cons_succ] at d0 d1 d2
      go_wp2_with fail
      refine (cert_call y _ (New w3) _ hs7 hsz2).mono ?_
      rintro e w8 ⟨rfl, k8⟩
      have b8 := b7.keep k8 (by simp)
      have y8 := y7.keep k8 (by simp)
      clear d0 d1 d2
      have c0 := b8.cell 0
      have c1 := b8.cell 1
      have c2 := b8.cell 2
      have d0 := y8.cell 0
      have d1 := y8.cell 1
      have d2 := y8.cell 2
      simp only [List.getElem?_toArray, List.getElem?_cons_zero, List.getElem?_cons_succ] at c0 c1 c2 d0 d1 d2
      go_wp2
      go_ret
      exact ⟨by simp, (kk6.trans k7).trans k8⟩
end Go.Proofs.Ytmpkhjfklgcmbaa
