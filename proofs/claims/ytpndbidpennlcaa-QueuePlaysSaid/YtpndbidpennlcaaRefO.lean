import Derived.Test.YtpndbidpennlcaaRefN
namespace Go.Proofs.Ytpndbidpennlcaa
open Go.RowKit
set_option linter.unusedVariables false
set_option linter.unusedSimpArgs false
theorem ret_bool {a b : Bool} (h : a = b) : Ending.returned (.bool a) = .returned (.bool b) := by rw [h]
theorem toList_nil_iff (b : ByteArray) : b.toList = [] ↔ b.size = 0 := by
  rw [ByteArray.toList_eq]
  constructor
  · intro h
    have : b.data.toList.length = 0 := by rw [h]; rfl
    simpa using this
  · intro h
    have : b.data.toList.length = 0 := by simpa using h
    exact List.eq_nil_of_length_eq_zero this
set_option maxRecDepth 100000 in
set_option maxHeartbeats 8000000 in
theorem rightMsg_call (x : Ms) (v1 v2 v3 v4 : Value) (F : Nat → Prop) (w : World) (h : MsOk w F x v1 v2 v3 v4) :
    Calls Try.prog 13 #[.agg (msgV x v1 v2 v3 v4)] w fun e w' => e = .returned (.bool (rightMsg x)) ∧ Keep [] w w' := by
  obtain ⟨hk, hf, ht, hv, hh, hbv, hbp, hbj, hbh, hbs, hbq, hcv, hch, hcs, hsf, hst, hrc, hrs, hrb, hi, hg⟩ := h
  unfold M47 at hh hbh hch hrb hg
  obtain ⟨A1, c1, rfl, l1⟩ := hbs.form
  obtain ⟨A2, c2, rfl, l2⟩ := hbq.form
  obtain ⟨A3, c3, rfl, l3⟩ := hcs.form
  obtain ⟨A4, c4, rfl, l4⟩ := hst.form
  have hc := MsAt.of (Blk.new w (msgV x (.slice A1 x.b.j.sg.length c1) (.slice A2 x.b.q.length c2) (.slice A3 x.c.sg.length c3) (.slice A4 x.s.ts.length c4)) 38)
  have kc : Keep [] w (w.alloc (.cells (msgV x (.slice A1 x.b.j.sg.length c1) (.slice A2 x.b.q.length c2) (.slice A3 x.c.sg.length c3) (.slice A4 x.s.ts.length c4)) 38)) := (Keep.refl _ _).alloc _
  unfold msgV at hc kc
  dsimp only [msgV]
  have HE : Hid (rightMsg x = (rightHead x && (rightTail x && ((zeroBlock x.b || rightBlock x.b) && ((zeroCert x.c || rightCert x.c) && ((zeroSig x.s || rightSig x.s) && (zeroReq x.r || rightReq x.r))))))) := Lib.hid rfl
  have HHd : Hid (rightHead x = decide (1 ≤ x.k ∧ x.k ≤ 7 ∧ 0 ≤ x.f ∧ x.f ≤ 20 ∧ 0 ≤ x.t ∧ x.t ≤ 20 ∧ 0 ≤ x.v ∧ x.v ≤ 1000000)) := Lib.hid rfl
  have HTl : Hid (rightTail x = decide (0 ≤ x.i ∧ x.i ≤ 2147483647 ∧ (x.h.size = 0 ∨ x.h.size = 32) ∧ (x.g.size = 0 ∨ x.g.size = 16))) := Lib.hid rfl
  have NI : Hid (∀ b : ByteArray, b.toList = [] ↔ b.size = 0) := Lib.hid toList_nil_iff
  generalize rightMsg x = out at *
  generalize rightHead x = hd at *
  generalize rightTail x = tl at *
  go_enter Try.func13, Try.ntmps13
  have HC := Lib.hid hc
  clear hc
  go_upto_region 1 with fail
  generalize w.alloc (.cells #[.int .i64 x.k, .int .i64 x.f, .int .i64 x.t, .int .i64 x.v, .string x.h, .int .i64 x.b.v, .int .i64 x.b.p, .int .i64 x.b.j.v, .string x.b.j.h, .slice A1 x.b.j.sg.length c1, .slice A2 x.b.q.length c2, .int .i64 x.c.v, .string x.c.h, .slice A3 x.c.sg.length c3, .int .i64 x.s.f, .slice A4 x.s.ts.length c4, .int .i64 x.r.c, .int .i64 x.r.s, .string x.r.b, .int .i64 x.i, .string x.g] 38) = w0 at *
  go_cut [40] (fun v wx => v = .bool (!hd) ∧ w0 = wx)
  case first =>
    obtain ⟨h0, h1, h2, h3, h4, h5, h6, h7, h8, h9, h10, h11, h12, h13, h14, h15, h16, h17, h18, h19, h20⟩ := HC.out
    clear h4 h5 h6 h7 h8 h9 h10 h11 h12 h13 h14 h15 h16 h17 h18 h19 h20
    go_wp2_with fail
    all_goals
      go_meet
      refine ⟨congrArg Value.bool ?_, rfl⟩
      rw [HHd.out]
      rw [Bool.eq_iff_iff]
      simp only [Bool.or_eq_true, Bool.and_eq_true, decide_eq_true_eq, Bool.not_eq_true', decide_eq_false_iff_not, true_iff, Bool.false_eq_true, false_iff]
      omega
  case rest =>
    obtain ⟨rfl, rfl⟩ := hcut
    cases hd with
    | false =>
      go_wp2
      go_ret
      exact ⟨by rw [HE.out]; rfl, kc⟩
    | true =>
    go_upto_region 3 with fail
    go_cut [70] (fun v wx => v = .bool (!tl) ∧ w0 = wx)
    case first =>
      obtain ⟨h0, h1, h2, h3, h4, h5, h6, h7, h8, h9, h10, h11, h12, h13, h14, h15, h16, h17, h18, h19, h20⟩ := HC.out
      clear h0 h1 h2 h3 h5 h6 h7 h8 h9 h10 h11 h12 h13 h14 h15 h16 h17 h18
      by_cases p1 : x.h.size = 0 <;> by_cases p2 : x.g.size = 0
      all_goals
        first | (have r1 := (toList_nil_iff x.h).2 p1) | (have r1 : ¬ x.h.toList = [] := fun h => p1 ((toList_nil_iff x.h).1 h))
        first | (have r2 := (toList_nil_iff x.g).2 p2) | (have r2 : ¬ x.g.toList = [] := fun h => p2 ((toList_nil_iff x.g).1 h))
        have p1 := Lib.hid p1
        have p2 := Lib.hid p2
        go_wp2_with fail
        all_goals
          go_meet
          have p1 := p1.out
          have p2 := p2.out
          refine ⟨congrArg Value.bool ?_, rfl⟩
          rw [HTl.out]
          rw [Bool.eq_iff_iff]
          simp only [Bool.or_eq_true, Bool.and_eq_true, decide_eq_true_eq, Bool.not_eq_true', decide_eq_false_iff_not, bne_iff_ne, ne_eq, true_iff, Bool.false_eq_true, false_iff, p1, p2, true_or, and_true, false_or, List.isEmpty_eq_false_iff, toList_nil_iff, not_false_eq_true, not_true_eq_false, true_and, false_and, or_false]
          omega
    case rest =>
      obtain ⟨rfl, hw⟩ := hcut
      subst hw
      cases tl with
      | false =>
        go_wp2
        go_ret
        exact ⟨by rw [HE.out]; rfl, kc⟩
      | true =>
      clear HHd HTl NI
      go_upto_region 5 with fail
      go_cut [104] (fun v wx => v = .bool (!((zeroBlock x.b || rightBlock x.b) && ((zeroCert x.c || rightCert x.c) && (zeroSig x.s || rightSig x.s)))) ∧ MsAt wx w.heap.size x (.slice A1 x.b.j.sg.length c1) (.slice A2 x.b.q.length c2) (.slice A3 x.c.sg.length c3) (.slice A4 x.s.ts.length c4) ∧ Keep [] w wx)
      case first =>
        have M0 := HC
        have kk0 := kc
        clear HC kc HE
        have hM := M0.out
        obtain ⟨h0, h1, h2, h3, h4, h5, h6, h7, h8, h9, h10, h11, h12, h13, h14, h15, h16, h17, h18, h19, h20⟩ := hM
        clear h0 h1 h2 h3 h4 h16 h17 h18 h19 h20
        go_wp2_with fail
        refine (zeroBlock_call x.b A1 A2 c1 c2 _).mono ?_
        rintro e w1 ⟨rfl, k1⟩
        have M1 := Lib.hid (M0.out.keep k1 (by simp))
        have kk1 := kk0.trans k1
        clear k1 M0 h5 h6 h7 h8 h9 h10 h11 h12 h13 h14 h15
        cases hz : zeroBlock x.b with
        | true =>
          have EB : Hid ((zeroBlock x.b || rightBlock x.b) = true) := Lib.hid (by rw [hz]; rfl)
          clear hz
          have hM := M1.out
          obtain ⟨h0, h1, h2, h3, h4, h5, h6, h7, h8, h9, h10, h11, h12, h13, h14, h15, h16, h17, h18, h19, h20⟩ := hM
          clear h0 h1 h2 h3 h4 h16 h17 h18 h19 h20
          go_wp2_with fail
          refine (zeroCert_call x.c A3 c3 _).mono ?_
          rintro e w2 ⟨rfl, k2⟩
          have M2 := Lib.hid (M1.out.keep k2 (by simp))
          have kk2 := kk1.trans k2
          clear k2 M1 h5 h6 h7 h8 h9 h10 h11 h12 h13 h14 h15
          cases hz : zeroCert x.c with
          | true =>
            have EC : Hid ((zeroCert x.c || rightCert x.c) = true) := Lib.hid (by rw [hz]; rfl)
            clear hz
            have hM := M2.out
            obtain ⟨h0, h1, h2, h3, h4, h5, h6, h7, h8, h9, h10, h11, h12, h13, h14, h15, h16, h17, h18, h19, h20⟩ := hM
            clear h0 h1 h2 h3 h4 h16 h17 h18 h19 h20
            go_wp2_with fail
            refine (zeroSig_call x.s A4 c4 _).mono ?_
            rintro e w3 ⟨rfl, k3⟩
            have M3 := Lib.hid (M2.out.keep k3 (by simp))
            have kk3 := kk2.trans k3
            clear k3 M2 h5 h6 h7 h8 h9 h10 h11 h12 h13 h14 h15
            cases hz : zeroSig x.s with
            | true =>
              have ES : Hid ((zeroSig x.s || rightSig x.s) = true) := Lib.hid (by rw [hz]; rfl)
              clear hz
              go_wp2_with fail
              go_meet
              exact ⟨by rw [EB.out, EC.out, ES.out]; simp, M3.out, kk3⟩
            | false =>
              have HZ := Lib.hid hz
              clear hz
              have hM := M3.out
              obtain ⟨h0, h1, h2, h3, h4, h5, h6, h7, h8, h9, h10, h11, h12, h13, h14, h15, h16, h17, h18, h19, h20⟩ := hM
              clear h0 h1 h2 h3 h4 h16 h17 h18 h19 h20
              go_wp2_with fail
              refine (rightSig_call x.s _ F _ (hst.keep (kk3.at F (by simp)))).mono ?_
              rintro e w4 ⟨rfl, k4⟩
              have M4 := Lib.hid (M3.out.keep k4 (by simp))
              have kk4 := kk3.trans k4
              clear k4 M3 h5 h6 h7 h8 h9 h10 h11 h12 h13 h14 h15
              cases hr : rightSig x.s with
              | true =>
                have ES : Hid ((zeroSig x.s || rightSig x.s) = true) := Lib.hid (by rw [hr]; simp)
                clear hr HZ
                go_wp2_with fail
                go_meet
                exact ⟨by rw [EB.out, EC.out, ES.out]; simp, M4.out, kk4⟩
              | false =>
                have ES : Hid ((zeroSig x.s || rightSig x.s) = false) := Lib.hid (by rw [hr, HZ.out]; rfl)
                clear hr HZ
                go_wp2_with fail
                go_meet
                exact ⟨by rw [EB.out, EC.out, ES.out]; simp, M4.out, kk4⟩
          | false =>
            have HZ := Lib.hid hz
            clear hz
            have hM := M2.out
            obtain ⟨h0, h1, h2, h3, h4, h5, h6, h7, h8, h9, h10, h11, h12, h13, h14, h15, h16, h17, h18, h19, h20⟩ := hM
            clear h0 h1 h2 h3 h4 h16 h17 h18 h19 h20
            go_wp2_with fail
            refine (rightCert_call x.c _ F _ (hcs.keep (kk2.at F (by simp)))).mono ?_
            rintro e w3 ⟨rfl, k3⟩
            have M3 := Lib.hid (M2.out.keep k3 (by simp))
            have kk3 := kk2.trans k3
            clear k3 M2 h5 h6 h7 h8 h9 h10 h11 h12 h13 h14 h15
            cases hr : rightCert x.c with
            | true =>
              have EC : Hid ((zeroCert x.c || rightCert x.c) = true) := Lib.hid (by rw [hr]; simp)
              clear hr HZ
              have hM := M3.out
              obtain ⟨h0, h1, h2, h3, h4, h5, h6, h7, h8, h9, h10, h11, h12, h13, h14, h15, h16, h17, h18, h19, h20⟩ := hM
              clear h0 h1 h2 h3 h4 h16 h17 h18 h19 h20
              go_wp2_with fail
              refine (zeroSig_call x.s A4 c4 _).mono ?_
              rintro e w4 ⟨rfl, k4⟩
              have M4 := Lib.hid (M3.out.keep k4 (by simp))
              have kk4 := kk3.trans k4
              clear k4 M3 h5 h6 h7 h8 h9 h10 h11 h12 h13 h14 h15
              cases hz : zeroSig x.s with
              | true =>
                have ES : Hid ((zeroSig x.s || rightSig x.s) = true) := Lib.hid (by rw [hz]; rfl)
                clear hz
                go_wp2_with fail
                go_meet
                exact ⟨by rw [EB.out, EC.out, ES.out]; simp, M4.out, kk4⟩
              | false =>
                have HZ := Lib.hid hz
                clear hz
                have hM := M4.out
                obtain ⟨h0, h1, h2, h3, h4, h5, h6, h7, h8, h9, h10, h11, h12, h13, h14, h15, h16, h17, h18, h19, h20⟩ := hM
                clear h0 h1 h2 h3 h4 h16 h17 h18 h19 h20
                go_wp2_with fail
                refine (rightSig_call x.s _ F _ (hst.keep (kk4.at F (by simp)))).mono ?_
                rintro e w5 ⟨rfl, k5⟩
                have M5 := Lib.hid (M4.out.keep k5 (by simp))
                have kk5 := kk4.trans k5
                clear k5 M4 h5 h6 h7 h8 h9 h10 h11 h12 h13 h14 h15
                cases hr : rightSig x.s with
                | true =>
                  have ES : Hid ((zeroSig x.s || rightSig x.s) = true) := Lib.hid (by rw [hr]; simp)
                  clear hr HZ
                  go_wp2_with fail
                  go_meet
                  exact ⟨by rw [EB.out, EC.out, ES.out]; simp, M5.out, kk5⟩
                | false =>
                  have ES : Hid ((zeroSig x.s || rightSig x.s) = false) := Lib.hid (by rw [hr, HZ.out]; rfl)
                  clear hr HZ
                  go_wp2_with fail
                  go_meet
                  exact ⟨by rw [EB.out, EC.out, ES.out]; simp, M5.out, kk5⟩
            | false =>
              have EC : Hid ((zeroCert x.c || rightCert x.c) = false) := Lib.hid (by rw [hr, HZ.out]; rfl)
              clear hr HZ
              go_wp2_with fail
              go_meet
              exact ⟨by rw [EB.out, EC.out]; simp, M3.out, kk3⟩
        | false =>
          have HZ := Lib.hid hz
          clear hz
          have hM := M1.out
          obtain ⟨h0, h1, h2, h3, h4, h5, h6, h7, h8, h9, h10, h11, h12, h13, h14, h15, h16, h17, h18, h19, h20⟩ := hM
          clear h0 h1 h2 h3 h4 h16 h17 h18 h19 h20
          go_wp2_with fail
          refine (rightBlock_call x.b _ _ F _ (hbs.keep (kk1.at F (by simp))) (hbq.keep (kk1.at F (by simp)))).mono ?_
          rintro e w2 ⟨rfl, k2⟩
          have M2 := Lib.hid (M1.out.keep k2 (by simp))
          have kk2 := kk1.trans k2
          clear k2 M1 h5 h6 h7 h8 h9 h10 h11 h12 h13 h14 h15
          cases hr : rightBlock x.b with
          | true =>
            have EB : Hid ((zeroBlock x.b || rightBlock x.b) = true) := Lib.hid (by rw [hr]; simp)
            clear hr HZ
            have hM := M2.out
            obtain ⟨h0, h1, h2, h3, h4, h5, h6, h7, h8, h9, h10, h11, h12, h13, h14, h15, h16, h17, h18, h19, h20⟩ := hM
            clear h0 h1 h2 h3 h4 h16 h17 h18 h19 h20
            go_wp2_with fail
            refine (zeroCert_call x.c A3 c3 _).mono ?_
            rintro e w3 ⟨rfl, k3⟩
            have M3 := Lib.hid (M2.out.keep k3 (by simp))
            have kk3 := kk2.trans k3
            clear k3 M2 h5 h6 h7 h8 h9 h10 h11 h12 h13 h14 h15
            cases hz : zeroCert x.c with
            | true =>
              have EC : Hid ((zeroCert x.c || rightCert x.c) = true) := Lib.hid (by rw [hz]; rfl)
              clear hz
              have hM := M3.out
              obtain ⟨h0, h1, h2, h3, h4, h5, h6, h7, h8, h9, h10, h11, h12, h13, h14, h15, h16, h17, h18, h19, h20⟩ := hM
              clear h0 h1 h2 h3 h4 h16 h17 h18 h19 h20
              go_wp2_with fail
              refine (zeroSig_call x.s A4 c4 _).mono ?_
              rintro e w4 ⟨rfl, k4⟩
              have M4 := Lib.hid (M3.out.keep k4 (by simp))
              have kk4 := kk3.trans k4
              clear k4 M3 h5 h6 h7 h8 h9 h10 h11 h12 h13 h14 h15
              cases hz : zeroSig x.s with
              | true =>
                have ES : Hid ((zeroSig x.s || rightSig x.s) = true) := Lib.hid (by rw [hz]; rfl)
                clear hz
                go_wp2_with fail
                go_meet
                exact ⟨by rw [EB.out, EC.out, ES.out]; simp, M4.out, kk4⟩
              | false =>
                have HZ := Lib.hid hz
                clear hz
                have hM := M4.out
                obtain ⟨h0, h1, h2, h3, h4, h5, h6, h7, h8, h9, h10, h11, h12, h13, h14, h15, h16, h17, h18, h19, h20⟩ := hM
                clear h0 h1 h2 h3 h4 h16 h17 h18 h19 h20
                go_wp2_with fail
                refine (rightSig_call x.s _ F _ (hst.keep (kk4.at F (by simp)))).mono ?_
                rintro e w5 ⟨rfl, k5⟩
                have M5 := Lib.hid (M4.out.keep k5 (by simp))
                have kk5 := kk4.trans k5
                clear k5 M4 h5 h6 h7 h8 h9 h10 h11 h12 h13 h14 h15
                cases hr : rightSig x.s with
                | true =>
                  have ES : Hid ((zeroSig x.s || rightSig x.s) = true) := Lib.hid (by rw [hr]; simp)
                  clear hr HZ
                  go_wp2_with fail
                  go_meet
                  exact ⟨by rw [EB.out, EC.out, ES.out]; simp, M5.out, kk5⟩
                | false =>
                  have ES : Hid ((zeroSig x.s || rightSig x.s) = false) := Lib.hid (by rw [hr, HZ.out]; rfl)
                  clear hr HZ
                  go_wp2_with fail
                  go_meet
                  exact ⟨by rw [EB.out, EC.out, ES.out]; simp, M5.out, kk5⟩
            | false =>
              have HZ := Lib.hid hz
              clear hz
              have hM := M3.out
              obtain ⟨h0, h1, h2, h3, h4, h5, h6, h7, h8, h9, h10, h11, h12, h13, h14, h15, h16, h17, h18, h19, h20⟩ := hM
              clear h0 h1 h2 h3 h4 h16 h17 h18 h19 h20
              go_wp2_with fail
              refine (rightCert_call x.c _ F _ (hcs.keep (kk3.at F (by simp)))).mono ?_
              rintro e w4 ⟨rfl, k4⟩
              have M4 := Lib.hid (M3.out.keep k4 (by simp))
              have kk4 := kk3.trans k4
              clear k4 M3 h5 h6 h7 h8 h9 h10 h11 h12 h13 h14 h15
              cases hr : rightCert x.c with
              | true =>
                have EC : Hid ((zeroCert x.c || rightCert x.c) = true) := Lib.hid (by rw [hr]; simp)
                clear hr HZ
                have hM := M4.out
                obtain ⟨h0, h1, h2, h3, h4, h5, h6, h7, h8, h9, h10, h11, h12, h13, h14, h15, h16, h17, h18, h19, h20⟩ := hM
                clear h0 h1 h2 h3 h4 h16 h17 h18 h19 h20
                go_wp2_with fail
                refine (zeroSig_call x.s A4 c4 _).mono ?_
                rintro e w5 ⟨rfl, k5⟩
                have M5 := Lib.hid (M4.out.keep k5 (by simp))
                have kk5 := kk4.trans k5
                clear k5 M4 h5 h6 h7 h8 h9 h10 h11 h12 h13 h14 h15
                cases hz : zeroSig x.s with
                | true =>
                  have ES : Hid ((zeroSig x.s || rightSig x.s) = true) := Lib.hid (by rw [hz]; rfl)
                  clear hz
                  go_wp2_with fail
                  go_meet
                  exact ⟨by rw [EB.out, EC.out, ES.out]; simp, M5.out, kk5⟩
                | false =>
                  have HZ := Lib.hid hz
                  clear hz
                  have hM := M5.out
                  obtain ⟨h0, h1, h2, h3, h4, h5, h6, h7, h8, h9, h10, h11, h12, h13, h14, h15, h16, h17, h18, h19, h20⟩ := hM
                  clear h0 h1 h2 h3 h4 h16 h17 h18 h19 h20
                  go_wp2_with fail
                  refine (rightSig_call x.s _ F _ (hst.keep (kk5.at F (by simp)))).mono ?_
                  rintro e w6 ⟨rfl, k6⟩
                  have M6 := Lib.hid (M5.out.keep k6 (by simp))
                  have kk6 := kk5.trans k6
                  clear k6 M5 h5 h6 h7 h8 h9 h10 h11 h12 h13 h14 h15
                  cases hr : rightSig x.s with
                  | true =>
                    have ES : Hid ((zeroSig x.s || rightSig x.s) = true) := Lib.hid (by rw [hr]; simp)
                    clear hr HZ
                    go_wp2_with fail
                    go_meet
                    exact ⟨by rw [EB.out, EC.out, ES.out]; simp, M6.out, kk6⟩
                  | false =>
                    have ES : Hid ((zeroSig x.s || rightSig x.s) = false) := Lib.hid (by rw [hr, HZ.out]; rfl)
                    clear hr HZ
                    go_wp2_with fail
                    go_meet
                    exact ⟨by rw [EB.out, EC.out, ES.out]; simp, M6.out, kk6⟩
              | false =>
                have EC : Hid ((zeroCert x.c || rightCert x.c) = false) := Lib.hid (by rw [hr, HZ.out]; rfl)
                clear hr HZ
                go_wp2_with fail
                go_meet
                exact ⟨by rw [EB.out, EC.out]; simp, M4.out, kk4⟩
          | false =>
            have EB : Hid ((zeroBlock x.b || rightBlock x.b) = false) := Lib.hid (by rw [hr, HZ.out]; rfl)
            clear hr HZ
            go_wp2_with fail
            go_meet
            exact ⟨by rw [EB.out]; simp, M2.out, kk2⟩
      case rest =>
        clear HC
        obtain ⟨rfl, hM, kc⟩ := hcut
        rename World => w7
        have HC := Lib.hid hM
        clear hM
        have HE2 : Hid (out = (((zeroBlock x.b || rightBlock x.b) && ((zeroCert x.c || rightCert x.c) && (zeroSig x.s || rightSig x.s))) && (zeroReq x.r || rightReq x.r))) := Lib.hid (by rw [HE.out]; simp only [Bool.true_and, Bool.and_assoc])
        clear HE
        generalize ((zeroBlock x.b || rightBlock x.b) && ((zeroCert x.c || rightCert x.c) && (zeroSig x.s || rightSig x.s))) = fl at *
        cases fl with
        | false =>
          go_wp2
          go_ret
          exact ⟨by rw [HE2.out]; rfl, kc⟩
        | true =>
        obtain ⟨h0, h1, h2, h3, h4, h5, h6, h7, h8, h9, h10, h11, h12, h13, h14, h15, h16, h17, h18, h19, h20⟩ := HC.out
        clear h0 h1 h2 h3 h4 h5 h6 h7 h8 h9 h10 h11 h12 h13 h14 h15 h19 h20
        have heq := eq_req x.r ⟨0, 0, ⟨#[]⟩⟩
        have HZ : Hid (eqReq x.r ⟨0, 0, ⟨#[]⟩⟩ = zeroReq x.r) := Lib.hid rfl
        rw [HZ.out] at heq
        cases hz : zeroReq x.r with
        | true =>
          rw [hz] at HE2 heq
          clear hz
          go_wp2
          go_ret
          exact ⟨by rw [HE2.out]; rfl, kc⟩
        | false =>
          rw [hz] at HE2 heq
          clear hz
          go_wp2_with fail
          refine (rightReq_call x.r _).mono ?_
          rintro e w8 ⟨rfl, k8⟩
          go_wp2
          go_ret
          exact ⟨by rw [HE2.out]; simp, kc.trans k8⟩
end Go.Proofs.Ytpndbidpennlcaa
