import Derived.Test.YtpndbidpennlcaaRefM
namespace Go.Proofs.Ytpndbidpennlcaa
open Go.RowKit
set_option linter.unusedVariables false
set_option linter.unusedSimpArgs false
def fewMsg (x : Ms) : Bool := fewBlock x.b && (fewCert x.c && (fewSig x.s && (decide ((x.h.size : Int) ≤ 50) && (decide ((x.g.size : Int) ≤ 50) && decide ((x.r.b.size : Int) ≤ 60)))))
set_option maxHeartbeats 4000000 in
theorem fewMsg_call (x : Ms) (v1 v2 v3 v4 : Value) (F : Nat → Prop) (w : World) (h : MsOk w F x v1 v2 v3 v4) :
    Calls Try.prog 36 #[.agg (msgV x v1 v2 v3 v4)] w fun e w' => e = .returned (.bool (fewMsg x)) ∧ Keep [] w w' := by
  obtain ⟨hk, hf, ht, hv, hh, hbv, hbp, hbj, hbh, hbs, hbq, hcv, hch, hcs, hsf, hst, hrc, hrs, hrb, hi, hg⟩ := h
  unfold M47 at hh hbh hch hrb hg
  obtain ⟨A1, c1, rfl, l1⟩ := hbs.form
  obtain ⟨A2, c2, rfl, l2⟩ := hbq.form
  obtain ⟨A3, c3, rfl, l3⟩ := hcs.form
  obtain ⟨A4, c4, rfl, l4⟩ := hst.form
  have hc := MsAt.of (Blk.new w (msgV x (.slice A1 x.b.j.sg.length c1) (.slice A2 x.b.q.length c2) (.slice A3 x.c.sg.length c3) (.slice A4 x.s.ts.length c4)) 38)
  have kc : Keep [] w (w.alloc (.cells (msgV x (.slice A1 x.b.j.sg.length c1) (.slice A2 x.b.q.length c2) (.slice A3 x.c.sg.length c3) (.slice A4 x.s.ts.length c4)) 38)) := (Keep.refl _ _).alloc _
  unfold msgV at hc kc
  dsimp only [msgV]
  have HE : Hid (fewMsg x = (fewBlock x.b && (fewCert x.c && (fewSig x.s && (decide ((x.h.size : Int) ≤ 50) && (decide ((x.g.size : Int) ≤ 50) && decide ((x.r.b.size : Int) ≤ 60))))))) := Lib.hid rfl
  generalize fewMsg x = out at *
  go_enter Try.func36, Try.ntmps36
  have HC := Lib.hid hc
  clear hc
  obtain ⟨h0, h1, h2, h3, h4, h5, h6, h7, h8, h9, h10, h11, h12, h13, h14, h15, h16, h17, h18, h19, h20⟩ := HC.out
  go_wp2_with fail
  refine (fewBlock_call x.b _ _ F _ (hbs.keep (kc.at F (by simp))) (hbq.keep (kc.at F (by simp)))).mono ?_
  rintro e w1 ⟨rfl, k1⟩
  have m1 := HC.out.keep k1 (by simp)
  have kk1 := kc.trans k1
  clear h0 h1 h2 h3 h4 h5 h6 h7 h8 h9 h10 h11 h12 h13 h14 h15 h16 h17 h18 h19 h20
  cases hb : fewBlock x.b with
  | false =>
    rw [hb] at HE
    clear hb m1
    go_wp2
    go_ret
    exact ⟨by rw [HE.out]; rfl, kk1⟩
  | true =>
    rw [hb] at HE
    clear hb
    obtain ⟨h0, h1, h2, h3, h4, h5, h6, h7, h8, h9, h10, h11, h12, h13, h14, h15, h16, h17, h18, h19, h20⟩ := m1
    have M1 : Hid (MsAt w1 w.heap.size x (.slice A1 x.b.j.sg.length c1) (.slice A2 x.b.q.length c2) (.slice A3 x.c.sg.length c3) (.slice A4 x.s.ts.length c4)) := Lib.hid (HC.out.keep k1 (by simp))
    go_wp2_with fail
    refine (fewCert_call x.c _ F _ (hcs.keep (kk1.at F (by simp)))).mono ?_
    rintro e w2 ⟨rfl, k2⟩
    have M2 := Lib.hid (M1.out.keep k2 (by simp))
    have kk2 := kk1.trans k2
    clear h0 h1 h2 h3 h4 h5 h6 h7 h8 h9 h10 h11 h12 h13 h14 h15 h16 h17 h18 h19 h20
    cases hb : fewCert x.c with
    | false =>
      rw [hb] at HE
      clear hb
      go_wp2
      go_ret
      exact ⟨by rw [HE.out]; rfl, kk2⟩
    | true =>
      rw [hb] at HE
      clear hb
      obtain ⟨h0, h1, h2, h3, h4, h5, h6, h7, h8, h9, h10, h11, h12, h13, h14, h15, h16, h17, h18, h19, h20⟩ := M2.out
      go_wp2_with fail
      refine (fewSig_call x.s _ F _ (hst.keep (kk2.at F (by simp)))).mono ?_
      rintro e w3 ⟨rfl, k3⟩
      have M3 := Lib.hid (M2.out.keep k3 (by simp))
      have kk3 := kk2.trans k3
      clear h0 h1 h2 h3 h4 h5 h6 h7 h8 h9 h10 h11 h12 h13 h14 h15 h16 h17 h18 h19 h20
      cases hb : fewSig x.s with
      | false =>
        rw [hb] at HE
        clear hb
        go_wp2
        go_ret
        exact ⟨by rw [HE.out]; rfl, kk3⟩
      | true =>
        rw [hb] at HE
        clear hb
        obtain ⟨h0, h1, h2, h3, h4, h5, h6, h7, h8, h9, h10, h11, h12, h13, h14, h15, h16, h17, h18, h19, h20⟩ := M3.out
        clear M1 M2 HC
        by_cases d1 : (x.h.size : Int) ≤ 50
        · by_cases d2 : (x.g.size : Int) ≤ 50
          · have e1 : decide ((x.h.size : Int) ≤ 50) = true := by simpa using d1
            have e2 : decide ((x.g.size : Int) ≤ 50) = true := by simpa using d2
            rw [e1, e2] at HE
            clear e1 e2
            go_wp2
            go_ret
            exact ⟨by rw [HE.out]; rfl, kk3⟩
          · have e1 : decide ((x.h.size : Int) ≤ 50) = true := by simpa using d1
            have e2 : decide ((x.g.size : Int) ≤ 50) = false := by simpa using d2
            rw [e1, e2] at HE
            clear e1
            go_wp2
            go_ret
            exact ⟨by rw [HE.out]; rfl, kk3⟩
        · have e1 : decide ((x.h.size : Int) ≤ 50) = false := by simpa using d1
          rw [e1] at HE
          go_wp2
          go_ret
          exact ⟨by rw [HE.out]; rfl, kk3⟩
end Go.Proofs.Ytpndbidpennlcaa
