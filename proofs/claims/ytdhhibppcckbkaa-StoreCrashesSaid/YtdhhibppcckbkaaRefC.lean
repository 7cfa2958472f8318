import Derived.Test.YtdhhibppcckbkaaRefB
namespace Go.Proofs.Ytdhhibppcckbkaa
open Go.RowKit
set_option linter.unusedVariables false
set_option linter.unusedSimpArgs false
/-- signature i of the list is right, and rises -/
def okAt (l : List Sg) (i : Nat) : Bool := match l[i]? with
  | some x => rightSig x && (i == 0 || match l[i - 1]? with | some y => decide (y.f < x.f) | none => false)
  | none => false
def rightCert (x : Ct) : Bool := decide (0 ≤ x.v) && decide (x.v ≤ 1000000) && decide (x.h.size = 32) && decide ((x.sg.length : Int) ≤ 7) && (List.range x.sg.length).all (okAt x.sg)
theorem okAt_zero (l : List Sg) (h : 0 < l.length) : okAt l 0 = rightSig l[0] := by
  unfold okAt; rw [List.getElem?_eq_getElem h]; simp
theorem okAt_succ (l : List Sg) (i : Nat) (h : i + 1 < l.length) : okAt l (i + 1) = (rightSig l[i + 1] && decide (l[i].f < l[i + 1].f)) := by
  unfold okAt; rw [List.getElem?_eq_getElem h]; simp [List.getElem?_eq_getElem (show i < l.length by omega)]
theorem range_step (p : Nat → Bool) (k : Nat) (h : (List.range k).all p = true) (hp : p k = true) : (List.range (k + 1)).all p = true := by
  rw [List.range_succ, List.all_append, h]; simp [hp]
theorem range_fail (p : Nat → Bool) (k n : Nat) (h : k < n) (hp : p k = false) : (List.range n).all p = false := by
  rw [List.all_eq_false]; exact ⟨k, by simpa using h, by simp [hp]⟩
set_option maxHeartbeats 1000000 in
theorem rightCert_call (x : Ct) (v : Value) (F : Nat → Prop) (w : World) (h : SliceOf Rep.sg w F v x.sg) :
    Calls Try.prog 66 #[.agg #[.int .i64 x.v, .string x.h, v]] w fun e w' => e = .returned (.bool (rightCert x)) ∧ Keep [] w w' := by
  obtain ⟨vw, hh, sg⟩ := x
  dsimp only at h ⊢
  have HE : Hid (rightCert ⟨vw, hh, sg⟩ = (decide (0 ≤ vw) && decide (vw ≤ 1000000) && decide (hh.size = 32) && decide ((sg.length : Int) ≤ 7) && (List.range sg.length).all (okAt sg))) := Lib.hid rfl
  generalize rightCert ⟨vw, hh, sg⟩ = out at *
  obtain ⟨A, c, rfl, hl⟩ := h.form
  by_cases hb : 0 ≤ vw ∧ vw ≤ 1000000 ∧ hh.size = 32 ∧ sg.length ≤ 7
  · obtain ⟨hb1, hb2, hb3, hb4⟩ := hb
    have HE2 : Hid (out = (List.range sg.length).all (okAt sg)) := Lib.hid (by rw [HE.out]; simp [hb1, hb2, hb3]; omega)
    have t1 : decide (vw < 0) = false := by simp; omega
    have t2 : decide (1000000 < vw) = false := by simp; omega
    have t3 : ((hh.size : Int) != 32) = false := by rw [hb3]; rfl
    have t4 : decide ((7 : Int) < sg.length) = false := by simp; omega
    clear hb3
    go_enter Try.func66, Try.ntmps66
    go_wp2
    go_loopw [3] (fun i wr => ∃ k : Nat, k ≤ sg.length ∧ i = .int .i64 k ∧ Hid ((List.range k).all (okAt sg) = true) ∧ Keep [] (w.alloc (.cells #[.int .i64 vw, .string hh, .slice A sg.length c] 26)) wr) (fun i _ => sg.length - (intOf i).toNat)
    case atStart => exact ⟨0, Nat.zero_le _, rfl, Lib.hid rfl, Keep.refl _ _⟩
    case round =>
      obtain ⟨k, hk, rfl, hall, kr⟩ := hrel
      have kw : Keep [] w wr := ((Keep.refl _ w).alloc _).trans kr
      have h' := h.keep (kw.at F (by simp))
      have b := (Blk.new w #[.int .i64 vw, .string hh, .slice A sg.length c] 26).keep kr (by simp)
      have c2 := b.cell 2
      simp only [List.getElem?_toArray, List.getElem?_cons_zero, List.getElem?_cons_succ] at c2
      by_cases hlt : k < sg.length
      · obtain ⟨g, o, tv, rfl, hc0, hc1, hi, ht⟩ := h'.sg_at hlt
        obtain ⟨B, d, rfl, hd⟩ := ht.form
        cases k with
        | zero =>
          have ho := okAt_zero sg hlt
          simp only [Nat.zero_mul, Nat.add_zero] at hc0 hc1
          cases hr : rightSig sg[0]
          all_goals
            rw [hr] at ho
            have HO := Lib.hid ho
            have hr' := Lib.hid hr
            clear ho hr
            go_wp2_with fail
            refine wp_region_class (C := fun w' => Keep [] wr w' ∧ w'.cell? ⟨w.heap.size, 2, none⟩ = some (.slice (some ⟨g, o, none⟩) sg.length c) ∧ w'.cell? ⟨g, o, none⟩ = some (.int .i64 sg[0].f) ∧ w'.cell? ⟨g, o + 1, none⟩ = some (.slice B sg[0].ts.length d)) (by kernel_rfl) (by kernel_rfl) ⟨(Keep.refl _ _).drew, c2, hc0, hc1⟩ ?_
            iterate 27 (first
              | go_big_quiet_skip
              | (go_big_quiet_want; first
                | (go_big_quiet_op; go_big_quiet_on)
                | (refine quiet_run (v := ?_) ?_ ?_; (rotate_left; (intro w' hC; (try dsimp only at hC); go_split_ands; go_simp; with_reducible rfl); simp only [Act.put, List.setIfInBounds_toArray, List.set_cons_zero, List.set_cons_succ]; go_big_quiet_on))
                | (refine quiet_call (v := ?_) (f := ?_) (args := ?_) ?_ ?_ ?_; (rotate_left; rotate_left; rotate_left; (intro w' hC; (try dsimp only at hC); go_split_ands; go_simp; (refine ⟨?_, ?_⟩ <;> with_reducible rfl)); (intro w' hC; refine (rightSig_call sg[0] _ F _ (ht.keep (Keep.at hC.1 F (by simp)))).mono ?_; rw [hr'.out]; rintro e w2 ⟨rfl, kq⟩; refine ⟨?_, Keep.trans hC.1 kq, Keep.cell kq (by simp) hC.2.1, Keep.cell kq (by simp) hC.2.2.1, Keep.cell kq (by simp) hC.2.2.2⟩; with_reducible rfl); simp only [Act.put, List.setIfInBounds_toArray, List.set_cons_zero, List.set_cons_succ]; go_big_quiet_on))))
            refine wpQuiet_nil ?_
            intro w2 hC2
            have k2 := hC2.1
            clear hC2
            go_wp2
          · go_ret
            refine ⟨?_, kw.trans k2⟩
            rw [HE2.out, (range_fail (okAt sg) 0 sg.length hlt HO.out)]; rfl
          · go_roundw
            case rel => exact ⟨0 + 1, by omega, by go_num, Lib.hid (range_step _ 0 hall.out HO.out), kr.trans k2⟩
            case measure => simp [intOf]; omega
        | succ m =>
          have ho := okAt_succ sg m hlt
          obtain ⟨g', o', tv', e', hp0, _, hi', _⟩ := h'.sg_at (show m < sg.length by omega)
          cases e'
          have i0 : (0 : Int) ≤ (m : Int) + 1 := by omega
          have i1 : (m : Int) + 1 < (sg.length : Int) := by omega
          have i2 : ((m : Int) + 1).toNat = m + 1 := by omega
          have i3 : (m : Int) < (sg.length : Int) := by omega
          have i4 : IntKind.i64.wrap (m : Int) = m := IntWalk.i64_in _ (by omega)
          have i5 : (0 : Int) < (m : Int) + 1 := by omega
          have i6 : ((m + 1 : Nat) : Int) - 1 = (m : Int) := by omega
          cases hr : rightSig sg[m + 1]
          · rw [hr, Bool.false_and] at ho
            have HO := Lib.hid ho
            have hr' := Lib.hid hr
            clear ho hr
            go_wp2_with fail
            refine wp_region_class (C := fun w' => Keep [] wr w' ∧ w'.cell? ⟨w.heap.size, 2, none⟩ = some (.slice (some ⟨g, o, none⟩) sg.length c) ∧ w'.cell? ⟨g, o + (m + 1) * 2, none⟩ = some (.int .i64 sg[m + 1].f) ∧ w'.cell? ⟨g, o + (m + 1) * 2 + 1, none⟩ = some (.slice B sg[m + 1].ts.length d) ∧ w'.cell? ⟨g, o + m * 2, none⟩ = some (.int .i64 sg[m].f)) (by kernel_rfl) (by kernel_rfl) ⟨(Keep.refl _ _).drew, c2, hc0, hc1, hp0⟩ ?_
            iterate 27 (first
              | go_big_quiet_skip
              | (go_big_quiet_want; first
                | (go_big_quiet_op; go_big_quiet_on)
                | (refine quiet_run (v := ?_) ?_ ?_; (rotate_left; (intro w' hC; (try dsimp only at hC); go_split_ands; go_simp; with_reducible rfl); simp only [Act.put, List.setIfInBounds_toArray, List.set_cons_zero, List.set_cons_succ]; go_big_quiet_on))
                | (refine quiet_call (v := ?_) (f := ?_) (args := ?_) ?_ ?_ ?_; (rotate_left; rotate_left; rotate_left; (intro w' hC; (try dsimp only at hC); go_split_ands; go_simp; (refine ⟨?_, ?_⟩ <;> with_reducible rfl)); (intro w' hC; refine (rightSig_call sg[m + 1] _ F _ (ht.keep (Keep.at hC.1 F (by simp)))).mono ?_; rw [hr'.out]; rintro e w2 ⟨rfl, kq⟩; refine ⟨?_, Keep.trans hC.1 kq, Keep.cell kq (by simp) hC.2.1, Keep.cell kq (by simp) hC.2.2.1, Keep.cell kq (by simp) hC.2.2.2.1, Keep.cell kq (by simp) hC.2.2.2.2⟩; with_reducible rfl); simp only [Act.put, List.setIfInBounds_toArray, List.set_cons_zero, List.set_cons_succ]; go_big_quiet_on))))
            refine wpQuiet_nil ?_
            intro w2 hC2
            have k2 := hC2.1
            clear hC2
            go_wp2
            go_ret
            refine ⟨?_, kw.trans k2⟩
            rw [HE2.out, (range_fail (okAt sg) (m + 1) sg.length hlt HO.out)]; rfl
          · by_cases hcmp : sg[m].f < sg[m + 1].f
            · have hp1 : decide (sg[m].f < sg[m + 1].f) = true := by simpa using hcmp
              rw [hr, Bool.true_and, hp1] at ho
              have HO := Lib.hid ho
              have hr' := Lib.hid hr
              have hp2 : decide (sg[m + 1].f ≤ sg[m].f) = false := by simpa using hcmp
              clear ho hr hp1
              go_wp2_with fail
              refine wp_region_class (C := fun w' => Keep [] wr w' ∧ w'.cell? ⟨w.heap.size, 2, none⟩ = some (.slice (some ⟨g, o, none⟩) sg.length c) ∧ w'.cell? ⟨g, o + (m + 1) * 2, none⟩ = some (.int .i64 sg[m + 1].f) ∧ w'.cell? ⟨g, o + (m + 1) * 2 + 1, none⟩ = some (.slice B sg[m + 1].ts.length d) ∧ w'.cell? ⟨g, o + m * 2, none⟩ = some (.int .i64 sg[m].f)) (by kernel_rfl) (by kernel_rfl) ⟨(Keep.refl _ _).drew, c2, hc0, hc1, hp0⟩ ?_
              iterate 27 (first
                | go_big_quiet_skip
                | (go_big_quiet_want; first
                  | (go_big_quiet_op; go_big_quiet_on)
                  | (refine quiet_run (v := ?_) ?_ ?_; (rotate_left; (intro w' hC; (try dsimp only at hC); go_split_ands; go_simp; with_reducible rfl); simp only [Act.put, List.setIfInBounds_toArray, List.set_cons_zero, List.set_cons_succ]; go_big_quiet_on))
                  | (refine quiet_call (v := ?_) (f := ?_) (args := ?_) ?_ ?_ ?_; (rotate_left; rotate_left; rotate_left; (intro w' hC; (try dsimp only at hC); go_split_ands; go_simp; (refine ⟨?_, ?_⟩ <;> with_reducible rfl)); (intro w' hC; refine (rightSig_call sg[m + 1] _ F _ (ht.keep (Keep.at hC.1 F (by simp)))).mono ?_; rw [hr'.out]; rintro e w2 ⟨rfl, kq⟩; refine ⟨?_, Keep.trans hC.1 kq, Keep.cell kq (by simp) hC.2.1, Keep.cell kq (by simp) hC.2.2.1, Keep.cell kq (by simp) hC.2.2.2.1, Keep.cell kq (by simp) hC.2.2.2.2⟩; with_reducible rfl); simp only [Act.put, List.setIfInBounds_toArray, List.set_cons_zero, List.set_cons_succ]; go_big_quiet_on))))
              refine wpQuiet_nil ?_
              intro w2 hC2
              have k2 := hC2.1
              clear hC2
              go_wp2
              go_roundw
              case rel => exact ⟨m + 1 + 1, by omega, by go_num, Lib.hid (range_step _ (m + 1) hall.out HO.out), kr.trans k2⟩
              case measure => simp [intOf]; omega
            · have hp1 : decide (sg[m].f < sg[m + 1].f) = false := by simpa using hcmp
              rw [hr, Bool.true_and, hp1] at ho
              have HO := Lib.hid ho
              have hr' := Lib.hid hr
              have hp2 : decide (sg[m + 1].f ≤ sg[m].f) = true := by simp; omega
              have hp3 : sg[m + 1].f ≤ sg[m].f := by omega
              clear ho hr hp1 hcmp
              go_wp2_with fail
              refine wp_region_class (C := fun w' => Keep [] wr w' ∧ w'.cell? ⟨w.heap.size, 2, none⟩ = some (.slice (some ⟨g, o, none⟩) sg.length c) ∧ w'.cell? ⟨g, o + (m + 1) * 2, none⟩ = some (.int .i64 sg[m + 1].f) ∧ w'.cell? ⟨g, o + (m + 1) * 2 + 1, none⟩ = some (.slice B sg[m + 1].ts.length d) ∧ w'.cell? ⟨g, o + m * 2, none⟩ = some (.int .i64 sg[m].f)) (by kernel_rfl) (by kernel_rfl) ⟨(Keep.refl _ _).drew, c2, hc0, hc1, hp0⟩ ?_
              iterate 27 (first
                | go_big_quiet_skip
                | (go_big_quiet_want; first
                  | (go_big_quiet_op; go_big_quiet_on)
                  | (refine quiet_run (v := ?_) ?_ ?_; (rotate_left; (intro w' hC; (try dsimp only at hC); go_split_ands; go_simp; with_reducible rfl); simp only [Act.put, List.setIfInBounds_toArray, List.set_cons_zero, List.set_cons_succ]; go_big_quiet_on))
                  | (refine quiet_call (v := ?_) (f := ?_) (args := ?_) ?_ ?_ ?_; (rotate_left; rotate_left; rotate_left; (intro w' hC; (try dsimp only at hC); go_split_ands; go_simp; (refine ⟨?_, ?_⟩ <;> with_reducible rfl)); (intro w' hC; refine (rightSig_call sg[m + 1] _ F _ (ht.keep (Keep.at hC.1 F (by simp)))).mono ?_; rw [hr'.out]; rintro e w2 ⟨rfl, kq⟩; refine ⟨?_, Keep.trans hC.1 kq, Keep.cell kq (by simp) hC.2.1, Keep.cell kq (by simp) hC.2.2.1, Keep.cell kq (by simp) hC.2.2.2.1, Keep.cell kq (by simp) hC.2.2.2.2⟩; with_reducible rfl); simp only [Act.put, List.setIfInBounds_toArray, List.set_cons_zero, List.set_cons_succ]; go_big_quiet_on))))
              refine wpQuiet_nil ?_
              intro w2 hC2
              have k2 := hC2.1
              clear hC2
              go_wp2
              go_ret
              refine ⟨?_, kw.trans k2⟩
              rw [HE2.out, (range_fail (okAt sg) (m + 1) sg.length hlt HO.out)]; rfl
      · have hk' : k = sg.length := by omega
        subst hk'
        go_wp2
        go_ret
        refine ⟨?_, kw⟩
        rw [HE2.out, hall.out]; rfl
  · have HE2 : Hid (out = false) := Lib.hid (by
      rw [HE.out, Bool.eq_false_iff]
      intro h
      simp only [Bool.and_eq_true, decide_eq_true_eq] at h
      exact hb ⟨h.1.1.1.1, h.1.1.1.2, h.1.1.2, by omega⟩)
    have hb' : vw < 0 ∨ 0 ≤ vw ∧ 1000000 < vw ∨ 0 ≤ vw ∧ vw ≤ 1000000 ∧ hh.size ≠ 32 ∨ 0 ≤ vw ∧ vw ≤ 1000000 ∧ hh.size = 32 ∧ 7 < sg.length := by omega
    clear hb
    rcases hb' with h1 | ⟨h0, h1⟩ | ⟨h0, h1, h2⟩ | ⟨h0, h1, h2, h3⟩
    · have t1 : decide (vw < 0) = true := by simp; omega
      go_enter Try.func66, Try.ntmps66
      go_wp2
      go_ret
      exact ⟨by rw [HE2.out]; rfl, (Keep.refl _ _).alloc _⟩
    · have t1 : decide (vw < 0) = false := by simp; omega
      have t2 : decide (1000000 < vw) = true := by simp; omega
      go_enter Try.func66, Try.ntmps66
      go_wp2
      go_ret
      exact ⟨by rw [HE2.out]; rfl, (Keep.refl _ _).alloc _⟩
    · have t1 : decide (vw < 0) = false := by simp; omega
      have t2 : decide (1000000 < vw) = false := by simp; omega
      have t3 : ((hh.size : Int) != 32) = true := by rw [bne_iff_ne]; omega
      clear h2
      go_enter Try.func66, Try.ntmps66
      go_wp2
      go_ret
      exact ⟨by rw [HE2.out]; rfl, (Keep.refl _ _).alloc _⟩
    · have t1 : decide (vw < 0) = false := by simp; omega
      have t2 : decide (1000000 < vw) = false := by simp; omega
      have t3 : ((hh.size : Int) != 32) = false := by rw [h2]; rfl
      have t4 : decide ((7 : Int) < sg.length) = true := by simp; omega
      clear h2
      go_enter Try.func66, Try.ntmps66
      go_wp2
      go_ret
      exact ⟨by rw [HE2.out]; rfl, (Keep.refl _ _).alloc _⟩
end Go.Proofs.Ytdhhibppcckbkaa
