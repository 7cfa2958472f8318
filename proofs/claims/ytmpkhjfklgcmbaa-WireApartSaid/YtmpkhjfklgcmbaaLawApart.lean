import Derived.Test.YtmpkhjfklgcmbaaLawBlock
import Derived.Test.YtmpkhjfklgcmbaaEqReq
import Derived.Deep.DeepCutAuto
import Derived.Deep.CutBlock
namespace Go.Proofs.Ytmpkhjfklgcmbaa
open Go.RowKit
set_option linter.unusedVariables false
set_option linter.unusedSimpArgs false
def hdr (x y : Bk) : Prop := x.v = y.v ∧ x.p = y.p ∧ x.j.v = y.j.v ∧ x.j.h = y.j.h ∧ x.q.length = y.q.length ∧ x.j.sg.length = y.j.sg.length
theorem bytes_eq (a b : ByteArray) : a.toList = b.toList ↔ a = b := by
  rw [ByteArray.toList_eq, ByteArray.toList_eq]
  exact ⟨fun h => ByteArray.ext (Array.toList_inj.1 h), fun h => by rw [h]⟩
theorem blockF_inj {x y : Bk} (hx : rightBlock x = true) (hy : rightBlock y = true) (h : blockF x = blockF y) : x = y := by
  have e1 := blockR_fwd x ByteArray.empty hx
  have e2 := blockR_fwd y ByteArray.empty hy
  rw [h] at e1
  exact congrArg Prod.fst (e1.symm.trans e2)
set_option maxHeartbeats 4000000 in
set_option maxRecDepth 100000 in
theorem wireApart_call (x y : Bk) (v u v' u' : Value) (F : Nat → Prop) (w : World) (h : SliceOf Rep.sg w F v x.j.sg) (h2 : SliceOf Rep.req w F u x.q) (g : SliceOf Rep.sg w F v' y.j.sg) (g2 : SliceOf Rep.req w F u' y.q) :
    Calls Try.prog 4 #[.agg #[.int .i64 x.v, .int .i64 x.p, .int .i64 x.j.v, .string x.j.h, v, u], .agg #[.int .i64 y.v, .int .i64 y.p, .int .i64 y.j.v, .string y.j.h, v', u']] w fun e w' => e = .returned (.bool true) ∧ Keep [] w w' := by
  obtain ⟨A, c, rfl, hl⟩ := h.form
  obtain ⟨B, d, rfl, hd⟩ := h2.form
  obtain ⟨A', c', rfl, hl'⟩ := g.form
  obtain ⟨B', d', rfl, hd'⟩ := g2.form
  go_enter Try.func4, Try.ntmps4
  go_wp2_with fail
  refine (awake_call _).mono ?_
  rintro e w1 ⟨rfl, k1⟩
  have x1 := ((Blk.new w #[.int .i64 x.v, .int .i64 x.p, .int .i64 x.j.v, .string x.j.h, .slice A x.j.sg.length c, .slice B x.q.length d] 31).alloc (.cells #[.int .i64 y.v, .int .i64 y.p, .int .i64 y.j.v, .string y.j.h, .slice A' y.j.sg.length c', .slice B' y.q.length d'] 31)).keep k1 (by simp)
  have y1 := (Blk.new (w.alloc (.cells #[.int .i64 x.v, .int .i64 x.p, .int .i64 x.j.v, .string x.j.h, .slice A x.j.sg.length c, .slice B x.q.length d] 31)) #[.int .i64 y.v, .int .i64 y.p, .int .i64 y.j.v, .string y.j.h, .slice A' y.j.sg.length c', .slice B' y.q.length d'] 31).keep k1 (by simp)
  simp only [World.size_alloc] at y1
  have kk1 : Keep [] w w1 := (((Keep.refl _ _).alloc _).alloc _).trans k1
  obtain ⟨c0, c1, c2, c3, c4, c5⟩ := x1.six
  obtain ⟨d0, d1, d2, d3, d4, d5⟩ := y1.six
  go_wp2_with fail
  refine (fewBlock_call x _ _ F _ (h.keep (kk1.at F (by simp))) (h2.keep (kk1.at F (by simp)))).mono ?_
  rintro e w2 ⟨rfl, k2⟩
  have x2 := x1.keep k2 (by simp)
  have y2 := y1.keep k2 (by simp)
  have kk2 := kk1.trans k2
  clear c0 c1 c2 c3 c4 c5 d0 d1 d2 d3 d4 d5
  obtain ⟨c0, c1, c2, c3, c4, c5⟩ := x2.six
  obtain ⟨d0, d1, d2, d3, d4, d5⟩ := y2.six
  cases fx : fewBlock x
  · go_wp2_with fail
    refine (awake_call _).mono ?_
    rintro e w9 ⟨rfl, k9⟩
    go_wp2
    go_ret
    exact ⟨rfl, kk2.trans k9⟩
  go_wp2_with fail
  refine (fewBlock_call y _ _ F _ (g.keep (kk2.at F (by simp))) (g2.keep (kk2.at F (by simp)))).mono ?_
  rintro e w3 ⟨rfl, k3⟩
  have x3 := x2.keep k3 (by simp)
  have y3 := y2.keep k3 (by simp)
  have kk3 := kk2.trans k3
  clear c0 c1 c2 c3 c4 c5 d0 d1 d2 d3 d4 d5
  obtain ⟨c0, c1, c2, c3, c4, c5⟩ := x3.six
  obtain ⟨d0, d1, d2, d3, d4, d5⟩ := y3.six
  cases fy : fewBlock y
  · go_wp2_with fail
    refine (awake_call _).mono ?_
    rintro e w9 ⟨rfl, k9⟩
    go_wp2
    go_ret
    exact ⟨rfl, kk3.trans k9⟩
  go_wp2_with fail
  refine (rightBlock_call x _ _ F _ (h.keep (kk3.at F (by simp))) (h2.keep (kk3.at F (by simp)))).mono ?_
  rintro e w4 ⟨rfl, k4⟩
  have x4 := x3.keep k4 (by simp)
  have y4 := y3.keep k4 (by simp)
  have kk4 := kk3.trans k4
  clear c0 c1 c2 c3 c4 c5 d0 d1 d2 d3 d4 d5
  obtain ⟨c0, c1, c2, c3, c4, c5⟩ := x4.six
  obtain ⟨d0, d1, d2, d3, d4, d5⟩ := y4.six
  cases rx : rightBlock x
  · go_wp2_with fail
    refine (awake_call _).mono ?_
    rintro e w9 ⟨rfl, k9⟩
    go_wp2
    go_ret
    exact ⟨rfl, kk4.trans k9⟩
  go_wp2_with fail
  refine (rightBlock_call y _ _ F _ (g.keep (kk4.at F (by simp))) (g2.keep (kk4.at F (by simp)))).mono ?_
  rintro e w5 ⟨rfl, k5⟩
  have x5 := x4.keep k5 (by simp)
  have y5 := y4.keep k5 (by simp)
  have kk5 := kk4.trans k5
  clear c0 c1 c2 c3 c4 c5 d0 d1 d2 d3 d4 d5
  obtain ⟨c0, c1, c2, c3, c4, c5⟩ := x5.six
  obtain ⟨d0, d1, d2, d3, d4, d5⟩ := y5.six
  cases ry : rightBlock y
  · go_wp2_with fail
    refine (awake_call _).mono ?_
    rintro e w9 ⟨rfl, k9⟩
    go_wp2
    go_ret
    exact ⟨rfl, kk5.trans k9⟩
  have HX := Lib.hid rx
  have HY := Lib.hid ry
  have HSX := (fewBlock_size x fx).1
  have HSY := (fewBlock_size y fy).1
  clear fx fy rx ry
  generalize hsz : w.heap.size = bx at *
  clear hsz x1 y1 x2 y2 x3 y3 x4 y4
  go_upto_region 3 with fail
  go_cut [5] (fun s5 wx => ∃ s : Bool, s5 = .bool s ∧ Hid (s = true ↔ hdr x y) ∧ wx = w5)
  case first =>
    cases e0 : (x.v == y.v)
    · have he : ¬ hdr x y := fun h => by have h0 := h.1; simp [h0] at e0
      have HE := Lib.hid he
      clear he
      go_wp2_with fail
      go_meet
      exact ⟨false, rfl, Lib.hid ⟨fun h => (by cases h), fun h => absurd h HE.out⟩, rfl⟩
    · skip
      cases e1 : (x.p == y.p)
      · have he : ¬ hdr x y := fun h => by have h0 := h.2.1; simp [h0] at e1
        have HE := Lib.hid he
        clear he
        go_wp2_with fail
        go_meet
        exact ⟨false, rfl, Lib.hid ⟨fun h => (by cases h), fun h => absurd h HE.out⟩, rfl⟩
      · skip
        cases e2 : (x.j.v == y.j.v)
        · have he : ¬ hdr x y := fun h => by have h0 := h.2.2.1; simp [h0] at e2
          have HE := Lib.hid he
          clear he
          go_wp2_with fail
          go_meet
          exact ⟨false, rfl, Lib.hid ⟨fun h => (by cases h), fun h => absurd h HE.out⟩, rfl⟩
        · skip
          cases e3 : (x.j.h.toList == y.j.h.toList)
          · have he : ¬ hdr x y := fun h => by have h0 := h.2.2.2.1; simp [h0] at e3
            have HE := Lib.hid he
            clear he
            go_wp2_with fail
            go_meet
            exact ⟨false, rfl, Lib.hid ⟨fun h => (by cases h), fun h => absurd h HE.out⟩, rfl⟩
          · skip
            cases e4 : ((x.q.length : Int) == (y.q.length : Int))
            · have he : ¬ hdr x y := fun h => by have h0 := h.2.2.2.2.1; simp [h0] at e4
              have HE := Lib.hid he
              clear he
              go_wp2_with fail
              go_meet
              exact ⟨false, rfl, Lib.hid ⟨fun h => (by cases h), fun h => absurd h HE.out⟩, rfl⟩
            · skip
              cases e5 : ((x.j.sg.length : Int) == (y.j.sg.length : Int))
              · have he : ¬ hdr x y := fun h => by have h0 := h.2.2.2.2.2; simp [h0] at e5
                have HE := Lib.hid he
                clear he
                go_wp2_with fail
                go_meet
                exact ⟨false, rfl, Lib.hid ⟨fun h => (by cases h), fun h => absurd h HE.out⟩, rfl⟩
              · skip
                have he : hdr x y := ⟨by simpa using e0, by simpa using e1, by simpa using e2, (bytes_eq _ _).1 (by simpa using e3), by have := beq_iff_eq.1 e4; omega, by have := beq_iff_eq.1 e5; omega⟩
                have HE := Lib.hid he
                clear he
                go_wp2_with fail
                go_meet
                exact ⟨true, rfl, Lib.hid ⟨fun _ => HE.out, fun _ => rfl⟩, rfl⟩
  case rest =>
    obtain ⟨s, rfl, hs, rfl⟩ := hcut
    go_upto_block 0 with (fail)
    go_cut [5] (fun s5 wx => ∃ s : Bool, s5 = .bool s ∧ Hid (s = true → hdr x y ∧ x.q = y.q) ∧ Hid (s = false → x ≠ y) ∧ Keep [] w wx ∧ Blk wx bx #[.int .i64 x.v, .int .i64 x.p, .int .i64 x.j.v, .string x.j.h, .slice A x.j.sg.length c, .slice B x.q.length d] 31 ∧ Blk wx (bx + 1) #[.int .i64 y.v, .int .i64 y.p, .int .i64 y.j.v, .string y.j.h, .slice A' y.j.sg.length c', .slice B' y.q.length d'] 31)
    case first =>
      go_wp2
      go_loopw [5, 6] (fun s5 i wr => ∃ (k : Nat) (s : Bool), i = .int .i64 k ∧ s5 = .bool s ∧ k ≤ x.q.length ∧ Hid (s = true → hdr x y ∧ ∀ j, j < k → x.q[j]? = y.q[j]?) ∧ Hid (s = false → x ≠ y) ∧ Keep [] w wr ∧ Blk wr bx #[.int .i64 x.v, .int .i64 x.p, .int .i64 x.j.v, .string x.j.h, .slice A x.j.sg.length c, .slice B x.q.length d] 31 ∧ Blk wr (bx + 1) #[.int .i64 y.v, .int .i64 y.p, .int .i64 y.j.v, .string y.j.h, .slice A' y.j.sg.length c', .slice B' y.q.length d'] 31) (fun _ i _ => x.q.length - (intOf i).toNat)
      case atStart => exact ⟨0, s, rfl, rfl, Nat.zero_le _, Lib.hid (fun h => ⟨hs.out.1 h, fun j hj => by omega⟩), Lib.hid (fun h he => by have := hs.out.2 (by subst he; exact ⟨rfl, rfl, rfl, rfl, rfl, rfl⟩); rw [h] at this; cases this), kk5, x5, y5⟩
      case round =>
        obtain ⟨k, s, rfl, rfl, hk, h1, h3, kr, xr, yr⟩ := hrel
        obtain ⟨_, _, _, _, _, c5⟩ := xr.six
        obtain ⟨_, _, _, _, _, d5⟩ := yr.six
        by_cases hlt : k < x.q.length
        · cases s
          · have hne := Lib.hid (h3.out rfl)
            go_wp2_with fail
            go_meet
            exact ⟨false, rfl, Lib.hid (fun h => by cases h), Lib.hid (fun _ => hne.out), kr, xr, yr⟩
          · have H0 := Lib.hid (h1.out rfl)
            have hly : k < y.q.length := by have := (h1.out rfl).1.2.2.2.2.1; omega
            obtain ⟨g0, o0, rfl, p0, p1, p2, _, _, _⟩ := (h2.keep (kr.at F (by simp))).req_at hlt
            obtain ⟨g1, o1, rfl, r0, r1, r2, _, _, _⟩ := (g2.keep (kr.at F (by simp))).req_at hly
            have heq := eq_req x.q[k] y.q[k]
            go_wp2_with fail
            refine wp_region_class (C := fun w' => Keep [] wr w' ∧ w'.cell? ⟨bx, 5, none⟩ = some (.slice (some ⟨g0, o0, none⟩) x.q.length d) ∧ w'.cell? ⟨bx + 1, 5, none⟩ = some (.slice (some ⟨g1, o1, none⟩) y.q.length d') ∧
              w'.cell? ⟨g0, o0 + k * 3, none⟩ = some (.int .i64 x.q[k].c) ∧ w'.cell? ⟨g0, o0 + k * 3 + 1, none⟩ = some (.int .i64 x.q[k].s) ∧ w'.cell? ⟨g0, o0 + k * 3 + 2, none⟩ = some (.string x.q[k].b) ∧
              w'.cell? ⟨g1, o1 + k * 3, none⟩ = some (.int .i64 y.q[k].c) ∧ w'.cell? ⟨g1, o1 + k * 3 + 1, none⟩ = some (.int .i64 y.q[k].s) ∧ w'.cell? ⟨g1, o1 + k * 3 + 2, none⟩ = some (.string y.q[k].b)) (by kernel_rfl) (by kernel_rfl) ⟨(Keep.refl _ _).drew, c5, d5, p0, p1, p2, r0, r1, r2⟩ ?_
            iterate 12 (first
              | go_big_quiet_skip
              | (go_big_quiet_want; first
                | (go_big_quiet_op; go_big_quiet_on)
                | (refine quiet_run (v := ?_) ?_ ?_; (rotate_left; (intro w' hC; (try dsimp only at hC); go_split_ands; go_simp; with_reducible rfl); simp only [Act.put, List.setIfInBounds_toArray, List.set_cons_zero, List.set_cons_succ]; go_big_quiet_on))
                | (refine quiet_call (v := ?_) (f := ?_) (args := ?_) ?_ ?_ ?_; (rotate_left; rotate_left; rotate_left; (intro w' hC; (try dsimp only at hC); go_split_ands; go_simp; (refine ⟨?_, ?_⟩ <;> with_reducible rfl)); (intro w' hC; fail); simp only [Act.put, List.setIfInBounds_toArray, List.set_cons_zero, List.set_cons_succ]; go_big_quiet_on))))
            refine wpQuiet_nil ?_
            intro w6 hC6
            have k6 := hC6.1
            clear hC6 heq
            have x6 := xr.keep k6 (by simp)
            have y6 := yr.keep k6 (by simp)
            have hi := eqReq_iff x.q[k] y.q[k]
            have H1 := H0.out
            have Ht : Hid (eqReq x.q[k] y.q[k] = true → hdr x y ∧ ∀ j, j < k + 1 → x.q[j]? = y.q[j]?) := Lib.hid (fun ht => ⟨H1.1, fun j hj => by
              by_cases hjk : j < k
              · exact H1.2 j hjk
              · obtain rfl : j = k := by omega
                rw [List.getElem?_eq_getElem hlt, List.getElem?_eq_getElem hly, hi.1 ht]⟩)
            have Hf : Hid (eqReq x.q[k] y.q[k] = false → x ≠ y) := Lib.hid (fun hf he => by
              have : eqReq x.q[k] y.q[k] = true := hi.2 (by simp [he])
              rw [hf] at this; cases this)
            clear hi H1 h1 h3 p0 p1 p2 r0 r1 r2
            generalize eqReq x.q[k] y.q[k] = s' at *
            go_wp2
            go_roundw
            case rel => exact ⟨k + 1, s', by go_num, rfl, by omega, Ht, Hf, kr.trans k6, x6, y6⟩
            case measure => simp [intOf]; omega
        · have hk' : k = x.q.length := by omega
          have Ht : Hid (s = true → hdr x y ∧ x.q = y.q) := Lib.hid (fun hs => by
            obtain ⟨H1, H2⟩ := h1.out hs
            refine ⟨H1, List.ext_getElem? fun j => ?_⟩
            by_cases hj : j < k
            · exact H2 j hj
            · rw [List.getElem?_eq_none (by omega), List.getElem?_eq_none (by have := H1.2.2.2.2.1; omega)])
          subst hk'
          go_wp2_with fail
          go_meet
          exact ⟨s, rfl, Ht, h3, kr, xr, yr⟩
    case rest =>
      obtain ⟨s, rfl, hs, hns, kc, xc, yc⟩ := hcut
      go_upto_block 2 with (fail)
      go_cut [5] (fun s5 wx => ∃ s : Bool, s5 = .bool s ∧ Hid (s = true → x = y) ∧ Hid (s = false → x ≠ y) ∧ Keep [] w wx ∧ Blk wx bx #[.int .i64 x.v, .int .i64 x.p, .int .i64 x.j.v, .string x.j.h, .slice A x.j.sg.length c, .slice B x.q.length d] 31 ∧ Blk wx (bx + 1) #[.int .i64 y.v, .int .i64 y.p, .int .i64 y.j.v, .string y.j.h, .slice A' y.j.sg.length c', .slice B' y.q.length d'] 31)
      case first =>
        go_wp2
        go_loopw [5, 7] (fun s5 i wr => ∃ (k : Nat) (s : Bool), i = .int .i64 k ∧ s5 = .bool s ∧ k ≤ x.j.sg.length ∧ Hid (s = true → hdr x y ∧ x.q = y.q ∧ ∀ j, j < k → x.j.sg[j]? = y.j.sg[j]?) ∧ Hid (s = false → x ≠ y) ∧ Keep [] w wr ∧ Blk wr bx #[.int .i64 x.v, .int .i64 x.p, .int .i64 x.j.v, .string x.j.h, .slice A x.j.sg.length c, .slice B x.q.length d] 31 ∧ Blk wr (bx + 1) #[.int .i64 y.v, .int .i64 y.p, .int .i64 y.j.v, .string y.j.h, .slice A' y.j.sg.length c', .slice B' y.q.length d'] 31) (fun _ i _ => x.j.sg.length - (intOf i).toNat)
        case atStart => exact ⟨0, s, rfl, rfl, Nat.zero_le _, Lib.hid (fun h => ⟨(hs.out h).1, (hs.out h).2, fun j hj => by omega⟩), hns, kc, xc, yc⟩
        case round =>
          obtain ⟨k, s, rfl, rfl, hk, h1, h3, kr, xr, yr⟩ := hrel
          obtain ⟨_, _, _, _, c4, _⟩ := xr.six
          obtain ⟨_, _, _, _, d4, _⟩ := yr.six
          by_cases hlt : k < x.j.sg.length
          · cases s
            · have hne := Lib.hid (h3.out rfl)
              go_wp2_with fail
              go_meet
              exact ⟨false, rfl, Lib.hid (fun h => by cases h), Lib.hid (fun _ => hne.out), kr, xr, yr⟩
            · have H0 := Lib.hid (h1.out rfl)
              have hly : k < y.j.sg.length := by have := (h1.out rfl).1.2.2.2.2.2; omega
              obtain ⟨g0, o0, v0, rfl, p0, p1, _, s0⟩ := (h.keep (kr.at F (by simp))).sg_at hlt
              obtain ⟨g1, o1, v1, rfl, r0, r1, _, s1⟩ := (g.keep (kr.at F (by simp))).sg_at hly
              obtain ⟨T0, t0, rfl, _⟩ := s0.form
              obtain ⟨T1, t1, rfl, _⟩ := s1.form
              go_upto_region 11 with fail
              go_cut [8, 9] (fun s8 s9 wx => ∃ ga gb, s8 = .pointer (some ⟨ga, 0, none⟩) ∧ s9 = .pointer (some ⟨gb, 0, none⟩) ∧ Blk wx ga #[.int .i64 x.j.sg[k].f, .slice T0 x.j.sg[k].ts.length t0] 37 ∧ Blk wx gb #[.int .i64 y.j.sg[k].f, .slice T1 y.j.sg[k].ts.length t1] 37 ∧ Keep [] wr wx)
              case first =>
                have n0 := World.new_ne wr _ c4
                have n1 := World.new_ne wr _ d4
                have n2 := World.new_ne wr _ p0
                have n3 := World.new_ne wr _ p1
                have n4 := World.new_ne wr _ r0
                have n5 := World.new_ne wr _ r1
                go_region_held3? (fun w' => w'.cell? ⟨bx, 4, none⟩ = some (.slice (some ⟨g0, o0, none⟩) x.j.sg.length c) ∧ w'.cell? ⟨bx + 1, 4, none⟩ = some (.slice (some ⟨g1, o1, none⟩) y.j.sg.length c') ∧
                    w'.cell? ⟨g0, o0 + k * 2, none⟩ = some (.int .i64 x.j.sg[k].f) ∧ w'.cell? ⟨g0, o0 + k * 2 + 1, none⟩ = some (.slice T0 x.j.sg[k].ts.length t0) ∧
                    w'.cell? ⟨g1, o1 + k * 2, none⟩ = some (.int .i64 y.j.sg[k].f) ∧ w'.cell? ⟨g1, o1 + k * 2 + 1, none⟩ = some (.slice T1 y.j.sg[k].ts.length t1))
                  (go_keep)
                  (fail)
                all_goals
                  go_wp2_with fail
                  go_meet
                · exact ⟨_, _, rfl, rfl, (Blk.new wr _ _).alloc _, by have b := Blk.new (wr.alloc (.cells #[.int .i64 x.j.sg[k].f, .slice T0 x.j.sg[k].ts.length t0] 37)) #[.int .i64 y.j.sg[k].f, .slice T1 y.j.sg[k].ts.length t1] 37; simp only [World.size_alloc] at b; exact b, (((Keep.refl _ _).alloc _).alloc _).drew⟩
                · exact ⟨_, _, rfl, rfl, by have b := Blk.new (wr.alloc (.cells #[.int .i64 y.j.sg[k].f, .slice T1 y.j.sg[k].ts.length t1] 37)) #[.int .i64 x.j.sg[k].f, .slice T0 x.j.sg[k].ts.length t0] 37; simp only [World.size_alloc] at b; exact b, (Blk.new wr _ _).alloc _, (((Keep.refl _ _).alloc _).alloc _).drew⟩
              case rest =>
                obtain ⟨ga, gb, rfl, rfl, ba, bb, kx⟩ := hcut
                have xx := xr.keep kx (by simp)
                have yx := yr.keep kx (by simp)
                have s0x := s0.keep (kx.at F (by simp))
                have s1x := s1.keep (kx.at F (by simp))
                have kwx := kr.trans kx
                clear c4 d4 p0 p1 r0 r1 s0 s1
                obtain ⟨a0, a1⟩ : wc.cell? ⟨ga, 0, none⟩ = some (.int .i64 x.j.sg[k].f) ∧ wc.cell? ⟨ga, 1, none⟩ = some (.slice T0 x.j.sg[k].ts.length t0) := ⟨ba.cell 0, ba.cell 1⟩
                obtain ⟨b0, b1⟩ : wc.cell? ⟨gb, 0, none⟩ = some (.int .i64 y.j.sg[k].f) ∧ wc.cell? ⟨gb, 1, none⟩ = some (.slice T1 y.j.sg[k].ts.length t1) := ⟨bb.cell 0, bb.cell 1⟩
                have HSX0 : ∃ sx, Hid (x.j.sg[k] = sx) := ⟨_, rfl⟩
                obtain ⟨sx, HSX0⟩ := HSX0
                have HSY0 : ∃ sy, Hid (y.j.sg[k] = sy) := ⟨_, rfl⟩
                obtain ⟨sy, HSY0⟩ := HSY0
                rw [HSX0.out] at a0 a1 s0x
                rw [HSY0.out] at b0 b1 s1x
                go_upto_region 12 with fail
                go_cut [5] (fun s5 wy => ∃ s : Bool, s5 = .bool s ∧ Hid (s = true ↔ sx.f = sy.f ∧ sx.ts.length = sy.ts.length) ∧ wy = wc)
                case first =>
                  cases e1 : (sx.f == sy.f)
                  · have HE := Lib.hid (show ¬ (sx.f = sy.f ∧ sx.ts.length = sy.ts.length) from fun h => by simp [h.1] at e1)
                    go_wp2_with fail
                    go_meet
                    exact ⟨false, rfl, Lib.hid ⟨fun h => (by cases h), fun h => absurd h HE.out⟩, rfl⟩
                  · cases e2 : ((sx.ts.length : Int) == (sy.ts.length : Int))
                    · have HE := Lib.hid (show ¬ (sx.f = sy.f ∧ sx.ts.length = sy.ts.length) from fun h => by simp [h.2] at e2)
                      go_wp2_with fail
                      go_meet
                      exact ⟨false, rfl, Lib.hid ⟨fun h => (by cases h), fun h => absurd h HE.out⟩, rfl⟩
                    · have HE := Lib.hid (show sx.f = sy.f ∧ sx.ts.length = sy.ts.length from ⟨by simpa using e1, by have := beq_iff_eq.1 e2; omega⟩)
                      go_wp2_with fail
                      go_meet
                      exact ⟨true, rfl, Lib.hid ⟨fun _ => HE.out, fun _ => rfl⟩, rfl⟩
                case rest =>
                  obtain ⟨s, rfl, hs2, rfl⟩ := hcut
                  have Fin : ∀ s' : Bool, Hid (s' = true ↔ sx = sy) → Hid (s' = true → hdr x y ∧ x.q = y.q ∧ ∀ j, j < k + 1 → x.j.sg[j]? = y.j.sg[j]?) ∧ Hid (s' = false → x ≠ y) := by
                    intro s' hs'
                    have H1 := H0.out
                    refine ⟨Lib.hid (fun ht => ⟨H1.1, H1.2.1, fun j hj => ?_⟩), Lib.hid (fun hf he => ?_)⟩
                    · by_cases hjk : j < k
                      · exact H1.2.2 j hjk
                      · obtain rfl : j = k := by omega
                        rw [List.getElem?_eq_getElem hlt, List.getElem?_eq_getElem hly, HSX0.out, HSY0.out, hs'.out.1 ht]
                    · have : s' = true := hs'.out.2 (by rw [← HSX0.out, ← HSY0.out]; simp [he])
                      rw [hf] at this; cases this
                  have hbs : sx.ts.length ≤ 140737488355328 := by obtain ⟨_, _, _, hb⟩ := s0x.form; exact hb
                  clear h1 h3 hs hns HSX0 HSY0 H0
                  go_wp2
                  go_loopw [5, 10] (fun s5 i wq => ∃ (m : Nat) (s : Bool), i = .int .i64 m ∧ s5 = .bool s ∧ m ≤ sx.ts.length ∧ Hid (s = true → sx.f = sy.f ∧ sx.ts.length = sy.ts.length ∧ ∀ j, j < m → sx.ts[j]? = sy.ts[j]?) ∧ Hid (s = false → sx ≠ sy) ∧ Keep [] wc wq) (fun _ i _ => sx.ts.length - (intOf i).toNat)
                  case atStart => exact ⟨0, s, rfl, rfl, Nat.zero_le _, Lib.hid (fun h => ⟨(hs2.out.1 h).1, (hs2.out.1 h).2, fun j hj => by omega⟩), Lib.hid (fun h he => by have := hs2.out.2 (by subst he; exact ⟨rfl, rfl⟩); rw [h] at this; cases this), Keep.refl _ _⟩
                  case round =>
                    obtain ⟨m, s3, rfl, rfl, hm, j1, j2, kq⟩ := hrel
                    have a1q := kq.cell (by simp) a1
                    have b1q := kq.cell (by simp) b1
                    have kwq := kwx.trans kq
                    have xq := xx.keep kq (by simp)
                    have yq := yx.keep kq (by simp)
                    by_cases hltm : m < sx.ts.length
                    · cases s3
                      · have hne := Lib.hid (j2.out rfl)
                        obtain ⟨F1, F2⟩ := Fin false (Lib.hid ⟨fun h => (by cases h), fun h => absurd h hne.out⟩)
                        clear j1 j2
                        go_wp2
                        exact ⟨⟨k + 1, false, by go_num, rfl, by omega, F1, F2, kwq, xq, yq⟩, by simp [intOf]; omega⟩
                      · have J0 := Lib.hid (j1.out rfl)
                        have hm1 := Lib.hid (show m + 1 ≤ sx.ts.length from hltm)
                        have hlym : m < sy.ts.length := by have := (j1.out rfl).2.1; omega
                        obtain ⟨g2', o2', rfl, p2, _⟩ := (s0x.keep (kq.at F (by simp))).str_at hltm
                        obtain ⟨g3', o3', rfl, p3, _⟩ := (s1x.keep (kq.at F (by simp))).str_at hlym
                        go_wp2_with fail
                        refine wp_region_class (C := fun w' => Keep [] wr w' ∧ w'.cell? ⟨ga, 1, none⟩ = some (.slice (some ⟨g2', o2', none⟩) sx.ts.length t0) ∧ w'.cell? ⟨gb, 1, none⟩ = some (.slice (some ⟨g3', o3', none⟩) sy.ts.length t1) ∧ w'.cell? ⟨g2', o2' + m, none⟩ = some (.string sx.ts[m]) ∧ w'.cell? ⟨g3', o3' + m, none⟩ = some (.string sy.ts[m])) (by kernel_rfl) (by kernel_rfl) ⟨(Keep.refl _ _).drew, a1q, b1q, p2, p3⟩ ?_
                        iterate 12 (first
                          | go_big_quiet_skip
                          | (go_big_quiet_want; first
                            | (go_big_quiet_op; go_big_quiet_on)
                            | (refine quiet_run (v := ?_) ?_ ?_; (rotate_left; (intro w' hC; (try dsimp only at hC); go_split_ands; go_simp; with_reducible rfl); simp only [Act.put, List.setIfInBounds_toArray, List.set_cons_zero, List.set_cons_succ]; go_big_quiet_on))
                            | (refine quiet_call (v := ?_) (f := ?_) (args := ?_) ?_ ?_ ?_; (rotate_left; rotate_left; rotate_left; (intro w' hC; (try dsimp only at hC); go_split_ands; go_simp; (refine ⟨?_, ?_⟩ <;> with_reducible rfl)); (intro w' hC; fail); simp only [Act.put, List.setIfInBounds_toArray, List.set_cons_zero, List.set_cons_succ]; go_big_quiet_on))))
                        refine wpQuiet_nil ?_
                        intro w6 hC6
                        have k6 := hC6.1
                        clear hC6
                        have J1 := J0.out
                        have hi := bytes_eq sx.ts[m] sy.ts[m]
                        have Ht : Hid ((sx.ts[m].toList == sy.ts[m].toList) = true → sx.f = sy.f ∧ sx.ts.length = sy.ts.length ∧ ∀ j, j < m + 1 → sx.ts[j]? = sy.ts[j]?) := Lib.hid (fun ht => ⟨J1.1, J1.2.1, fun j hj => by
                          by_cases hjk : j < m
                          · exact J1.2.2 j hjk
                          · obtain rfl : j = m := by omega
                            rw [List.getElem?_eq_getElem hltm, List.getElem?_eq_getElem hlym]; exact congrArg some (hi.1 (by simpa using ht))⟩)
                        have Hf : Hid ((sx.ts[m].toList == sy.ts[m].toList) = false → sx ≠ sy) := Lib.hid (fun hf he => by
                          have : sx.ts[m].toList = sy.ts[m].toList := hi.2 (by simp [he])
                          simp [this] at hf)
                        clear hi J1 p2 p3 j1 j2
                        generalize (sx.ts[m].toList == sy.ts[m].toList) = s' at *
                        go_wp2
                        go_roundw
                        case rel => exact ⟨m + 1, s', by go_num, rfl, hm1.out, Ht, Hf, kq.trans k6⟩
                        case measure => have hm2 := hm1.out; simp [intOf]; omega
                    · obtain ⟨F1, F2⟩ := Fin s3 (Lib.hid ⟨fun ht => by
                          obtain ⟨a, b, c⟩ := j1.out ht
                          obtain ⟨sf, sts⟩ := sx
                          obtain ⟨yf, yts⟩ := sy
                          simp only at a b c hltm ⊢
                          have e : sts = yts := List.ext_getElem? fun j => by
                            by_cases hj : j < m
                            · exact c j hj
                            · rw [List.getElem?_eq_none (by omega), List.getElem?_eq_none (by omega)]
                          rw [a, e], fun he => by
                          cases hs3 : s3
                          · exact absurd he (j2.out hs3)
                          · rfl⟩)
                      clear j1 j2
                      go_wp2
                      exact ⟨⟨k + 1, s3, by go_num, rfl, by omega, F1, F2, kwq, xq, yq⟩, by simp [intOf]; omega⟩
          · have hk' : k = x.j.sg.length := by omega
            have Ht : Hid (s = true → x = y) := Lib.hid (fun hs => by
              obtain ⟨H1, H3, H2⟩ := h1.out hs
              have e : x.j.sg = y.j.sg := List.ext_getElem? fun j => by
                by_cases hj : j < k
                · exact H2 j hj
                · rw [List.getElem?_eq_none (by omega), List.getElem?_eq_none (by have := H1.2.2.2.2.2; omega)]
              obtain ⟨a1, a2, a3, a4, _, _⟩ := H1
              obtain ⟨xv, xp, ⟨xjv, xjh, xsg⟩, xq⟩ := x
              obtain ⟨yv, yp, ⟨yjv, yjh, ysg⟩, yq⟩ := y
              simp only at a1 a2 a3 a4 e H3
              simp only [a1, a2, a3, a4, e, H3])
            subst hk'
            go_wp2_with fail
            go_meet
            exact ⟨s, rfl, Ht, h3, kr, xr, yr⟩
      case rest =>
        obtain ⟨s, rfl, hs, hns, kc, xc, yc⟩ := hcut
        obtain ⟨c0, c1, c2, c3, c4, c5⟩ := xc.six
        obtain ⟨d0, d1, d2, d3, d4, d5⟩ := yc.six
        have HB : Hid (((blockF x).toList == (blockF y).toList) = s) := Lib.hid (by
          cases s
          · have hne := hns.out rfl
            rw [Bool.eq_false_iff]
            intro he
            exact hne (blockF_inj HX.out HY.out ((bytes_eq _ _).1 (by simpa using he)))
          · rw [hs.out rfl]; simp)
        go_upto_region 17 with fail
        generalize hW : wc = W at *
        refine wp_region_class (C := fun w' => Keep [] W w' ∧ (w'.cell? ⟨bx, 0, none⟩ = some (.int .i64 x.v) ∧ w'.cell? ⟨bx, 1, none⟩ = some (.int .i64 x.p) ∧ w'.cell? ⟨bx, 2, none⟩ = some (.int .i64 x.j.v) ∧ w'.cell? ⟨bx, 3, none⟩ = some (.string x.j.h) ∧ w'.cell? ⟨bx, 4, none⟩ = some (.slice A x.j.sg.length c) ∧ w'.cell? ⟨bx, 5, none⟩ = some (.slice B x.q.length d)) ∧ (w'.cell? ⟨bx + 1, 0, none⟩ = some (.int .i64 y.v) ∧ w'.cell? ⟨bx + 1, 1, none⟩ = some (.int .i64 y.p) ∧ w'.cell? ⟨bx + 1, 2, none⟩ = some (.int .i64 y.j.v) ∧ w'.cell? ⟨bx + 1, 3, none⟩ = some (.string y.j.h) ∧ w'.cell? ⟨bx + 1, 4, none⟩ = some (.slice A' y.j.sg.length c') ∧ w'.cell? ⟨bx + 1, 5, none⟩ = some (.slice B' y.q.length d'))) (by kernel_rfl) (by kernel_rfl) ⟨(Keep.refl _ _).drew, ⟨c0, c1, c2, c3, c4, c5⟩, d0, d1, d2, d3, d4, d5⟩ ?_
        iterate 8 (first
          | go_big_quiet_skip
          | (go_big_quiet_want; first
            | (go_big_quiet_op; go_big_quiet_on)
            | (refine quiet_run (v := ?_) ?_ ?_; (rotate_left; (intro w' hC; (try dsimp only at hC); go_split_ands; go_simp; with_reducible rfl); simp only [Act.put, List.setIfInBounds_toArray, List.set_cons_zero, List.set_cons_succ]; go_big_quiet_on))
            | (refine quiet_call (v := ?_) (f := ?_) (args := ?_) ?_ ?_ ?_; (rotate_left; rotate_left; rotate_left; (intro w' hC; (try dsimp only at hC); go_split_ands; go_simp; (refine ⟨?_, ?_⟩ <;> with_reducible rfl)); (intro w' hC; first | ((with_reducible refine (block_call x _ _ F _ (h.keep ((kc.trans hC.1).at F (by simp))) (h2.keep ((kc.trans hC.1).at F (by simp))) (by omega)).mono ?_); rintro e w8 ⟨rfl, kq⟩; refine ⟨?_, Keep.trans hC.1 kq, ⟨Keep.cell kq (by simp) hC.2.1.1, Keep.cell kq (by simp) hC.2.1.2.1, Keep.cell kq (by simp) hC.2.1.2.2.1, Keep.cell kq (by simp) hC.2.1.2.2.2.1, Keep.cell kq (by simp) hC.2.1.2.2.2.2.1, Keep.cell kq (by simp) hC.2.1.2.2.2.2.2⟩, Keep.cell kq (by simp) hC.2.2.1, Keep.cell kq (by simp) hC.2.2.2.1, Keep.cell kq (by simp) hC.2.2.2.2.1, Keep.cell kq (by simp) hC.2.2.2.2.2.1, Keep.cell kq (by simp) hC.2.2.2.2.2.2.1, Keep.cell kq (by simp) hC.2.2.2.2.2.2.2⟩; with_reducible rfl) | ((with_reducible refine (block_call y _ _ F _ (g.keep ((kc.trans hC.1).at F (by simp))) (g2.keep ((kc.trans hC.1).at F (by simp))) (by omega)).mono ?_); rintro e w8 ⟨rfl, kq⟩; refine ⟨?_, Keep.trans hC.1 kq, ⟨Keep.cell kq (by simp) hC.2.1.1, Keep.cell kq (by simp) hC.2.1.2.1, Keep.cell kq (by simp) hC.2.1.2.2.1, Keep.cell kq (by simp) hC.2.1.2.2.2.1, Keep.cell kq (by simp) hC.2.1.2.2.2.2.1, Keep.cell kq (by simp) hC.2.1.2.2.2.2.2⟩, Keep.cell kq (by simp) hC.2.2.1, Keep.cell kq (by simp) hC.2.2.2.1, Keep.cell kq (by simp) hC.2.2.2.2.1, Keep.cell kq (by simp) hC.2.2.2.2.2.1, Keep.cell kq (by simp) hC.2.2.2.2.2.2.1, Keep.cell kq (by simp) hC.2.2.2.2.2.2.2⟩; with_reducible rfl)); simp only [Act.put, List.setIfInBounds_toArray, List.set_cons_zero, List.set_cons_succ]; go_big_quiet_on))))
        refine wpQuiet_nil ?_
        intro w8 hC8
        have k8 := hC8.1
        clear hC8
        rw [HB.out]
        go_wp2
        go_ret
        exact ⟨by simp, kc.trans k8⟩
end Go.Proofs.Ytmpkhjfklgcmbaa
