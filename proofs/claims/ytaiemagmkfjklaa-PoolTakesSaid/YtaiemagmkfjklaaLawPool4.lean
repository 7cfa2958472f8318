import Derived.Test.YtaiemagmkfjklaaPool15
import Derived.Deep.RegionLaw
import Derived.Deep.DeepCutAuto
namespace Go.Proofs.Ytaiemagmkfjklaa
open Go.RowKit Go.Shelf
set_option linter.unusedVariables false
set_option linter.unusedSimpArgs false
/-! the law PoolTakes -/
theorem zero41 (w : World) : (zeroValue 41).run Try.prog w = .ok (.agg #[.slice none 0 0, .slice none 0 0]) w := by kernel_rfl
set_option maxHeartbeats 4000000 in
theorem poolTakes_call (A B : Option Addr) (l : List Op12) (but : List Req) (c d : Nat) (n : Int) (F : Nat → Prop) (w : World) (ha : SliceOf Rep.op w F (.slice A l.length c) l) (hb : SliceOf Rep.req w F (.slice B but.length d) but) (hn : I64 n) (hF : ∀ i, F i → i < w.heap.size) :
    Calls Try.prog 6 #[.slice A l.length c, .int .i64 n, .slice B but.length d] w fun e w' => e = .returned (.bool true) ∧ Keep [] w w' := by
  have hfa : ∀ w', Keep [] w w' → Calls Try.prog 8 #[.slice A l.length c, .int .i64 40] w' fun e w'' => e = .returned (.bool (fewB l 40)) ∧ Keep [] w' w'' := fun w' k => few_call A l c F 40 w' (ha.keep (k.at F (by simp))) (by omega)
  obtain ⟨_, _, e0, hla⟩ := ha.form
  clear e0
  obtain ⟨_, _, e0, hlb⟩ := hb.form
  clear e0
  have HA := Lib.hid ha
  have HB := Lib.hid hb
  clear ha hb
  cases h1 : fewB l 40 with
  | false =>
    rw [h1] at hfa
    go_enter Try.func6, Try.ntmps6
    go_wp2_with (first | (go_at_call 7; refine (awake_call _).mono ?_; rintro e w1 ⟨rfl, k1⟩) | (go_at_call 8; refine (hfa _ k1).mono ?_; rintro e w2 ⟨rfl, k2⟩; have k12 := k1.trans k2) | go_in)
    go_ret
    exact ⟨rfl, k12.trans k1⟩
  | true =>
    rw [h1] at hfa
    obtain ⟨n1, q1⟩ := fewB_le h1 (by omega)
    have Q1 := Lib.hid q1
    clear q1 h1
    by_cases h20 : 20 < but.length
    · have h20z : (20 : Int) < (but.length : Int) := by omega
      go_enter Try.func6, Try.ntmps6
      go_wp2_with (first | (go_at_call 7; refine (awake_call _).mono ?_; rintro e w1 ⟨rfl, k1⟩) | (go_at_call 8; refine (hfa _ k1).mono ?_; rintro e w2 ⟨rfl, k2⟩; have k12 := k1.trans k2) | go_in)
      go_ret
      exact ⟨rfl, k12.trans k1⟩
    · have h20z : ¬ (20 : Int) < (but.length : Int) := by omega
      go_enter Try.func6, Try.ntmps6
      go_wp2_with (first | (go_at_call 7; refine (awake_call _).mono ?_; rintro e w1 ⟨rfl, k1⟩) | (go_at_call 8; refine (hfa _ k1).mono ?_; rintro e w2 ⟨rfl, k2⟩; have k12 := k1.trans k2) | (go_at_call 9; refine (new_call _).mono ?_; rintro e w3 ⟨p, rfl, hp3, k3⟩) | go_in)
      have hz2 := k12.size
      have k13 := k12.trans k3
      have hPP : Pair w (w3.alloc (.cells #[.slice none 0 0, .slice none 0 0] 41)) p w3.heap.size 0 ([], []) ([], []) := pair_new (hp3.mono (fun i hi h => Nat.le_trans hz2 h) (Nat.le_refl _)) k13 rfl
      have hrr := Lib.hid (runP_take ([], []) l)
      clear hfa
      go_loopw [9] (fun i wr => ∃ k : Nat, k ≤ l.length ∧ i = .int .i64 k ∧ Pair w wr p w3.heap.size (10 * k) (runP ([], []) (l.take k)) (runP ([], []) (l.take k))) (fun i _ => l.length - (intOf i).toNat)
      case atStart => exact ⟨0, Nat.zero_le _, rfl, hPP⟩
      case round =>
        obtain ⟨k, hk, rfl, hP⟩ := hrel
        by_cases hlt : k < l.length
        · have hltz : (k : Int) < (l.length : Int) := by omega
          obtain ⟨g, o, L, lc, rfl, c0, c1, c2, c3, c4, i1, i2, i3⟩ := HA.out.op_at hlt
          have hI : InvP (runP ([], []) (l.take k)) := InvP.start.run _
          have hdl := runP_done_len (l.take k) (fun x hx => Q1.out x (List.mem_of_mem_take hx)) ([], [])
          simp only [List.length_nil, Nat.zero_add, List.length_take] at hdl
          have hq := Q1.out _ (List.getElem_mem hlt)
          have hst := Lib.hid (hrr.out k hlt)
          generalize l[k] = x at *
          generalize runP ([], []) (l.take k) = t at *
          have hmv : ∀ w', Keep [] w w' → w'.cell? ⟨g, o + k * 5, none⟩ = some (.int .u8 x.k) ∧ w'.cell? ⟨g, o + k * 5 + 1, none⟩ = some (.int .i64 x.r.c) ∧ w'.cell? ⟨g, o + k * 5 + 2, none⟩ = some (.int .i64 x.r.s) ∧ w'.cell? ⟨g, o + k * 5 + 3, none⟩ = some (.string x.r.b) ∧ w'.cell? ⟨g, o + k * 5 + 4, none⟩ = some (.slice L x.l.length lc) ∧ SliceOf Rep.req w' F (.slice L x.l.length lc) x.l :=
            fun w' h => ⟨h.cell (by simp) c0, h.cell (by simp) c1, h.cell (by simp) c2, h.cell (by simp) c3, h.cell (by simp) c4, i3.keep (h.at F (by simp))⟩
          obtain ⟨d0, d1, d2, d3, d4, d5⟩ := hmv _ hP.base
          have hc := pair_call hP x L lc F i1 i2 d5 hF hI (by omega) hq
          have hd := fun w' (h : Pair w w' p w3.heap.size (10 * k + 10) (stepP t x) t) => pair_do h x L lc F i1 i2 (hmv w' h.base).2.2.2.2.2 hF hI (by omega) hq
          obtain ⟨xk, ⟨xc, xs, xb⟩, xl⟩ := x
          dsimp only at *
          have hc := Lib.hid hc
          have hd := Lib.hid hd
          have hmv := Lib.hid hmv
          clear i1 i2 i3 d5 hI c0 c1 c2 c3 c4
          go_wp2_with (first | (go_at_call 10; refine hc.out.mono ?_; rintro e w5 ⟨rfl, h5⟩; obtain ⟨d0, d1, d2, d3, d4, -⟩ := hmv.out _ h5.base) | (go_at_call 15; refine (hd.out w5 h5).mono ?_; rintro e w6 ⟨rfl, h6⟩) | go_in)
          go_roundw
          case rel => exact ⟨k + 1, by omega, by go_num, by rw [hst.out]; exact h6⟩
          case measure => simp [intOf]; omega
        · have hltz : ¬ (k : Int) < (l.length : Int) := by omega
          obtain rfl : k = l.length := by omega
          rw [List.take_length] at hP
          have hI : InvP (runP ([], []) l) := InvP.start.run _
          generalize runP ([], []) l = t at *
          obtain ⟨t1, t2⟩ := t
          have hl12 : t1.length ≤ 12 := hI.2
          clear hI hrr
          obtain ⟨A', c', G, q0, sw, hG⟩ := hP.cell
          have hb := HB.out.keep (hP.base.at F (by simp))
          have hBut := refBut_call A' t1 c' G B but d F _ sw hb (by omega)
          have hBut := Lib.hid hBut
          have HP := Lib.hid hP
          clear hP sw
          have hbl := butR_le but t1
          have hz := HP.out.base.size
          go_upto_region 11 with (first | (go_at_call 19; refine hBut.out.mono ?_; rintro e w5 ⟨C, m, cc, rfl, ho5, k5, hn5⟩; obtain ⟨rfl, hmc, s5⟩ := own_sliceF (F := fun k => w.heap.size ≤ k) ho5 (by omega) (fun i hi => Nat.le_trans hz (hn5 i hi))) | go_in)
          have hP5 := Lib.hid (HP.out.keep k5)
          have hTk := fun w' (k : Keep [] w5 w') => (hP5.out.keep k).take (by show t1.length ≤ _; omega) n hn B but d F (HB.out.keep (((hP5.out.keep k).base).at F (by simp))) (fun i h => by have := hF i h; have := (hP5.out.keep k).base.size; omega)
          have hAl := fun w' (k : Keep [] w5 w') => (hP5.out.keep k).all (by show t1.length ≤ _; omega)
          dsimp only at hTk hAl
          generalize butR but t1 = ys at *
          have hTk := Lib.hid hTk
          have hAl := Lib.hid hAl
          go_cut [10] (fun s10 wx => ∃ C' m' c', s10 = .slice C' m' c' ∧ SliceOf Rep.req wx (fun k => w.heap.size ≤ k) (.slice C' m' c') (firstR n ys) ∧ wx = w5)
          case first =>
            have e := slice_take s5 (min (max n 0) (ys.length : Int)).toNat (by omega)
            by_cases hn0 : n < 0
            · rw [show (min (max n 0) (ys.length : Int)).toNat = 0 by omega] at e
              have e' : SliceOf Rep.req w5 (fun k => w.heap.size ≤ k) (.slice C 0 cc) (firstR n ys) := by unfold firstR; rw [show (min (max n 0) (ys.length : Int)).toNat = 0 by omega]; exact e
              go_wp2
              all_goals
                go_meet
                exact ⟨C, 0, cc, rfl, e', rfl⟩
            · by_cases hle : n ≤ (ys.length : Int)
              · rw [show (min (max n 0) (ys.length : Int)).toNat = n.toNat by omega] at e
                have e' : SliceOf Rep.req w5 (fun k => w.heap.size ≤ k) (.slice C n.toNat cc) (firstR n ys) := by unfold firstR; rw [show (min (max n 0) (ys.length : Int)).toNat = n.toNat by omega]; exact e
                go_wp2
                all_goals
                  go_meet
                  exact ⟨C, n.toNat, cc, rfl, e', rfl⟩
              · rw [show (min (max n 0) (ys.length : Int)).toNat = ys.length by omega] at e
                have e' : SliceOf Rep.req w5 (fun k => w.heap.size ≤ k) (.slice C ys.length cc) (firstR n ys) := by unfold firstR; rw [show (min (max n 0) (ys.length : Int)).toNat = ys.length by omega]; exact e
                go_wp2
                all_goals
                  go_meet
                  exact ⟨C, ys.length, cc, rfl, e', rfl⟩
          case rest =>
            obtain ⟨C', m', c2, rfl, s10, rfl⟩ := hcut
            obtain ⟨_, _, e0, hlf⟩ := s10.form
            cases e0
            obtain ⟨A6, c6, G6, q6, sw6, hG6⟩ := hP5.out.cell
            dsimp only at q6 sw6
            generalize firstR n ys = fs at *
            have hS1 := fun w' (k : Keep [] wc w') C m c3 G3 (h : SliceOf Rep.req w' G3 (.slice C m c3) fs) => (show Calls Try.prog 17 #[.slice C m c3, .slice C' fs.length c2] w' fun e w'' => e = .returned (.bool true) ∧ Keep [] w' w'' from by
              obtain ⟨_, _, e1, _⟩ := h.form
              cases e1
              exact same_call C C' fs c3 c2 _ _ w' h (s10.keep (k.at _ (by simp))))
            have hS1 := Lib.hid hS1
            have hQ := fun w' (k : Keep [] wc w') => (show w'.cell? ⟨w3.heap.size, 0, none⟩ = some (.slice A6 t1.length c6) from k.cell (by simp) q6)
            have hS2 := fun w' (k : Keep [] wc w') C c3 G3 (h : SliceOf Rep.req w' G3 (.slice C t1.length c3) t1) => same_call C A6 t1 c3 c6 _ _ w' h (sw6.keep (k.at G6 (by simp)))
            have hS2 := Lib.hid hS2
            have hQ := Lib.hid hQ
            have kwc := hP5.out.base
            clear sw6 s10 s5
            go_wp2_with fail
            go_region_law (go_simp; first
              | (go_at_call 20; refine (hTk.out _ ((Keep.refl _ _).drew)).mono ?_; rintro e w6 ⟨C6, m6, c7, rfl, s6, k6⟩; have k6 : Keep [] wc w6 := Keep.trans ((Keep.refl _ _).drew) k6)
              | (go_at_call 17; with_reducible refine (hS1.out w6 k6 C6 m6 c7 _ s6).mono ?_; rintro e w7 ⟨rfl, k7⟩; have k7 := k6.trans k7; have q7 := hQ.out w7 k7)
              | (go_at_call 18; refine (hAl.out w7 k7).mono ?_; rintro e w8 ⟨C8, c8, rfl, s8, k8⟩; have k8 := k7.trans k8; have q8 := hQ.out w8 k8)
              | (go_at_call 17; with_reducible refine (hS2.out w8 k8 C8 c8 _ s8).mono ?_; rintro e w9 ⟨rfl, k9⟩; have k9 := k8.trans k9))
            all_goals
              go_wp2
              go_ret
              exact ⟨rfl, kwc.trans k9⟩
end Go.Proofs.Ytaiemagmkfjklaa
