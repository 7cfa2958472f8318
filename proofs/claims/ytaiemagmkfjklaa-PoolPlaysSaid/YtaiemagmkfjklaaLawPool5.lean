import Derived.Test.YtaiemagmkfjklaaPool15
import Derived.Deep.RegionLaw
import Derived.Deep.DeepCutAuto
namespace Go.Proofs.Ytaiemagmkfjklaa
open Go.RowKit Go.Shelf
set_option linter.unusedVariables false
set_option linter.unusedSimpArgs false
/-! the law PoolPlays -/
set_option maxHeartbeats 8000000 in
theorem poolPlays_call (A : Option Addr) (l : List Op12) (c : Nat) (F : Nat → Prop) (w : World) (ha : SliceOf Rep.op w F (.slice A l.length c) l) (hF : ∀ i, F i → i < w.heap.size) :
    Calls Try.prog 5 #[.slice A l.length c] w fun e w' => e = .returned (.bool true) ∧ Keep [] w w' := by
  have hfa : ∀ w', Keep [] w w' → Calls Try.prog 8 #[.slice A l.length c, .int .i64 60] w' fun e w'' => e = .returned (.bool (fewB l 60)) ∧ Keep [] w' w'' := fun w' k => few_call A l c F 60 w' (ha.keep (k.at F (by simp))) (by omega)
  obtain ⟨_, _, e0, hla⟩ := ha.form
  clear e0
  have HA := Lib.hid ha
  clear ha
  cases h1 : fewB l 60 with
  | false =>
    rw [h1] at hfa
    go_enter Try.func5, Try.ntmps5
    go_wp2_with (first | (go_at_call 7; refine (awake_call _).mono ?_; rintro e w1 ⟨rfl, k1⟩) | (go_at_call 8; refine (hfa _ k1).mono ?_; rintro e w2 ⟨rfl, k2⟩; have k12 := k1.trans k2) | go_in)
    go_ret
    exact ⟨rfl, k12.trans k1⟩
  | true =>
    rw [h1] at hfa
    obtain ⟨n1, q1⟩ := fewB_le h1 (by omega)
    have Q1 := Lib.hid q1
    clear q1 h1
    go_enter Try.func5, Try.ntmps5
    go_wp2_with (first | (go_at_call 7; refine (awake_call _).mono ?_; rintro e w1 ⟨rfl, k1⟩) | (go_at_call 8; refine (hfa _ k1).mono ?_; rintro e w2 ⟨rfl, k2⟩; have k12 := k1.trans k2) | (go_at_call 9; refine (new_call _).mono ?_; rintro e w3 ⟨p, rfl, hp3, k3⟩) | go_in)
    have hz2 := k12.size
    have k13 := k12.trans k3
    have hPP : Pair w (w3.alloc (.cells #[.slice none 0 0, .slice none 0 0] 41)) p w3.heap.size 0 ([], []) ([], []) := pair_new (hp3.mono (fun i hi h => Nat.le_trans hz2 h) (Nat.le_refl _)) k13 rfl
    have hrr := Lib.hid (runP_take ([], []) l)
    clear hfa
    go_loopw [5] (fun i wr => ∃ k : Nat, k ≤ l.length ∧ i = .int .i64 k ∧ Pair w wr p w3.heap.size (10 * k) (runP ([], []) (l.take k)) (runP ([], []) (l.take k))) (fun i _ => l.length - (intOf i).toNat)
    case atStart => exact ⟨0, Nat.zero_le _, rfl, hPP⟩
    case round =>
      obtain ⟨k, hk, rfl, hP⟩ := hrel
      by_cases hlt : k < l.length
      · have hltz : (k : Int) < (l.length : Int) := by omega
        obtain ⟨g, o, L, lc, rfl, c0, c1, c2, c3, c4, i1, i2, i3⟩ := HA.out.op_at hlt
        have hI : InvP (runP ([], []) (l.take k)) := InvP.start.run _
        have hdl := runP_done_len (l.take k) (fun x hx => Q1.out x (List.mem_of_mem_take hx)) ([], [])
        simp only [List.length_nil, Nat.zero_add, List.length_take] at hdl
        have hq := Q1.out _ (List.getElem_mem hlt)
        have hst := Lib.hid (hrr.out k hlt)
        generalize l[k] = x at *
        generalize runP ([], []) (l.take k) = t at *
        have hI2 := hI.step x
        have hmv : ∀ w', Keep [] w w' → w'.cell? ⟨g, o + k * 5, none⟩ = some (.int .u8 x.k) ∧ w'.cell? ⟨g, o + k * 5 + 1, none⟩ = some (.int .i64 x.r.c) ∧ w'.cell? ⟨g, o + k * 5 + 2, none⟩ = some (.int .i64 x.r.s) ∧ w'.cell? ⟨g, o + k * 5 + 3, none⟩ = some (.string x.r.b) ∧ w'.cell? ⟨g, o + k * 5 + 4, none⟩ = some (.slice L x.l.length lc) ∧ SliceOf Rep.req w' F (.slice L x.l.length lc) x.l :=
          fun w' h => ⟨h.cell (by simp) c0, h.cell (by simp) c1, h.cell (by simp) c2, h.cell (by simp) c3, h.cell (by simp) c4, i3.keep (h.at F (by simp))⟩
        obtain ⟨d0, d1, d2, d3, d4, d5⟩ := hmv _ hP.base
        have hc := pair_call hP.drew x L lc F i1 i2 d5 hF hI (by omega) hq
        have hd := fun w' (h : Pair w w' p w3.heap.size (10 * k + 10) (stepP t x) t) => pair_do h x L lc F i1 i2 (hmv w' h.base).2.2.2.2.2 hF hI (by omega) hq
        have hl := fun w' (h : Pair w w' p w3.heap.size (10 * k + 10) (stepP t x) (stepP t x)) => h.len
        have hcell := fun w' (h : Pair w w' p w3.heap.size (10 * k + 10) (stepP t x) (stepP t x)) => h.cell
        obtain ⟨xk, ⟨xc, xs, xb⟩, xl⟩ := x
        dsimp only at *
        have hlen := hI2.2
        generalize stepP t ⟨xk, ⟨xc, xs, xb⟩, xl⟩ = t' at *
        generalize opE t.1 t.2 ⟨xk, ⟨xc, xs, xb⟩, xl⟩ = oe at *
        have hc := Lib.hid hc
        have hd := Lib.hid hd
        have hmv := Lib.hid hmv
        have hl := Lib.hid hl
        have hcell := Lib.hid hcell
        clear i1 i2 i3 d5 hI hI2 c0 c1 c2 c3 c4
        go_wp2_with fail
        go_cut [41] (fun s41 wx => s41 = .bool false ∧ Pair w wx p w3.heap.size (10 * k + 10) t' t')
        case first =>
          go_region_law (go_simp; first
            | (go_at_call 10; refine hc.out.mono ?_; rintro e w5 ⟨rfl, h5⟩; obtain ⟨d0, d1, d2, d3, d4, -⟩ := hmv.out _ h5.base)
            | (go_at_call 15; with_reducible refine (hd.out w5 h5).mono ?_; rintro e w6 ⟨rfl, h6⟩; obtain ⟨A6, c6, G6, q6, sw6, hG6⟩ := hcell.out w6 h6)
            | (go_at_call 14; with_reducible refine (hl.out w6 h6).mono ?_; rintro e w7 ⟨rfl, k7⟩; have h7 := h6.keep k7; have q7 := k7.cell (b := w3.heap.size) (o := 0) (by simp) q6))
          all_goals
            go_wp2
            go_meet
            exact ⟨rfl, h7⟩
        case rest =>
          obtain ⟨rfl, h7⟩ := hcut
          go_wp2
          go_roundw
          case rel => exact ⟨k + 1, by omega, by go_num, by rw [hst.out]; exact h7⟩
          case measure => simp [intOf]; omega
      · have hltz : ¬ (k : Int) < (l.length : Int) := by omega
        obtain rfl : k = l.length := by omega
        rw [List.take_length] at hP
        have hI : InvP (runP ([], []) l) := InvP.start.run _
        generalize runP ([], []) l = t at *
        obtain ⟨t1, t2⟩ := t
        have hl12 : t1.length ≤ 12 := hI.2
        clear hI hrr
        have HP := Lib.hid hP
        clear hP
        go_wp2_with fail
        rename World => wr
        go_loopw [6] (fun i wx => ∃ k : Nat, k ≤ l.length ∧ i = .int .i64 k ∧ Keep [] wr wx) (fun i _ => l.length - (intOf i).toNat)
        case atStart => exact ⟨0, Nat.zero_le _, rfl, Keep.refl _ _⟩
        case round =>
          obtain ⟨k, hk, rfl, kx⟩ := hrel
          rename World => wx
          by_cases hlt : k < l.length
          · have hltz : (k : Int) < (l.length : Int) := by omega
            have hPx := HP.out.keep kx
            obtain ⟨g, o, L, lc, rfl, c0, c1, c2, c3, c4, i1, i2, i3⟩ := HA.out.op_at hlt
            have d1 := hPx.base.cell (by simp) c1
            have d2 := hPx.base.cell (by simp) c2
            have d3 := hPx.base.cell (by simp) c3
            obtain ⟨A6, c6, G6, q6, sw6, hG6⟩ := hPx.cell
            dsimp only at q6 sw6
            have hH := fun w' (kq : Keep [] wx w') => (hPx.keep kq).has l[k].r.c l[k].r.s (by show t1.length ≤ _; omega)
            have hR := fun w' (kq : Keep [] wx w') => refHas_call A6 t1 c6 G6 l[k].r w' (sw6.keep (kq.at G6 (by simp)))
            generalize l[k] = x at *
            obtain ⟨xk, ⟨xc, xs, xb⟩, xl⟩ := x
            dsimp only at *
            clear i1 i2 i3 c0 c1 c2 c3 c4
            go_wp2_with fail
            refine wp_region_class (C := fun w' => Keep [] wx w' ∧ w'.cell? ⟨g, o + k * 5 + 1, none⟩ = some (.int .i64 xc) ∧ w'.cell? ⟨g, o + k * 5 + 2, none⟩ = some (.int .i64 xs) ∧ w'.cell? ⟨g, o + k * 5 + 3, none⟩ = some (.string xb) ∧ w'.cell? ⟨w3.heap.size, 0, none⟩ = some (.slice A6 t1.length c6)) (by kernel_rfl) (by kernel_rfl) ⟨(Keep.refl _ _).drew, d1, d2, d3, q6⟩ ?_
            iterate 23 (first
              | go_big_quiet_skip
              | (go_big_quiet_want; first
                | (go_big_quiet_op; go_big_quiet_on)
                | (refine quiet_run (v := ?_) ?_ ?_; (rotate_left; (intro w' hC; (try dsimp only at hC); go_split_ands; go_simp; with_reducible rfl); simp only [Act.put, List.setIfInBounds_toArray, List.set_cons_zero, List.set_cons_succ]; go_big_quiet_on))
                | (refine quiet_call (v := ?_) (f := ?_) (args := ?_) ?_ ?_ ?_; (rotate_left; rotate_left; rotate_left; (intro w' hC; (try dsimp only at hC); go_split_ands; go_simp; (refine ⟨?_, ?_⟩ <;> with_reducible rfl)); (intro w' hC; first | (go_at_call 13; (with_reducible refine (hH _ hC.1).mono ?_); rintro e w8 ⟨rfl, kq⟩; refine ⟨?_, Keep.trans hC.1 kq, kq.cell (by simp) hC.2.1, kq.cell (by simp) hC.2.2.1, kq.cell (by simp) hC.2.2.2.1, kq.cell (by simp) hC.2.2.2.2⟩; with_reducible rfl) | (go_at_call 16; (with_reducible refine (hR _ hC.1).mono ?_); rintro e w8 ⟨rfl, kq⟩; refine ⟨?_, Keep.trans hC.1 kq, kq.cell (by simp) hC.2.1, kq.cell (by simp) hC.2.2.1, kq.cell (by simp) hC.2.2.2.1, kq.cell (by simp) hC.2.2.2.2⟩; with_reducible rfl)); simp only [Act.put, List.setIfInBounds_toArray, List.set_cons_zero, List.set_cons_succ]; go_big_quiet_on))))
            refine wpQuiet_nil ?_
            intro w8 hC8
            have k8 := hC8.1
            clear hC8
            go_wp2
            go_roundw
            case rel => exact ⟨k + 1, by omega, by go_num, kx.trans k8⟩
            case measure => simp [intOf]; omega
          · have hltz : ¬ (k : Int) < (l.length : Int) := by omega
            obtain rfl : k = l.length := by omega
            have hPx := HP.out.keep kx
            obtain ⟨A6, c6, G6, q6, sw6, hG6⟩ := hPx.cell
            dsimp only at q6 sw6
            have hAl := fun w' (k : Keep [] wx w') => (hPx.keep k).all (by show t1.length ≤ _; omega)
            dsimp only at hAl
            have hQ := fun w' (k : Keep [] wx w') => (show w'.cell? ⟨w3.heap.size, 0, none⟩ = some (.slice A6 t1.length c6) from k.cell (by simp) q6)
            have hS2 := fun w' (k : Keep [] wx w') C c3 G3 (h : SliceOf Rep.req w' G3 (.slice C t1.length c3) t1) => same_call C A6 t1 c3 c6 _ _ w' h (sw6.keep (k.at G6 (by simp)))
            have hS2 := Lib.hid hS2
            have hQ := Lib.hid hQ
            have hAl := Lib.hid hAl
            have kwc := hPx.base
            clear sw6
            go_wp2_with fail
            go_region_law (go_simp; first
              | (go_at_call 18; refine (hAl.out _ ((Keep.refl _ _).drew)).mono ?_; rintro e w8 ⟨C8, c8, rfl, s8, k8⟩; have k8 : Keep [] wx w8 := Keep.trans ((Keep.refl _ _).drew) k8; have q8 := hQ.out w8 k8)
              | (go_at_call 17; with_reducible refine (hS2.out w8 k8 C8 c8 _ s8).mono ?_; rintro e w9 ⟨rfl, k9⟩; have k9 := k8.trans k9))
            all_goals
              go_wp2
              go_ret
              exact ⟨rfl, kwc.trans k9⟩
end Go.Proofs.Ytaiemagmkfjklaa
