import Derived.Test.YtbhpkknlpjdcaaaEqSig
namespace Go.Proofs.Ytbhpkknlpjdcaaa
open Go.RowKit
set_option linter.unusedVariables false
set_option linter.unusedSimpArgs false
theorem zSg_info : (Try.prog.info? 35).map (fun i => (i.zero, i.size)) = some (some (.agg #[.int .i64 0, .slice none 0 0]), 2) := by kernel_rfl
theorem zSg_size : (Try.prog.info? 35).map (·.size) = some 2 := by kernel_rfl
set_option maxHeartbeats 2000000 in
theorem equalFunc_call (A B : Option Addr) (xs ys : List Sg) (c d : Nat) (F G : Nat → Prop) (w : World) (ha : SliceOf Rep.sg w F (.slice A xs.length c) xs) (hb : SliceOf Rep.sg w G (.slice B ys.length d) ys) :
    Calls Try.prog 58 #[.slice A xs.length c, .slice B ys.length d, .func (.func 59) #[] #[]] w fun e w' => ∃ r, e = .returned (.bool r) ∧ (r = true ↔ xs = ys) ∧ Keep [] w w' := by
  obtain ⟨_, _, e0, hl⟩ := ha.form
  obtain ⟨_, _, e1, hl1⟩ := hb.form
  clear e0 e1
  by_cases hlen : xs.length = ys.length
  · rw [← hlen] at hb ⊢
    have HA := Lib.hid ha
    have HB := Lib.hid hb
    have HL := Lib.hid hlen
    clear ha hb hlen hl1
    go_enter Try.func58, Try.ntmps58
    go_wp2_with fail
    go_loopw [17] (fun i wr => ∃ m : Nat, m ≤ xs.length ∧ i = .int .i64 m ∧ Keep [] w wr ∧ Hid (∀ j (hj : j < xs.length) (hj' : j < ys.length), j < m → xs[j] = ys[j])) (fun i _ => xs.length - (intOf i).toNat)
    case atStart => exact ⟨0, Nat.zero_le _, rfl, Keep.refl _ _, Lib.hid (fun j _ _ h => absurd h (Nat.not_lt_zero _))⟩
    case round =>
      obtain ⟨m, hm, rfl, kk, hi⟩ := hrel
      by_cases hlt : m < xs.length
      · have hltz : (m : Int) < (xs.length : Int) := by omega
        have hlt' : m < ys.length := by have := HL.out; omega
        obtain ⟨g, o, u, rfl, c0, c1, i1, t1⟩ := (HA.out.keep (fun i hF hi => kk.block i hi (by simp))).sg_at hlt
        obtain ⟨g', o', v, rfl, d0, d1, i2, t2⟩ := (HB.out.keep (fun i hF hi => kk.block i hi (by simp))).sg_at hlt'
        have HI : Hid (∀ r, (r = true ↔ xs[m] = ys[m]) → if r = true then (∀ j (hj : j < xs.length) (hj' : j < ys.length), j < m + 1 → xs[j] = ys[j]) else ¬ xs = ys) := Lib.hid (fun r h => by
          split
          · rename_i hr
            intro j hj hj' hjm
            by_cases e : j = m
            · subst e; exact h.1 hr
            · exact hi.out j hj hj' (by omega)
          · rename_i hr
            intro he
            exact hr (h.2 (by simp only [he])))
        generalize xs[m] = x at *
        generalize ys[m] = y at *
        obtain ⟨A1, n1, rfl, l1⟩ := t1.form
        obtain ⟨A2, n2, rfl, l2⟩ := t2.form
        have H1 := Lib.hid t1
        have H2 := Lib.hid t2
        clear t1 t2
        go_upto_region 6 with (first
          | ((with_reducible refine wl_alloc 35 ?_ ?_); (with_reducible rfl); refine sx_alloc rfl 35 rfl _ 2 #[.int .i64 0, .slice none 0 0] zSg_info rfl ?_; intro w5 b5 k5 z5; clear z5; (try simp only [Act.put, List.setIfInBounds_toArray, List.set_cons_zero, List.set_cons_succ]))
          | ((with_reducible refine wl_store 35 (.tmp 8) (.tmp 21) ?_ ?_); (with_reducible rfl); refine sx_storeW rfl 35 (.tmp 8) (.tmp 21) rfl wr.heap.size #[.int .i64 x.f, .slice A1 x.ts.length n1] #[.int .i64 0, .slice none 0 0] _ 2 rfl rfl b5 zSg_size rfl rfl rfl ?_; intro w6 b6 k6 z6; clear z6; (try simp only [Act.put, List.setIfInBounds_toArray, List.set_cons_zero, List.set_cons_succ])))
        have kk6 := k5.new k6 (fun i hi => .inr (by simp at hi; omega))
        replace d0 := kk6.cell (by simp) d0
        replace d1 := kk6.cell (by simp) d1
        clear b5 k5 k6
        go_upto_region 7 with (first
          | ((with_reducible refine wl_alloc 35 ?_ ?_); (with_reducible rfl); refine sx_alloc rfl 35 rfl _ 2 #[.int .i64 0, .slice none 0 0] zSg_info rfl ?_; intro w7 b7 k7 z7; clear z7; (try simp only [Act.put, List.setIfInBounds_toArray, List.set_cons_zero, List.set_cons_succ]))
          | ((with_reducible refine wl_store 35 (.tmp 9) (.tmp 25) ?_ ?_); (with_reducible rfl); refine sx_storeW rfl 35 (.tmp 9) (.tmp 25) rfl w6.heap.size #[.int .i64 y.f, .slice A2 y.ts.length n2] #[.int .i64 0, .slice none 0 0] _ 2 rfl rfl b7 zSg_size rfl rfl rfl ?_; intro w8 b8 k8 z8; clear z8; (try simp only [Act.put, List.setIfInBounds_toArray, List.set_cons_zero, List.set_cons_succ])))
        have kk8 : Keep [] w6 w8 := k7.new k8 (fun i hi => .inr (by simp at hi; omega))
        have q6 := b6.keep kk8 (by simp)
        have kk9 := kk6.trans kk8
        clear b7 k7 k8 kk8 kk6 b6
        go_wp2_with (first
          | ((with_reducible refine wl_load 35 (.tmp 8) ?_ ?_); (with_reducible rfl); refine sx_loadW rfl 35 (.tmp 8) rfl wr.heap.size #[.int .i64 x.f, .slice A1 x.ts.length n1] _ _ 2 rfl q6 Try.underlying35 rfl zSg_size rfl ?_; (try simp only [Act.put, List.setIfInBounds_toArray, List.set_cons_zero, List.set_cons_succ]))
          | ((with_reducible refine wl_load 35 (.tmp 9) ?_ ?_); (with_reducible rfl); refine sx_loadW rfl 35 (.tmp 9) rfl w6.heap.size #[.int .i64 y.f, .slice A2 y.ts.length n2] _ _ 2 rfl b8 Try.underlying35 rfl zSg_size rfl ?_; (try simp only [Act.put, List.setIfInBounds_toArray, List.set_cons_zero, List.set_cons_succ])))
        refine (sigEq_call x y _ _ F G _ (H1.out.keep (kk9.at _ (by simp))) (H2.out.keep (kk9.at _ (by simp)))).mono ?_
        rintro e w9 ⟨r, rfl, hr, k9⟩
        have H5 := Lib.hid (HI.out r hr)
        clear hr
        cases r
        · go_wp2
          go_ret
          have := H5.out
          exact ⟨false, rfl, by simpa using this, (kk.trans kk9).trans k9⟩
        · go_wp2
          go_roundw
          case rel => exact ⟨m + 1, by omega, by go_num, (kk.trans kk9).trans k9, Lib.hid (by have := H5.out; simpa using this)⟩
          case measure => simp [intOf]; omega
      · have hltz : ¬ (m : Int) < (xs.length : Int) := by omega
        obtain rfl : m = xs.length := by omega
        have hout : xs = ys := List.ext_getElem HL.out (fun j h1 h2 => hi.out j h1 h2 h1)
        have hout := Lib.hid hout
        go_wp2
        go_ret
        first | exact ⟨true, rfl, by simp [hout.out], kk⟩ | exact ⟨rfl, kk⟩
  · have e1 : ((xs.length : Int) == (ys.length : Int)) = false := by rw [beq_eq_false_iff_ne]; omega
    have hlenz : ¬ (xs.length : Int) = (ys.length : Int) := by omega
    have HA := Lib.hid ha
    have HB := Lib.hid hb
    clear ha hb
    go_enter Try.func58, Try.ntmps58
    have hout : ¬ xs = ys := by
      intro h
      exact hlen (by rw [h])
    have hout := Lib.hid hout
    go_wp2
    go_ret
    exact ⟨false, rfl, by simp [hout.out], Keep.refl _ _⟩
theorem sigs_call (A B : Option Addr) (xs ys : List Sg) (c d : Nat) (F G : Nat → Prop) (w : World) (ha : SliceOf Rep.sg w F (.slice A xs.length c) xs) (hb : SliceOf Rep.sg w G (.slice B ys.length d) ys) :
    Calls Try.prog 54 #[.slice A xs.length c, .slice B ys.length d] w fun e w' => ∃ r, e = .returned (.bool r) ∧ (r = true ↔ xs = ys) ∧ Keep [] w w' := by
  have HC := equalFunc_call A B xs ys c d F G w ha hb
  clear ha hb
  have HC := Lib.hid HC
  go_enter Try.func54, Try.ntmps54
  go_wp2_with fail
  refine HC.out.mono ?_
  rintro e w1 ⟨r, rfl, hr, k1⟩
  have hr := Lib.hid hr
  go_wp2
  go_ret
  exact ⟨r, rfl, hr.out, k1⟩
end Go.Proofs.Ytbhpkknlpjdcaaa
