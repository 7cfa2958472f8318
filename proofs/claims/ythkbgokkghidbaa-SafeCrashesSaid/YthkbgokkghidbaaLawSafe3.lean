import Derived.Test.YthkbgokkghidbaaSafe10
namespace Go.Proofs.Ythkbgokkghidbaa
open Go.RowKit Go.Shelf
set_option linter.unusedVariables false
set_option linter.unusedSimpArgs false
/-! the law SafeCrashes -/
theorem ran_start : Ran ([] : List ByteArray).length ⟨⟨⟨#[]⟩, 0, -1, false⟩, [], 0⟩ :=
  ⟨rfl, rfl, Nat.le_refl _, by simp, by show (-1 : Int) ≤ -1 ∧ (-1 : Int) ≤ _; omega⟩
theorem ran_again (xs : List ByteArray) (h : ∀ a ∈ xs, okR a) : Ran xs.length ⟨⟨cat xs, (cat xs).size, -1, false⟩, xs, 0⟩ :=
  ⟨rfl, by show (cat xs).size = (cat (xs.take (max 0 xs.length))).size; rw [List.take_of_length_le (by omega)], by show max 0 xs.length ≤ xs.length; omega, h, by show (-1 : Int) ≤ -1 ∧ (-1 : Int) ≤ _; omega⟩
set_option maxRecDepth 100000 in
set_option maxHeartbeats 1000000 in
theorem safeCrashes_call (A A2 : Option Addr) (l l2 : List Op9) (c c2 : Nat) (k0 kx : Int) (F F2 : Nat → Prop) (w : World) (ha : SliceOf Rep.op9 w F (.slice A l.length c) l) (ha2 : SliceOf Rep.op9 w F2 (.slice A2 l2.length c2) l2)
    (hF : ∀ k, F k → k < w.heap.size) (hF2 : ∀ k, F2 k → k < w.heap.size) :
    Calls Try.prog 5 #[.slice A l.length c, .slice A2 l2.length c2, .agg #[.int .i64 k0, .int .i64 kx]] w fun e w' => e = .returned (.bool true) ∧ Keep [] w w' := by
  have hfa : ∀ w', Keep [] w w' → Calls Try.prog 13 #[.slice A l.length c, .int .i64 20] w' fun e w'' => e = .returned (.bool (fewB l 20)) ∧ Keep [] w' w'' := fun w' k => few_call A l c F 20 w' (ha.keep (k.at F (by simp))) (by omega)
  have hfb : ∀ w', Keep [] w w' → Calls Try.prog 13 #[.slice A2 l2.length c2, .int .i64 20] w' fun e w'' => e = .returned (.bool (fewB l2 20)) ∧ Keep [] w' w'' := fun w' k => few_call A2 l2 c2 F2 20 w' (ha2.keep (k.at F2 (by simp))) (by omega)
  have kb : Keep [] w (w.alloc (.cells #[.int .i64 k0, .int .i64 kx] 45)) := (Keep.refl _ _).alloc _
  have bb := Blk.new w #[.int .i64 k0, .int .i64 kx] 45
  have HFA := Lib.hid hfa
  have HFB := Lib.hid hfb
  clear hfa hfb
  go_enter Try.func5, Try.ntmps5
  go_wp2_with fail
  refine (awake_call _).mono ?_
  rintro e w1 ⟨rfl, k1⟩
  have kA := kb.trans k1
  have bA := bb.keep k1 (by simp)
  go_wp2_with fail
  refine (HFA.out _ kA).mono ?_
  rintro e w2 ⟨rfl, k2⟩
  have kB := kA.trans k2
  have bB := bA.keep k2 (by simp)
  cases h1 : fewB l 20 with
  | false =>
    clear h1
    go_wp2_with fail
    refine (awake_call _).mono ?_
    rintro e w3 ⟨rfl, k3⟩
    go_wp2
    go_ret
    exact ⟨rfl, kB.trans k3⟩
  | true =>
    obtain ⟨n1, q1⟩ := fewB_le h1 (by omega)
    clear h1
    go_wp2_with fail
    refine (HFB.out _ kB).mono ?_
    rintro e w3 ⟨rfl, k3⟩
    have kC := kB.trans k3
    have bC := bB.keep k3 (by simp)
    cases h2 : fewB l2 20 with
    | false =>
      clear h2
      go_wp2_with fail
      refine (awake_call _).mono ?_
      rintro e w4 ⟨rfl, k4⟩
      go_wp2
      go_ret
      exact ⟨rfl, kC.trans k4⟩
    | true =>
      obtain ⟨n2, q2⟩ := fewB_le h2 (by omega)
      clear h2
      go_wp2_with fail
      refine (new_call _).mono ?_
      rintro e w4 ⟨p, rfl, hp4, h4, k4⟩
      have kD := kC.trans k4
      have bD := bC.keep k4 (by simp)
      have plt := Blk.lt h4
      have blt := Blk.lt bC
      have hpw : ¬ p < w.heap.size + 1 := by omega
      have F4 := fun i (h : F i) => hF i h
      go_wp2_with fail
      refine (run_call p ⟨⟨#[]⟩, 0, -1, false⟩ A l c F none [] 0 (fun _ => False) _ h4 (ha.keep (kD.at F (by simp))) (fun h => by have := hF p h; omega) (SliceOf.nil _ _ _ _ _) ran_start n1 (by simp) q1 (Nat.zero_le _) (Nat.le_refl _)).mono ?_
      rintro e w5 ⟨B1, d1, r, rfl, hd1, h5, s5, R1, z1, z2, z3, k5⟩
      have z1 : r.all.length ≤ 20 := by simpa using z1
      have z2 : r.x.b.size ≤ 80080 := by
        have h0 : (⟨#[]⟩ : ByteArray).size = 0 := rfl
        dsimp only at z2
        omega
      have bE := bD.keep k5 (by simp; omega)
      have kE : Keep [] w w5 := kD.new k5 (fun i hi => .inr (by simp at hi; omega))
      have plt5 := Blk.lt h5
      have c0 := bE.cell 0
      simp only [List.getElem?_toArray, List.getElem?_cons_zero, List.getElem?_cons_succ] at c0
      obtain ⟨x1, xs, ok1, mx1, ml1, mc1, hC1, hB1, hX1⟩ := half p r 0 k0 B1 d1 w5 h5 R1 (by omega) hd1 (by omega) z3
      have hC1 := Lib.hid hC1
      have hB1 := Lib.hid hB1
      have hX1 := Lib.hid hX1
      have ok1 := Lib.hid ok1
      have R1 := Lib.hid R1
      have q1 := Lib.hid q1
      have q2 := Lib.hid q2
      go_wp2_with fail
      refine (hC1.out).mono ?_
      rintro e w6 ⟨rfl, h6, k6⟩
      have bF := bE.keep k6 (by simp; omega)
      have kF : Keep [] w w6 := kE.new k6 (fun i hi => .inr (by simp at hi; omega))
      have s6 := s5.keep (k6.at _ (by simp; omega))
      go_wp2_with fail
      refine (hB1.out w6 _ r.s (by omega) h6 s6).mono ?_
      rintro e w7 ⟨B7, d7, rfl, m7, s7, k7⟩
      have bG := bF.keep k7 (by simp)
      have kG := kF.trans k7
      go_wp2_with fail
      refine (hX1.out w7 (h6.keep k7 (by simp))).mono ?_
      rintro e w8 ⟨rfl, h8, k8⟩
      have bH := bG.keep k8 (by simp; omega)
      have kH : Keep [] w w8 := kG.new k8 (fun i hi => .inr (by simp at hi; omega))
      have z6 := k6.size
      have s8 := s7.keep (k8.at _ (by simp; omega))
      have z7 := k7.size
      go_wp2_with fail
      refine (run_call p ⟨cat xs, (cat xs).size, -1, false⟩ A2 l2 c2 F2 B7 xs d7 _ _ h8 (ha2.keep (kH.at F2 (by simp))) (fun h => by have := hF2 p h; omega) s8 (ran_again xs ok1.out) n2 (by omega) q2.out (by show (cat xs).size ≤ 200000; omega) (Nat.le_refl _)).mono ?_
      rintro e w9 ⟨B9, d9, r2, rfl, hd9, h9, s9, R2, y1, y2, y3, k9⟩
      dsimp only at y2
      have bI := bH.keep k9 (by simp; omega)
      have kI : Keep [] w w9 := kH.new k9 (fun i hi => .inr (by simp at hi; omega))
      obtain ⟨x2, ys, ok2, mx2, ml2, mc2, hC2, hB2, hX2⟩ := half p r2 xs.length kx B9 d9 w9 h9 R2 (by omega) hd9 (by omega) y3
      have hC2 := Lib.hid hC2
      have hB2 := Lib.hid hB2
      clear hX2
      have c1 := bI.cell 1
      simp only [List.getElem?_toArray, List.getElem?_cons_zero, List.getElem?_cons_succ] at c1
      clear c0
      go_wp2_with fail
      refine (hC2.out).mono ?_
      rintro e w10 ⟨rfl, h10, k10⟩
      have kJ : Keep [] w w10 := kI.new k10 (fun i hi => .inr (by simp at hi; omega))
      have s10 := s9.keep (k10.at _ (by simp; have := Blk.lt h8; omega))
      clear c1
      go_wp2_with fail
      all_goals
        first
          | ((with_reducible refine (hB2.out w10 _ r2.s (by omega) h10 s10).mono ?_); rintro e w11 ⟨B11, d11, rfl, m11, s11, k11⟩)
          | ((with_reducible refine (hB2.out w10 _ xs.length (by omega) h10 s10).mono ?_); rintro e w11 ⟨B11, d11, rfl, m11, s11, k11⟩)
        go_wp2
        go_ret
        exact ⟨rfl, kJ.trans k11⟩
end Go.Proofs.Ythkbgokkghidbaa
