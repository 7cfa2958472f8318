import Derived.Test.YthkbgokkghidbaaSafe6
namespace Go.Proofs.Ythkbgokkghidbaa
open Go.RowKit Go.Shelf
set_option linter.unusedVariables false
set_option linter.unusedSimpArgs false
/-! the law SafeReads -/
theorem LogAt.keep {S : List Nat} {w w' : World} {p : Nat} {x : Lg} (h : LogAt w p x) (k : Keep S w w') (hp : p ∉ S) : LogAt w' p x := Blk.keep h k hp
theorem aw1 : (appF ⟨⟨#[]⟩, 0, -1, false⟩ ⟨#[97]⟩).1 = 0 := by simp [appF, burnF, ByteArray.size]
theorem aw2 : (appF ⟨⟨#[]⟩, 0, -1, false⟩ ⟨#[97]⟩).2.b.size = 5 := by
  have h : (appF ⟨⟨#[]⟩, 0, -1, false⟩ ⟨#[97]⟩).2.b = (⟨#[]⟩ : ByteArray) ++ textF ⟨#[97]⟩ := by simp [appF, burnF, ByteArray.size]
  rw [h, ByteArray.size_append, textF, ByteArray.size_append, numF_size]
  rfl
set_option maxHeartbeats 1000000 in
theorem awake_call (w : World) : Calls Try.prog 6 #[] w fun e w' => e = .returned (.bool true) ∧ Keep [] w w' := by
  have hA := fun w p hp => append_call p ⟨⟨#[]⟩, 0, -1, false⟩ ⟨#[97]⟩ w hp ⟨by show (-1 : Int) ≤ -1; omega, by show (-1 : Int) ≤ _; omega⟩ (by show (1 : Nat) ≤ _; omega) (by show (0 : Nat) ≤ _; omega)
  rw [aw1] at hA
  have hs := aw2
  generalize (appF ⟨⟨#[]⟩, 0, -1, false⟩ ⟨#[97]⟩).2 = y at *
  have hL := fun w p hp => len_call p y w hp
  rw [hs] at hL
  clear hs
  go_enter Try.func6, Try.ntmps6
  go_wp2_with (first | (go_at_call 16; refine (new_call _).mono ?_; rintro e w1 ⟨p, rfl, hp, h1, k1⟩) | (go_at_call 20; with_reducible refine (hA w1 p h1).mono ?_; rintro e w2 ⟨rfl, h2, k2⟩) | (go_at_call 12; with_reducible refine (hL w2 p h2).mono ?_; rintro e w3 ⟨rfl, k3⟩) | go_in)
  go_ret
  exact ⟨rfl, (k1.new k2 (fun i hi => .inr (by simp at hi; omega))).trans k3⟩
set_option maxHeartbeats 2000000 in
theorem safeReads_call (b : ByteArray) (w : World) (hb : b.size ≤ 140737488355328) :
    Calls Try.prog 3 #[.string b] w fun e w' => e = .returned (.bool true) ∧ Keep [] w w' := by
  by_cases hl : 3000 < b.size
  · have hlz : (3000 : Int) < (b.size : Int) := by omega
    go_enter Try.func3, Try.ntmps3
    go_wp2_with (first | (go_at_call 6; refine (awake_call _).mono ?_; rintro e w1 ⟨rfl, k1⟩) | go_in)
    go_ret
    exact ⟨rfl, Keep.trans ‹Keep [] w _› k1⟩
  · have hlz : ¬ (3000 : Int) < (b.size : Int) := by omega
    obtain ⟨rc1, rc2, rc3⟩ := recs_cut b
    have hel := endR_le b
    have hrl := recs_len b
    have hS := fun w => split_call (b.size + 1) b (by omega) (by omega) w
    have hR1 := fun w p (hp : LogAt w p ⟨b, b.size, -1, false⟩) => Records_call p ⟨b, b.size, -1, false⟩ w hp rfl (by show b.size ≤ _; omega)
    have hC := fun w p (hp : LogAt w p ⟨b, b.size, -1, false⟩) => Cut_call p ⟨b, b.size, -1, false⟩ w hp rfl (by show b.size ≤ _; omega) (by show b.size ≤ _; omega)
    have hR2 := fun w p (hp : LogAt w p ⟨b.extract 0 (endR b), min b.size (endR b), -1, false⟩) => Records_call p ⟨b.extract 0 (endR b), min b.size (endR b), -1, false⟩ w hp rfl (by show (b.extract 0 (endR b)).size ≤ _; omega)
    have hL := fun w p (hp : LogAt w p ⟨b.extract 0 (endR b), min b.size (endR b), -1, false⟩) => len_call p ⟨b.extract 0 (endR b), min b.size (endR b), -1, false⟩ w hp
    dsimp only at hR1 hC hR2 hL
    rw [rc1] at hR2
    rw [rc2] at hL
    generalize b.extract 0 (endR b) = b2 at *
    generalize min b.size (endR b) = sm at *
    generalize endR b = en at *
    generalize recs b = rs at *
    have hS := Lib.hid hS
    have hR1 := Lib.hid hR1
    have hR2 := Lib.hid hR2
    have hC := Lib.hid hC
    have hL := Lib.hid hL
    clear rc1 rc2 rc3
    go_enter Try.func3, Try.ntmps3
    go_wp2_with (first
      | (go_at_call 6; refine (awake_call _).mono ?_; rintro e w1 ⟨rfl, k1⟩)
      | (go_at_call 7; refine (of_call b _).mono ?_; rintro e w2 ⟨p, rfl, hpw, l2, k2⟩)
      | (go_at_call 8; refine (hS.out _).mono ?_; rintro e w3 ⟨A3, m3, c3, rfl, n3⟩; have l3 := l2.keep n3.2 (by simp); obtain ⟨rfl, q3, s3⟩ := n3.slice (by omega))
      | (go_at_call 9; with_reducible refine (hR1.out w3 p l3).mono ?_; rintro e w4 ⟨v4, rfl, o4, k4⟩; have l4 := l3.keep k4 (by simp); obtain ⟨A4, c4, rfl, -⟩ := o4.form; have s4 := o4.slice (by rw [M47_eq]; omega))
      | (go_at_call 10; with_reducible refine (hC.out w4 p l4).mono ?_; rintro e w5 ⟨rfl, l5, k5⟩)
      | (go_at_call 9; with_reducible refine (hR2.out w5 p l5).mono ?_; rintro e w6 ⟨v6, rfl, o6, k6⟩; have l6 := l5.keep k6 (by simp); obtain ⟨A6, c6, rfl, -⟩ := o6.form; have s6 := o6.slice (by rw [M47_eq]; omega))
      | (go_at_call 11; have p2 := Blk.lt l2; have p3 := Blk.lt l3; have t3 := ((s3.keep (k4.at _ (by simp))).keep (k5.at _ (by simp; omega))).keep (k6.at _ (by simp)); have t4 := (s4.keep (k5.at _ (by simp; omega))).keep (k6.at _ (by simp)); with_reducible refine (same_call A4 A3 rs c4 c3 _ _ w6 t4 t3).mono ?_; rintro e w7 ⟨rfl, k7⟩; have t37 := t3.keep (k7.at _ (by simp)); have t6 := s6.keep (k7.at _ (by simp)); have l7 := l6.keep k7 (by simp))
      | (go_at_call 11; with_reducible refine (same_call A6 A3 rs c6 c3 _ _ w7 t6 t37).mono ?_; rintro e w8 ⟨rfl, k8⟩; have l8 := l7.keep k8 (by simp))
      | (go_at_call 12; with_reducible refine (hL.out w8 p l8).mono ?_; rintro e w9 ⟨rfl, k9⟩)
      | go_in)
    go_ret
    refine ⟨by simp, ?_⟩
    have kA : Keep [p] w w9 := ((((((k1.trans k2).trans n3.2).trans k4).mono (T := [p]) (by simp)).trans k5).trans (((k6.trans k7).trans k8).trans k9 |>.mono (T := [p]) (by simp)))
    exact (Keep.refl _ _).new kA (fun i hi => .inr (by simp at hi; have := k1.size; omega))
end Go.Proofs.Ythkbgokkghidbaa
