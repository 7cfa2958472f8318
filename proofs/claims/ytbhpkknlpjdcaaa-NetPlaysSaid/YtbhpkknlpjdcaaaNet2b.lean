import Derived.Test.YtbhpkknlpjdcaaaNet2
namespace Go.Proofs.Ytbhpkknlpjdcaaa
open Go.RowKit
set_option linter.unusedVariables false
set_option linter.unusedSimpArgs false
set_option maxHeartbeats 8000000 in
theorem ntwice_NS {w : World} {S : List Nat} {n : Nat} {xs : List ByteArray} {s : Int} (i : Int) (p : Nat) (b : ByteArray) (h : NS w S n xs s) (hp : atF i xs.length = p) (hb : xs[p]? = some b) (hn : xs.length ≤ 2000) :
    Calls Try.prog 16 #[.pointer (some ⟨n, 0, none⟩), .int .i64 i] w fun e w' => e = .returned (.bool (decide (xs.length < 2000))) ∧ ∃ S', NS w' S' n (addN xs b) s ∧ (∀ k, k ∈ S' → k ∈ S ∨ w.heap.size ≤ k) ∧ Keep S w w' := by
  have hS := h
  obtain ⟨A, c, h1, h2, h3, rfl⟩ := h
  have hlt : p < xs.length := (List.getElem?_eq_some_iff.1 hb).1
  have hbx : xs[p] = b := (List.getElem?_eq_some_iff.1 hb).2
  obtain ⟨-, g, rfl, -, sr⟩ := h2.strRow (by omega)
  obtain ⟨cur, hbk, r1, r2, r3, r4, r5⟩ := sr
  obtain ⟨m, hm⟩ : ∃ m, xs.length = m + 1 := ⟨xs.length - 1, by omega⟩
  have c0 : w.cell? ⟨n, 0, none⟩ = some (.slice (some ⟨g, 0, none⟩) xs.length c) := Blk.cell h1 0
  have c1 : w.cell? ⟨g, p, none⟩ = some (.string b) := by rw [hbk.cell, r4 p hlt, hbx]
  have HAT : ∀ w', Keep [] w w' → Calls Try.prog 39 #[.pointer (some ⟨n, 0, none⟩), .int .i64 i] w' fun e w'' => e = .returned (.int .i64 (p : Nat)) ∧ Keep [] w' w'' := fun w' k => by
    have := nat_call n (some ⟨g, 0, none⟩) xs.length c s i w' (Blk.keep h1 k (by simp)) (by omega) (by omega)
    rw [hp] at this
    exact this
  have HAD : ∀ w', Keep [] w w' → Calls Try.prog 38 #[.pointer (some ⟨n, 0, none⟩), .string b] w' fun e w'' => e = .returned (.bool (decide (xs.length < 2000))) ∧ Hid (∃ S', NS w'' S' n (addN xs b) s ∧ (∀ k, k ∈ S' → k ∈ (n :: (Value.slice (some ⟨g, 0, none⟩) xs.length c).ownBlock.toList) ∨ w'.heap.size ≤ k) ∧ Keep (n :: (Value.slice (some ⟨g, 0, none⟩) xs.length c).ownBlock.toList) w' w'') := fun w' k => by
    refine (nadd_NS b (hS.keep k (by simp)) (r5 b (by rw [← hbx]; exact List.getElem_mem hlt))).mono ?_
    rintro e w'' ⟨rfl, h⟩
    exact ⟨rfl, Lib.hid h⟩
  replace HAT := Lib.hid HAT
  replace HAD := Lib.hid HAD
  have zp0 : (0 : Int) ≤ (p : Int) := by omega
  have zp1 : (p : Int) < (m : Int) + 1 := by omega
  rw [hm] at c0
  have hz1 : (0 : Int) < (m : Int) + 1 := by omega
  have hz2 : ((m + 1 : Nat) : Int) = (m : Int) + 1 := rfl
  clear r4 r5 hb hbx hp h2 h3 hS h1 hbk
  clear hm hlt hn
  generalize decide (xs.length < 2000) = r at *
  generalize addN xs b = xs' at *
  go_enter Try.func16, Try.ntmps16
  go_wp2_with fail
  go_region_law (first
    | (go_simp; go_at_call 39; refine (HAT.out _ ((Keep.refl _ _).drew)).mono ?_; rintro e w1 ⟨rfl, k1⟩; have kk1 := (Keep.refl [] w).drew.trans k1; have d0 := kk1.cell (by simp) c0; have d1 := kk1.cell (by simp) c1)
    | (go_simp; go_at_call 38; refine (HAD.out _ kk1).mono ?_; rintro e w2 ⟨rfl, h5⟩))
  all_goals
    have fin : ∃ S', NS w2 S' n xs' s ∧ (∀ k, k ∈ S' → k ∈ (n :: (Value.slice (some ⟨g, 0, none⟩) xs.length c).ownBlock.toList) ∨ w.heap.size ≤ k) ∧ Keep (n :: (Value.slice (some ⟨g, 0, none⟩) xs.length c).ownBlock.toList) w w2 := by
      obtain ⟨S', q1, q2, q3⟩ := h5.out
      exact ⟨S', q1, fun k hk => (q2 k hk).imp_right (fun h => Nat.le_trans kk1.size h), (kk1.mono (by simp)).trans q3⟩
    replace fin := Lib.hid fin
    clear h5 HAD HAT
    cases r
    · go_wp2
      go_ret
      exact ⟨rfl, fin.out⟩
    · go_wp2
      go_ret
      exact ⟨rfl, fin.out⟩
end Go.Proofs.Ytbhpkknlpjdcaaa
