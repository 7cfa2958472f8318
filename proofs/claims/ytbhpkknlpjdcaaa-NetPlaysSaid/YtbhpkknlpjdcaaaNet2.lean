import Derived.Test.YtbhpkknlpjdcaaaNet1
namespace Go.Proofs.Ytbhpkknlpjdcaaa
open Go.RowKit
set_option linter.unusedVariables false
set_option linter.unusedSimpArgs false
/-! net: as a state -/
def NS (w : World) (S : List Nat) (n : Nat) (xs : List ByteArray) (s : Int) : Prop :=
  ∃ A c, NAt w n (.slice A xs.length c) s ∧ Own Rep.str 9 w 0 (.slice A xs.length c) xs ∧ (Value.slice A xs.length c).ownBlock ≠ some n ∧ S = n :: (Value.slice A xs.length c).ownBlock.toList
theorem NS.keep {w w' : World} {S T : List Nat} {n : Nat} {xs : List ByteArray} {s : Int} (h : NS w S n xs s) (k : Keep T w w') (hT : ∀ i, i ∈ T → i ∉ S) : NS w' S n xs s := by
  obtain ⟨A, c, h1, h2, h3, rfl⟩ := h
  exact ⟨A, c, Blk.keep h1 k (fun hm => hT _ hm (by simp)), h2.strKeep (fun i hi => k.block i (h2.lt i hi).2 (fun hm => hT _ hm (by simp [hi]))), h3, rfl⟩
theorem NS.lt {w : World} {S : List Nat} {n : Nat} {xs : List ByteArray} {s : Int} (h : NS w S n xs s) : ∀ k, k ∈ S → k < w.heap.size := by
  obtain ⟨A, c, h1, h2, h3, rfl⟩ := h
  intro k hk
  simp only [List.mem_cons, Option.mem_toList] at hk
  rcases hk with rfl | hk
  · exact Blk.lt h1
  · exact (h2.lt k hk).2
theorem NS.sizes {w : World} {S : List Nat} {n : Nat} {xs : List ByteArray} {s : Int} (h : NS w S n xs s) : ∀ x, x ∈ xs → x.size ≤ M47 := by
  obtain ⟨A, c, h1, h2, h3, rfl⟩ := h
  exact (own_strs h2).2
theorem nnew_NS (w : World) : Calls Try.prog 7 #[] w fun e w' => ∃ n, e = .returned (.pointer (some ⟨n, 0, none⟩)) ∧ NS w' [n] n [] 0 ∧ w.heap.size ≤ n ∧ Keep [] w w' := by
  refine (nnew_call w).mono ?_
  rintro e w' ⟨n, rfl, hn, h, k⟩
  exact ⟨n, rfl, ⟨none, 0, h, Own.nil _ _ _ _, by simp [Value.ownBlock], by simp [Value.ownBlock]⟩, hn, k⟩
theorem nlen_NS {w : World} {S : List Nat} {n : Nat} {xs : List ByteArray} {s : Int} (h : NS w S n xs s) :
    Calls Try.prog 13 #[.pointer (some ⟨n, 0, none⟩)] w fun e w' => e = .returned (.int .i64 (xs.length : Nat)) ∧ w = w' := by
  obtain ⟨A, c, h1, -⟩ := h
  exact nlen_call n A _ c s w h1
theorem nsent_NS {w : World} {S : List Nat} {n : Nat} {xs : List ByteArray} {s : Int} (h : NS w S n xs s) :
    Calls Try.prog 18 #[.pointer (some ⟨n, 0, none⟩)] w fun e w' => e = .returned (.int .i64 s) ∧ w = w' := by
  obtain ⟨A, c, h1, -⟩ := h
  exact nsent_call n _ s w h1
def addN (xs : List ByteArray) (b : ByteArray) : List ByteArray := if xs.length < 2000 then xs ++ [b] else xs
theorem nadd_NS {w : World} {S : List Nat} {n : Nat} {xs : List ByteArray} {s : Int} (b : ByteArray) (h : NS w S n xs s) (hb : b.size ≤ M47) :
    Calls Try.prog 38 #[.pointer (some ⟨n, 0, none⟩), .string b] w fun e w' => e = .returned (.bool (decide (xs.length < 2000))) ∧ ∃ S', NS w' S' n (addN xs b) s ∧ (∀ k, k ∈ S' → k ∈ S ∨ w.heap.size ≤ k) ∧ Keep S w w' := by
  have hS := h
  obtain ⟨A, c, h1, h2, h3, rfl⟩ := h
  unfold addN
  by_cases hn : xs.length < 2000
  · rw [if_pos hn]
    refine (nadd_room n b A c xs s w hb h1 h2 h3 hn).mono ?_
    rintro e w' ⟨rfl, g, c', e1, e2, e3, k⟩
    have gq : g ≠ n := by
      rcases e3 with e3 | e3
      · rintro rfl; exact h3 e3
      · have := Blk.lt h1; omega
    refine ⟨by simp [hn], _, ⟨some ⟨g, 0, none⟩, c', by simpa using e1, by simpa using e2, by simpa [Value.ownBlock] using gq, rfl⟩, ?_, k⟩
    intro i hi
    simp only [List.mem_cons, Option.mem_toList] at hi ⊢
    rcases hi with rfl | hi
    · exact .inl (.inl rfl)
    · have : g = i := by simpa [Value.ownBlock] using hi
      subst this
      rcases e3 with e3 | e3
      · exact .inl (.inr e3)
      · exact .inr e3
  · rw [if_neg hn]
    refine (nadd_full n b A xs.length c s w h1 (by omega)).mono ?_
    rintro e w' ⟨rfl, rfl⟩
    exact ⟨by simp [hn], _, hS, fun k hk => .inl hk, Keep.refl _ _⟩
def injF (b : ByteArray) (xs : List ByteArray) : Bool := decide (1 ≤ b.size ∧ b.size ≤ 4000 ∧ xs.length < 2000)
theorem ninject_NS {w : World} {S : List Nat} {n : Nat} {xs : List ByteArray} {s : Int} (b : ByteArray) (h : NS w S n xs s) (hb : b.size ≤ M47) :
    Calls Try.prog 17 #[.pointer (some ⟨n, 0, none⟩), .string b] w fun e w' => e = .returned (.bool (injF b xs)) ∧ ∃ S', NS w' S' n (if injF b xs = true then xs ++ [b] else xs) s ∧ (∀ k, k ∈ S' → k ∈ S ∨ w.heap.size ≤ k) ∧ Keep S w w' := by
  have hbl : b.size < 9223372036854775808 := by unfold M47 at hb; omega
  by_cases h1 : 1 ≤ b.size
  · have h1z : (1 : Int) ≤ (b.size : Int) := by omega
    by_cases h2 : b.size ≤ 4000
    · have h2z : (b.size : Int) ≤ 4000 := by omega
      have hA := nadd_NS b h hb
      have e1 : injF b xs = decide (xs.length < 2000) := by unfold injF; simp [h1, h2]
      have e2 : (if injF b xs = true then xs ++ [b] else xs) = addN xs b := by rw [e1]; unfold addN; simp
      rw [e2, e1]
      clear e1 e2 h
      generalize addN xs b = xs' at *
      replace hA := Lib.hid hA
      generalize decide (xs.length < 2000) = r at *
      go_enter Try.func17, Try.ntmps17
      go_wp2_with fail
      refine hA.out.mono ?_
      rintro e w1 ⟨rfl, h5⟩
      replace h5 := Lib.hid h5
      cases r
      · go_wp2
        go_ret
        exact ⟨rfl, h5.out⟩
      · go_wp2
        go_ret
        exact ⟨rfl, h5.out⟩
    · have h2z : ¬ (b.size : Int) ≤ 4000 := by omega
      have e1 : injF b xs = false := by unfold injF; simp [h2]
      rw [e1]
      have H := Lib.hid h
      clear h e1
      go_enter Try.func17, Try.ntmps17
      go_wp2
      go_ret
      exact ⟨rfl, S, by simpa using H.out, fun k hk => .inl hk, Keep.refl _ _⟩
  · have h1z : ¬ (1 : Int) ≤ (b.size : Int) := by omega
    have e1 : injF b xs = false := by unfold injF; simp [h1]
    rw [e1]
    have H := Lib.hid h
    clear h e1
    go_enter Try.func17, Try.ntmps17
    go_wp2
    go_ret
    exact ⟨rfl, S, by simpa using H.out, fun k hk => .inl hk, Keep.refl _ _⟩
theorem ntake0_NS {w : World} {S : List Nat} {n : Nat} {s : Int} (i : Int) (h : NS w S n [] s) :
    Calls Try.prog 12 #[.pointer (some ⟨n, 0, none⟩), .int .i64 i] w fun e w' => e = .returned (.tuple #[.string ⟨#[]⟩, .bool false]) ∧ w = w' := by
  obtain ⟨A, c, h1, -⟩ := h
  have c0 : w.cell? ⟨n, 0, none⟩ = some (.slice A 0 c) := Blk.cell h1 0
  clear h1
  go_enter Try.func12, Try.ntmps12
  go_wp2
  go_ret2
  exact ⟨rfl, rfl⟩
set_option maxHeartbeats 2000000 in
theorem ntake_NS {w : World} {S : List Nat} {n : Nat} {xs : List ByteArray} {s : Int} (i : Int) (p : Nat) (b : ByteArray) (h : NS w S n xs s) (hp : atF i xs.length = p) (hb : xs[p]? = some b) (hn : xs.length ≤ 2000) :
    Calls Try.prog 12 #[.pointer (some ⟨n, 0, none⟩), .int .i64 i] w fun e w' => e = .returned (.tuple #[.string b, .bool true]) ∧ NS w' S n (xs.eraseIdx p) s ∧ Keep S w w' := by
  obtain ⟨A, c, h1, h2, h3, rfl⟩ := h
  have hlt : p < xs.length := (List.getElem?_eq_some_iff.1 hb).1
  have hbx : xs[p] = b := (List.getElem?_eq_some_iff.1 hb).2
  obtain ⟨-, g, rfl, -, sr⟩ := h2.strRow (by omega)
  have gq : g ≠ n := by rintro rfl; exact h3 rfl
  obtain ⟨cur, hbk, r1, r2, r3, r4, r5⟩ := sr
  have hz1 : ¬ (xs.length : Int) = 0 := by omega
  have hz2 : ((xs.length : Int) == 0) = false := beq_eq_false_iff_ne.2 hz1
  have c0 : w.cell? ⟨n, 0, none⟩ = some (.slice (some ⟨g, 0, none⟩) xs.length c) := Blk.cell h1 0
  have HAT := nat_call n (some ⟨g, 0, none⟩) xs.length c s i w h1 (by omega) (by omega)
  rw [hp] at HAT
  replace HAT := Lib.hid HAT
  have HB := Lib.hid hbx
  have HR4 := Lib.hid r4
  have HR5 := Lib.hid r5
  have HN := Lib.hid hn
  clear r4 r5 hb hbx hp h2 h3
  go_enter Try.func12, Try.ntmps12
  go_wp2_with fail
  refine HAT.out.mono ?_
  rintro e w1 ⟨rfl, k1⟩
  have b1 := hbk.keep k1 (by simp)
  have n1 := Blk.keep h1 k1 (by simp)
  have e3 : w1.cell? ⟨g, p, none⟩ = some (.string b) := by rw [b1.cell, HR4.out p hlt, HB.out]
  have e0 : w1.cell? ⟨n, 0, none⟩ = some (.slice (some ⟨g, 0, none⟩) xs.length c) := Blk.cell n1 0
  have zp0 : (0 : Int) ≤ (p : Int) := by omega
  have zp1 : (p : Int) < (xs.length : Int) := by omega
  have zp2 : RowKit.wrap64 ((p : Int) + 1) = (p : Int) + 1 := by have := HN.out; unfold RowKit.wrap64; omega
  go_wp2_with fail
  refine (delete_call g c xs p w1 ⟨cur, b1, r1, r2, r3, HR4.out, HR5.out⟩ hlt (by have := HN.out; omega)).mono ?_
  rintro e w2 ⟨rfl, s2, k2⟩
  have n2 := Blk.keep n1 k2 (by simp; exact fun e => gq e.symm)
  have e2 : w2.cell? ⟨n, 0, none⟩ = some (.slice (some ⟨g, 0, none⟩) xs.length c) := Blk.cell n2 0
  have f2 := Blk.frozen n2 0
  replace s2 := Lib.hid s2
  replace n2 := Lib.hid n2
  clear n1 b1 hbk h1
  go_wp2
  go_ret2
  have sk : Keep [n] w2 (w2.setCell ⟨n, 0, none⟩ (.slice (some ⟨g, 0, none⟩) (xs.eraseIdx p).length c)) := (Keep.refl [n] w2).setCell _ _ (.inl (by simp))
  obtain ⟨cu, q1, q2⟩ := s2.out
  have s3 : StrRow (w2.setCell ⟨n, 0, none⟩ (.slice (some ⟨g, 0, none⟩) (xs.eraseIdx p).length c)) g c (xs.eraseIdx p) := ⟨cu, q1.keep sk (by simp; exact gq), q2⟩
  refine ⟨rfl, ⟨some ⟨g, 0, none⟩, c, by simpa [NAt] using Blk.set n2.out 0 (.slice (some ⟨g, 0, none⟩) (xs.eraseIdx p).length c), s3.own (Nat.zero_le _), by simpa [Value.ownBlock] using gq, by simp [Value.ownBlock]⟩, ?_⟩
  exact ((k1.mono (by simp)).trans (k2.mono (by intro i _ hi; simp at hi; simp [Value.ownBlock, hi]))).setCell _ _ (.inl (by simp))
set_option maxHeartbeats 4000000 in
theorem ntwice0_NS {w : World} {S : List Nat} {n : Nat} {s : Int} (i : Int) (h : NS w S n [] s) :
    Calls Try.prog 16 #[.pointer (some ⟨n, 0, none⟩), .int .i64 i] w fun e w' => e = .returned (.bool false) ∧ Keep [] w w' := by
  obtain ⟨A, c, h1, -⟩ := h
  have c0 : w.cell? ⟨n, 0, none⟩ = some (.slice A 0 c) := Blk.cell h1 0
  clear h1
  go_enter Try.func16, Try.ntmps16
  go_wp2_with fail
  refine wp_region_class (C := fun w' => Keep [] w w' ∧ w'.cell? ⟨n, 0, none⟩ = some (.slice A 0 c)) (by kernel_rfl) (by kernel_rfl) ⟨(Keep.refl _ _).drew, c0⟩ ?_
  iterate 20 (first
    | go_big_quiet_skip
    | (go_big_quiet_want; first
      | (go_big_quiet_op; go_big_quiet_on)
      | (refine quiet_run (v := ?_) ?_ ?_; (rotate_left; (intro w' hC; (try dsimp only at hC); go_split_ands; go_simp; with_reducible rfl); simp only [Act.put, List.setIfInBounds_toArray, List.set_cons_zero, List.set_cons_succ]; go_big_quiet_on))
      | (refine quiet_call (v := ?_) (f := ?_) (args := ?_) ?_ ?_ ?_; (rotate_left; rotate_left; rotate_left; (intro w' hC; (try dsimp only at hC); go_split_ands; go_simp; (refine ⟨?_, ?_⟩ <;> with_reducible rfl)); (intro w' hC; fail); simp only [Act.put, List.setIfInBounds_toArray, List.set_cons_zero, List.set_cons_succ]; go_big_quiet_on))))
  refine wpQuiet_nil ?_
  intro w2 hC2
  have kk2 := hC2.1
  clear hC2
  go_wp2
  go_ret
  exact ⟨rfl, kk2⟩
end Go.Proofs.Ytbhpkknlpjdcaaa
