import Derived.Test.YtbhpkknlpjdcaaaNet3
import Derived.Test.YtbhpkknlpjdcaaaNet2b
import Derived.Test.YtbhpkknlpjdcaaaMsgK
namespace Go.Proofs.Ytbhpkknlpjdcaaa
open Go.RowKit
set_option linter.unusedVariables false
set_option linter.unusedSimpArgs false
/-! net: awake -/
abbrev M6 : ByteArray := msgF (mK 6 0 0)
def one6 (xs : List ByteArray) : Nat := if xs.length < 2000 then 1 else 0
theorem putL_six (xs : List ByteArray) : putL xs [mK 6 0 0] = (addN xs (msgF (mK 6 0 0)), one6 xs) := by
  unfold putL one6 addN
  simp only [List.foldl_cons, List.foldl_nil]
  unfold putS
  rw [k6_right]
  by_cases h : xs.length < 2000 <;> simp [h]
theorem nput6 {w0 W : World} {n : Nat} {xs : List ByteArray} {s : Int} (h : NP w0 W [] n xs s) (hs : 0 ≤ s ∧ s ≤ 1000000) :
    Calls Try.prog 11 #[.pointer (some ⟨n, 0, none⟩), .slice (some ⟨W.heap.size, 0, none⟩) 1 1] (W.alloc (.cells (msgV (mK 6 0 0) nilV nilV nilV nilV) 39)) fun e w' =>
      e = .returned (.int .i64 (one6 xs : Nat)) ∧ NP w0 w' [] n (addN xs (msgF (mK 6 0 0))) (s + (one6 xs : Nat)) := by
  obtain ⟨S, h1, h2, h3⟩ := h
  have ka : Keep [] W (W.alloc (.cells (msgV (mK 6 0 0) nilV nilV nilV nilV) 39)) := (Keep.refl [] W).alloc _
  have hl : SliceOf Rep.ms (W.alloc (.cells (msgV (mK 6 0 0) nilV nilV nilV nilV) 39)) (fun i => i = W.heap.size) (.slice (some ⟨W.heap.size, 0, none⟩) [mK 6 0 0].length 1) [mK 6 0 0] :=
    SliceOf.one Rep.ms (Blk.new _ _ _) rfl ⟨nilV, nilV, nilV, nilV, rfl, mK_ok 6 0 0 _ _ (i64s _ (by omega)) (i64s _ (by omega)) (i64s _ (by omega))⟩
  refine (nput_call n _ 1 [mK 6 0 0] (fun i => i = W.heap.size) S xs s _ (h1.keep ka (by simp)) hl (fun i hi _ hm => by have := h1.lt i hm; omega) (fun m hm => ?_) hs (by simp)).mono ?_
  · obtain rfl : m = mK 6 0 0 := by simpa using hm
    exact ⟨MsSz.of_size (by have := k6_size; omega), by have := k6_size; unfold M47; omega⟩
  · rintro e w' ⟨rfl, S', q1, q2, q3⟩
    rw [putL_six] at q1 ⊢
    refine ⟨rfl, S', q1, fun k hk => ?_, (h3.trans ka).new q3 h2⟩
    rcases q2 k hk with h | h
    · exact h2 k h
    · exact .inr (Nat.le_trans (Nat.le_trans h3.size ka.size) h)
theorem NP.len {w0 w : World} {S0 : List Nat} {n : Nat} {xs : List ByteArray} {s : Int} (h : NP w0 w S0 n xs s) :
    Calls Try.prog 13 #[.pointer (some ⟨n, 0, none⟩)] w fun e w' => e = .returned (.int .i64 (xs.length : Nat)) ∧ w = w' := by
  obtain ⟨S, h1, -, -⟩ := h
  exact nlen_NS h1
theorem NP.sent {w0 w : World} {S0 : List Nat} {n : Nat} {xs : List ByteArray} {s : Int} (h : NP w0 w S0 n xs s) :
    Calls Try.prog 18 #[.pointer (some ⟨n, 0, none⟩)] w fun e w' => e = .returned (.int .i64 s) ∧ w = w' := by
  obtain ⟨S, h1, -, -⟩ := h
  exact nsent_NS h1
theorem nnew_NP (w0 w : World) (k0 : Keep [] w0 w) : Calls Try.prog 7 #[] w fun e w' => ∃ n, e = .returned (.pointer (some ⟨n, 0, none⟩)) ∧ NP w0 w' [] n [] 0 := by
  refine (nnew_NS w).mono ?_
  rintro e w' ⟨n, rfl, h, hn, k⟩
  exact ⟨n, rfl, [n], h, fun i hi => by simp at hi; subst hi; exact .inr (Nat.le_trans k0.size hn), k0.trans k⟩
theorem NP.kept {w0 w : World} {n : Nat} {xs : List ByteArray} {s : Int} (h : NP w0 w [] n xs s) : Keep [] w0 w := by
  obtain ⟨S, -, -, k⟩ := h
  exact k
theorem NP.via {w0 w w' : World} {S0 : List Nat} {n : Nat} {xs ys : List ByteArray} {s t : Int} (h : NP w0 w S0 n xs s) {S S' : List Nat} (hS : NS w S n xs s) (h2 : ∀ k, k ∈ S → k ∈ S0 ∨ w0.heap.size ≤ k) (h3 : Keep S0 w0 w)
    (q1 : NS w' S' n ys t) (q2 : ∀ k, k ∈ S' → k ∈ S ∨ w.heap.size ≤ k) (q3 : Keep S w w') : NP w0 w' S0 n ys t := by
  refine ⟨S', q1, fun k hk => ?_, h3.new q3 h2⟩
  rcases q2 k hk with h | h
  · exact h2 k h
  · exact .inr (Nat.le_trans h3.size h)
theorem NP.inject {w0 w : World} {S0 : List Nat} {n : Nat} {xs : List ByteArray} {s : Int} (h : NP w0 w S0 n xs s) (b : ByteArray) (hb : b.size ≤ M47) :
    Calls Try.prog 17 #[.pointer (some ⟨n, 0, none⟩), .string b] w fun e w' => e = .returned (.bool (injF b xs)) ∧ NP w0 w' S0 n (if injF b xs = true then xs ++ [b] else xs) s := by
  have hp := h
  obtain ⟨S, h1, h2, h3⟩ := h
  refine (ninject_NS b h1 hb).mono ?_
  rintro e w' ⟨rfl, S', q1, q2, q3⟩
  exact ⟨rfl, hp.via h1 h2 h3 q1 q2 q3⟩
theorem NP.take {w0 w : World} {S0 : List Nat} {n : Nat} {xs : List ByteArray} {s : Int} (h : NP w0 w S0 n xs s) (i : Int) (p : Nat) (b : ByteArray) (hp : atF i xs.length = p) (hb : xs[p]? = some b) (hn : xs.length ≤ 2000) :
    Calls Try.prog 12 #[.pointer (some ⟨n, 0, none⟩), .int .i64 i] w fun e w' => e = .returned (.tuple #[.string b, .bool true]) ∧ NP w0 w' S0 n (xs.eraseIdx p) s := by
  have hpp := h
  obtain ⟨S, h1, h2, h3⟩ := h
  refine (ntake_NS i p b h1 hp hb hn).mono ?_
  rintro e w' ⟨rfl, q1, q3⟩
  exact ⟨rfl, hpp.via h1 h2 h3 q1 (fun k hk => .inl hk) q3⟩
theorem NP.take0 {w0 w : World} {S0 : List Nat} {n : Nat} {s : Int} (h : NP w0 w S0 n [] s) (i : Int) :
    Calls Try.prog 12 #[.pointer (some ⟨n, 0, none⟩), .int .i64 i] w fun e w' => e = .returned (.tuple #[.string ⟨#[]⟩, .bool false]) ∧ w = w' := by
  obtain ⟨S, h1, -, -⟩ := h
  exact ntake0_NS i h1
theorem NP.twice {w0 w : World} {S0 : List Nat} {n : Nat} {xs : List ByteArray} {s : Int} (h : NP w0 w S0 n xs s) (i : Int) (p : Nat) (b : ByteArray) (hp : atF i xs.length = p) (hb : xs[p]? = some b) (hn : xs.length ≤ 2000) :
    Calls Try.prog 16 #[.pointer (some ⟨n, 0, none⟩), .int .i64 i] w fun e w' => e = .returned (.bool (decide (xs.length < 2000))) ∧ NP w0 w' S0 n (addN xs b) s := by
  have hpp := h
  obtain ⟨S, h1, h2, h3⟩ := h
  refine (ntwice_NS i p b h1 hp hb hn).mono ?_
  rintro e w' ⟨rfl, S', q1, q2, q3⟩
  exact ⟨rfl, hpp.via h1 h2 h3 q1 q2 q3⟩
theorem NP.twice0 {w0 w : World} {S0 : List Nat} {n : Nat} {s : Int} (h : NP w0 w S0 n [] s) (i : Int) :
    Calls Try.prog 16 #[.pointer (some ⟨n, 0, none⟩), .int .i64 i] w fun e w' => e = .returned (.bool false) ∧ NP w0 w' S0 n [] s := by
  have hpp := h
  obtain ⟨S, h1, h2, h3⟩ := h
  refine (ntwice0_NS i h1).mono ?_
  rintro e w' ⟨rfl, k⟩
  exact ⟨rfl, hpp.next k⟩
set_option maxHeartbeats 2000000 in
theorem nawake_call (w : World) : Calls Try.prog 6 #[] w fun e w' => e = .returned (.bool true) ∧ Keep [] w w' := by
  go_enter Try.func6, Try.ntmps6
  go_wp2_with fail
  refine (nnew_NP w _ (Keep.refl _ _)).mono ?_
  rintro e w1 ⟨n, rfl, h1⟩
  go_wp2_with (first | ((with_reducible refine wl_build 39 _ ?_ ?_); (with_reducible rfl); refine sy_build rfl 39 _ rfl (msgV (mK 6 0 0) nilV nilV nilV nilV) (by kernel_rfl) ?_; (try simp only [Act.put, List.setIfInBounds_toArray, List.set_cons_zero, List.set_cons_succ])))
  refine (nput6 h1 (by omega)).mono ?_
  rintro e w2 ⟨rfl, h2⟩
  have e1 : one6 [] = 1 := rfl
  have e2 : addN [] (msgF (mK 6 0 0)) = [msgF (mK 6 0 0)] := rfl
  rw [e1, e2] at *
  clear h1 e1 e2
  go_wp2_with fail
  refine h2.len.mono ?_
  rintro e w3 ⟨rfl, rfl⟩
  have k2 := h2.kept
  clear h2
  go_wp2
  go_ret
  exact ⟨rfl, k2⟩
end Go.Proofs.Ytbhpkknlpjdcaaa
