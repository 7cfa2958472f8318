import Derived.Test.YthkbgokkghidbaaSafe4
namespace Go.Proofs.Ythkbgokkghidbaa
open Go.RowKit Go.Shelf
set_option linter.unusedVariables false
set_option linter.unusedSimpArgs false
/-! records, the plain part; the reference's Split -/
theorem ext_ext (b : ByteArray) (k e i j : Nat) (hj : k + j ≤ e) (he : e ≤ b.size) : (b.extract k e).extract i j = b.extract (k + i) (k + j) := by
  apply ByteArray.ext
  simp only [ByteArray.data_extract, Array.extract_extract]
  congr 1
  omega
theorem nextR_shift (b : ByteArray) (k i : Nat) (hk : k ≤ b.size) : nextR (b.extract k b.size) i = nextR b (k + i) := by
  have hs : (b.extract k b.size).size = b.size - k := by simp
  unfold nextR
  rw [hs]
  by_cases h : i + 4 ≤ b.size - k
  · rw [if_pos h, if_pos (by omega : k + i + 4 ≤ b.size), ext_ext b k b.size i (i + 4) (by omega) (Nat.le_refl _)]
    dsimp only
    rw [show k + (i + 4) = k + i + 4 by omega]
    congr 1
    apply propext
    constructor <;> (rintro ⟨h1, h2, h3⟩; exact ⟨h1, h2, by omega⟩)
  · rw [if_neg h, if_neg (by omega)]
theorem recsN_shift (b : ByteArray) (k : Nat) (hk : k ≤ b.size) : ∀ (N i : Nat), recsN N (b.extract k b.size) i = (recsN N b (k + i)).map fun x => (x.1 - k, x.2)
  | 0, i => rfl
  | N + 1, i => by
    unfold recsN
    rw [nextR_shift b k i hk]
    cases h : nextR b (k + i) with
    | none => rfl
    | some n =>
      obtain ⟨h1, -, h3, h4, h5⟩ := nextR_some h
      dsimp only
      rw [recsN_shift b k hk N (i + 4 + n), List.map_cons, ext_ext b k b.size (i + 4) (i + 4 + n) (by omega) (Nat.le_refl _)]
      rw [show k + (i + 4 + n) = k + i + 4 + n by omega, show k + (i + 4) = k + i + 4 by omega, show i + 4 + n = k + i + 4 + n - k by omega]
theorem recsAt_shift (b : ByteArray) (k : Nat) (hk : k ≤ b.size) : recsAt (b.extract k b.size) 0 = (recsAt b k).map fun x => (x.1 - k, x.2) := by
  unfold recsAt
  rw [recsN_shift b k hk]
  simp only [Nat.add_zero]
  rw [recsN_fuel b ((b.extract k b.size).size + 1) (b.size + 1) k (by simp; omega) (by omega)]
theorem recsN_ge (b : ByteArray) : ∀ (k i : Nat) x, x ∈ recsN k b i → i + 5 ≤ x.1
  | 0, _, _, h => by simp [recsN] at h
  | k + 1, i, x, h => by
    unfold recsN at h
    cases hn : nextR b i with
    | none => rw [hn] at h; simp at h
    | some n =>
      rw [hn] at h
      obtain ⟨h1, -, h3, h4, h5⟩ := nextR_some hn
      rcases List.mem_cons.1 h with rfl | h
      · simp; omega
      · have := recsN_ge b k _ x h; omega
theorem recs_none {b : ByteArray} (h : nextR b 0 = none) : recs b = [] ∧ endR b = 0 := by
  simp [recs, endR, recsAt_none h, endOf]
theorem recs_some {b : ByteArray} {n : Nat} (h : nextR b 0 = some n) : recs b = b.extract 4 (4 + n) :: recs (b.extract (4 + n) b.size) ∧ endR b = 4 + n + endR (b.extract (4 + n) b.size) := by
  obtain ⟨h1, -, h3, h4, h5⟩ := nextR_some h
  have hr := recsAt_some h
  simp only [Nat.zero_add] at hr
  have hs := recsAt_shift b (4 + n) (by omega)
  refine ⟨by simp [recs, hr, hs, Function.comp_def], ?_⟩
  unfold endR endOf
  rw [hr, hs]
  rcases List.eq_nil_or_concat (recsAt b (4 + n)) with hl | ⟨l, x, hl⟩
  · rw [hl]; simp
  · rw [List.concat_eq_append] at hl
    rw [hl]
    have hx := recsN_ge b _ _ x (show x ∈ recsAt b (4 + n) by rw [hl]; simp)
    have e1 : ((4 + n, b.extract 4 (4 + n)) :: (l ++ [x])).getLast? = some x := by rw [← List.cons_append, List.getLast?_append]; rfl
    have e2 : ((l ++ [x]).map fun x => (x.1 - (4 + n), x.2)).getLast? = some (x.1 - (4 + n), x.2) := by simp
    rw [e1, e2]
    dsimp only
    omega
theorem nextR_cut {b : ByteArray} {e i n : Nat} (he : e ≤ b.size) (h : nextR b i = some n) (hn : i + 4 + n ≤ e) : nextR (b.extract 0 e) i = some n := by
  obtain ⟨h1, h2, h3, h4, h5⟩ := nextR_some h
  have hs : (b.extract 0 e).size = e := by simp; omega
  unfold nextR
  rw [hs, if_pos (by omega), ext_ext b 0 e i (i + 4) (by omega) he]
  dsimp only
  rw [Nat.zero_add, Nat.zero_add, h2]
  rw [if_pos ⟨by simpa using h3, by simpa using h4, by simpa using hn⟩]
  simp
theorem recsAt_cut (b : ByteArray) (e : Nat) (he : e ≤ b.size) : ∀ (l : List (Nat × ByteArray)) (i : Nat), recsAt b i = l → i ≤ e → e = (match l.getLast? with | none => i | some x => x.1) → recsAt (b.extract 0 e) i = l
  | [], i, h, hi, hl => by
    simp at hl
    have hs : (b.extract 0 e).size = e := by simp; omega
    have : nextR (b.extract 0 e) i = none := by unfold nextR; rw [if_neg (by rw [hs]; omega)]
    exact recsAt_none this
  | x :: l, i, h, hi, hl => by
    cases hn : nextR b i with
    | none => rw [recsAt_none hn] at h; cases h
    | some n =>
      have hr := recsAt_some hn
      rw [h] at hr
      simp only [List.cons.injEq] at hr
      obtain ⟨rfl, hr⟩ := hr
      obtain ⟨h1, h2, h3, h4, h5⟩ := nextR_some hn
      have hle : i + 4 + n ≤ e ∧ e = (match l.getLast? with | none => i + 4 + n | some x => x.1) := by
        rcases List.eq_nil_or_concat l with hll | ⟨l', y, hll⟩
        · rw [hll] at hl ⊢; simp at hl; simp; omega
        · rw [List.concat_eq_append] at hll
          rw [hll] at hl ⊢
          have hy := recsN_ge b _ _ y (show y ∈ recsAt b (i + 4 + n) by rw [← hr, hll]; simp)
          have e1 : ((i + 4 + n, b.extract (i + 4) (i + 4 + n)) :: (l' ++ [y])).getLast? = some y := by rw [← List.cons_append, List.getLast?_append]; rfl
          have e2 : (l' ++ [y]).getLast? = some y := by simp
          rw [e1] at hl
          rw [e2]
          dsimp only at hl ⊢
          omega
      have ih := recsAt_cut b e he l (i + 4 + n) hr.symm hle.1 hle.2
      rw [recsAt_some (nextR_cut he hn hle.1), ih, ext_ext b 0 e (i + 4) (i + 4 + n) (by omega) he]
      simp
/-- Cut off where the records end, there are just these. -/
theorem recs_cut (b : ByteArray) : recs (b.extract 0 (endR b)) = recs b ∧ (b.extract 0 (endR b)).size = endR b ∧ endR (b.extract 0 (endR b)) = endR b := by
  have he := endR_le b
  have h := recsAt_cut b (endR b) he (recsAt b 0) 0 rfl (Nat.zero_le _) (by unfold endR endOf; cases (recsAt b 0).getLast? <;> rfl)
  refine ⟨by simp [recs, h], by simp; omega, ?_⟩
  show endOf (recsAt (b.extract 0 (endR b)) 0) = _
  rw [h]
  rfl
theorem wrap_small {x : Int} (h0 : 0 ≤ x) (h1 : x < 9223372036854775808) : IntKind.i64.wrap x = x := by
  rw [IntKind.wrap_i64]; omega
theorem be4 (b : ByteArray) (h0 : 0 < b.size) (h1 : 1 < b.size) (h2 : 2 < b.size) (h3 : 3 < b.size) :
    be (b.extract 0 4).data.toList = (((b[0].toNat : Int) * (256 : Int) + (b[1].toNat : Int)) * (256 : Int) + (b[2].toNat : Int)) * (256 : Int) + (b[3].toNat : Int) := by
  have e : (b.extract 0 4).data.toList = [b[0], b[1], b[2], b[3]] := by
    apply List.ext_getElem
    · simp; omega
    · intro i hi hi'
      simp at hi'
      have : i = 0 ∨ i = 1 ∨ i = 2 ∨ i = 3 := by omega
      rcases this with rfl | rfl | rfl | rfl <;> simp <;> rfl
  rw [e]
  simp [be]
theorem NewS.from {w0 w1 w : World} {v : Value} {xs : List ByteArray} (h : NewS w1 w v xs) (k : Keep [] w0 w1) : NewS w0 w v xs := by
  obtain ⟨h1, h2⟩ := h
  obtain ⟨o1, o2⟩ := str_flat h1
  refine ⟨own_strs ⟨o1.1, o1.2.imp id ?_⟩ o2, k.trans h2⟩
  rintro ⟨g, cap, cur, e, hb, rest⟩
  exact ⟨g, cap, cur, e, Nat.le_trans k.size hb, rest⟩
set_option maxHeartbeats 2000000 in
theorem split_call (N : Nat) : ∀ (b : ByteArray), b.size < N → b.size ≤ 1000000 → ∀ w, Calls Try.prog 8 #[.string b] w fun e w' => ∃ A m c, e = .returned (.tuple #[.slice A m c, .int .i64 (endR b : Nat)]) ∧ NewS w w' (.slice A m c) (recs b) := by
  induction N with
  | zero => intro b hb; omega
  | succ N ih =>
    intro b hb hN w
    by_cases h4 : 4 ≤ b.size
    · have h4z : ¬ (b.size : Int) < 4 := by omega
      have i0 : 0 < b.size := by omega
      have j1 : 1 < b.size := by omega
      have j2 : 2 < b.size := by omega
      have j3 : 3 < b.size := by omega
      have i1 : (1 : Int) < (b.size : Int) := by omega
      have i2 : (2 : Int) < (b.size : Int) := by omega
      have i3 : (3 : Int) < (b.size : Int) := by omega
      have hb4 := be4 b i0 j1 j2 j3
      obtain ⟨rb, hrb⟩ : ∃ rb, rb = recs b := ⟨_, rfl⟩
      obtain ⟨eb, heb⟩ : ∃ eb, eb = endR b := ⟨_, rfl⟩
      rw [← hrb, ← heb]
      have HRB := Lib.hid hrb
      have HEB := Lib.hid heb
      clear hrb heb
      have b0 := b[0].toNat_lt
      have b1 := b[1].toNat_lt
      have b2 := b[2].toNat_lt
      have b3 := b[3].toNat_lt
      have w0 := wrap_small (x := (b[0].toNat : Int)) (by omega) (by omega)
      have w1 := wrap_small (x := (b[1].toNat : Int)) (by omega) (by omega)
      have w2 := wrap_small (x := (b[2].toNat : Int)) (by omega) (by omega)
      have w3 := wrap_small (x := (b[3].toNat : Int)) (by omega) (by omega)
      have w4 := wrap_small (x := (b[0].toNat : Int) * (256 : Int)) (by omega) (by omega)
      have w5 := wrap_small (x := (b[0].toNat : Int) * (256 : Int) + (b[1].toNat : Int)) (by omega) (by omega)
      have w6 := wrap_small (x := ((b[0].toNat : Int) * (256 : Int) + (b[1].toNat : Int)) * (256 : Int)) (by omega) (by omega)
      have w7 := wrap_small (x := ((b[0].toNat : Int) * (256 : Int) + (b[1].toNat : Int)) * (256 : Int) + (b[2].toNat : Int)) (by omega) (by omega)
      have w8 := wrap_small (x := (((b[0].toNat : Int) * (256 : Int) + (b[1].toNat : Int)) * (256 : Int) + (b[2].toNat : Int)) * (256 : Int)) (by omega) (by omega)
      have w9 := wrap_small (x := (((b[0].toNat : Int) * (256 : Int) + (b[1].toNat : Int)) * (256 : Int) + (b[2].toNat : Int)) * (256 : Int) + (b[3].toNat : Int)) (by omega) (by omega)
      go_enter Try.func8, Try.ntmps8
      go_wp2_with fail
      refine wp_region_class (C := fun w' => Keep [] w w' ∧ True) (by kernel_rfl) (by kernel_rfl) ⟨(Keep.refl _ _).drew, trivial⟩ ?_
      iterate 19 (first
        | go_big_quiet_skip
        | (go_big_quiet_want; first
          | (go_big_quiet_op; go_big_quiet_on)
          | (refine quiet_run (v := ?_) ?_ ?_; (rotate_left; (intro w' hC; (try dsimp only at hC); go_split_ands; go_simp; with_reducible rfl); simp only [Act.put, List.setIfInBounds_toArray, List.set_cons_zero, List.set_cons_succ]; go_big_quiet_on))
          | (refine quiet_call (v := ?_) (f := ?_) (args := ?_) ?_ ?_ ?_; (rotate_left; rotate_left; rotate_left; (intro w' hC; (try dsimp only at hC); go_split_ands; go_simp; (refine ⟨?_, ?_⟩ <;> with_reducible rfl)); (intro w' hC; fail); simp only [Act.put, List.setIfInBounds_toArray, List.set_cons_zero, List.set_cons_succ]; go_big_quiet_on))))
      refine wpQuiet_nil ?_
      rintro wq ⟨k2, -⟩
      simp only [w0, w1, w2, w3, w4, w5, w6, w7, w8, w9, ← hb4]
      clear w0 w1 w2 w3 w4 w5 w6 w7 w8 w9 hb4 b0 b1 b2 b3
      have hbd := be_bound (b.extract 0 4).data.toList 4 (by simp; omega)
      obtain ⟨m, hm⟩ : ∃ m : Nat, be (b.extract 0 4).data.toList = m := Int.eq_ofNat_of_zero_le hbd.1
      have HN : nextR b 0 = if 1 ≤ m ∧ m ≤ 4000 ∧ 4 + m ≤ b.size then some m else none := by
        unfold nextR
        rw [if_pos (by omega : 0 + 4 ≤ b.size)]
        dsimp only
        simp only [Nat.zero_add, hm]
        rfl
      have HN := Lib.hid HN
      simp only [hm]
      clear hbd hm
      by_cases a1 : 1 ≤ m
      · have a1z : ¬ (m : Int) < 1 := by omega
        by_cases a2 : m ≤ 4000
        · have a2z : ¬ (4000 : Int) < (m : Int) := by omega
          by_cases a3 : 4 + m ≤ b.size
          · have a3z : ¬ ((b.size : Int) - 4 < (m : Int)) := by omega
            obtain ⟨e1, e2⟩ := recs_some (b := b) (n := m) (by rw [HN.out, if_pos ⟨a1, a2, a3⟩])
            have hi := ih (b.extract (4 + m) b.size) (by simp; omega) (by simp; omega)
            have hl1 := recs_len (b.extract (4 + m) b.size)
            have hl2 := endR_le (b.extract (4 + m) b.size)
            have hsz : (b.extract (4 + m) b.size).size ≤ b.size := by simp
            have E1 := HRB.out.trans e1
            have E2 := HEB.out.trans e2
            clear e1 e2 HRB HEB
            generalize recs (b.extract (4 + m) b.size) = rs at *
            generalize endR (b.extract (4 + m) b.size) = en at *
            have E1 := Lib.hid E1
            have E2 := Lib.hid E2
            have hi := Lib.hid hi
            have hs4 : (b.extract 4 (4 + m)).size ≤ M47 := by rw [M47_eq]; simp; omega
            go_wp2_with (first | (go_at_call 8; refine (hi.out _).mono ?_; rintro e w3 ⟨A, q, c, rfl, h3⟩; obtain ⟨rfl, hqc, s3⟩ := h3.slice (by omega)) | (at_builtin; refine wpList_appS w3 rfl (.tmp 53) (.tmp 54) rfl _ (.slice (some ⟨w3.heap.size, 0, none⟩) 1 1) [b.extract 4 (4 + m)] rs _ A c (by simp [Act.eval, Act.put]) (by simp [Act.eval, Act.put]) (newS_one w3 _ hs4) (s3.keep (fun i _ hi => Below.heap_alloc w3 _ i hi)) (by simp; omega) ?_; simp only [List.length_cons, List.length_nil, Nat.zero_add, List.cons_append, List.nil_append]; intro B cap w4 h4n) | go_in)
            go_ret2
            rw [E1.out, E2.out]
            refine ⟨B, _, cap, ?_, h4n.from (k2.trans h3.2)⟩
            simp
          · have a3z : (b.size : Int) - 4 < (m : Int) := by omega
            obtain ⟨e1, e2⟩ := recs_none (b := b) (by rw [HN.out, if_neg (fun h => a3 h.2.2)])
            obtain rfl : rb = [] := HRB.out.trans e1
            obtain rfl : eb = 0 := HEB.out.trans e2
            clear e1 e2
            go_wp2
            go_ret2
            exact ⟨_, _, _, rfl, Own.nil _ _ _ _, k2⟩
        · have a2z : (4000 : Int) < (m : Int) := by omega
          obtain ⟨e1, e2⟩ := recs_none (b := b) (by rw [HN.out, if_neg (fun h => a2 h.2.1)])
          obtain rfl : rb = [] := HRB.out.trans e1
          obtain rfl : eb = 0 := HEB.out.trans e2
          clear e1 e2
          go_wp2
          go_ret2
          exact ⟨_, _, _, rfl, Own.nil _ _ _ _, k2⟩
      · have a1z : (m : Int) < 1 := by omega
        obtain ⟨e1, e2⟩ := recs_none (b := b) (by rw [HN.out, if_neg (fun h => a1 h.1)])
        obtain rfl : rb = [] := HRB.out.trans e1
        obtain rfl : eb = 0 := HEB.out.trans e2
        clear e1 e2
        go_wp2
        go_ret2
        exact ⟨_, _, _, rfl, Own.nil _ _ _ _, k2⟩
    · have h4z : (b.size : Int) < 4 := by omega
      obtain ⟨e1, e2⟩ := recs_none (b := b) (by unfold nextR; rw [if_neg (by omega)])
      rw [e1, e2]
      go_enter Try.func8, Try.ntmps8
      go_wp2
      go_ret2
      exact ⟨_, _, _, rfl, Own.nil _ _ _ _, Keep.refl _ _⟩
end Go.Proofs.Ythkbgokkghidbaa
