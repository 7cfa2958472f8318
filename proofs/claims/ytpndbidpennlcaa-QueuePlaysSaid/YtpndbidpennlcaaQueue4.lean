import Derived.Test.YtpndbidpennlcaaQueue3
namespace Go.Proofs.Ytpndbidpennlcaa
open Go.RowKit
set_option linter.unusedVariables false
set_option linter.unusedSimpArgs false
/-! the queue: Pop of some -/
theorem wrap64 {x : Int} (h1 : -9223372036854775808 ≤ x) (h2 : x ≤ 9223372036854775807) : IntKind.i64.wrap x = x := by
  rw [IntKind.wrap_i64]
  omega

set_option maxHeartbeats 4000000 in
theorem qpop0 (q g : Nat) (B : Option Addr) (c n2 c2 n p : Nat) (xs : List ByteArray) (d i : Int) (w : World)
    (h : QAt w q (.slice (some ⟨g, 0, none⟩) xs.length c) (.slice B n2 c2) d) (ho : StrRow w g c xs) (hq : g ≠ q) (hn : xs.length + n2 = n) (hn2 : n ≤ 1000) (hp : Int.tmod (Int.tmod i n + n) n = ((p : Nat) : Int)) (hlt : p < xs.length) :
    Calls Try.prog 12 #[.pointer (some ⟨q, 0, none⟩), .int .i64 i] w fun e w' => ∃ v1 v2 v3 v4, e = .returned (.tuple #[.agg (msgV (readMsgF xs[p]).1 v1 v2 v3 v4), .bool ((readMsgF xs[p]).2 == 0)]) ∧ MsOk w' (New w) (readMsgF xs[p]).1 v1 v2 v3 v4 ∧
      QAt w' q (.slice (some ⟨g, 0, none⟩) (xs.eraseIdx p).length c) (.slice B n2 c2) d ∧ StrRow w' g c (xs.eraseIdx p) ∧ Keep [q, g] w w' := by
  have hi0 : -(n : Int) < Int.tmod i n := Int.lt_tmod_of_pos i (by omega)
  have hi1 : Int.tmod i n < (n : Int) := Int.tmod_lt_of_pos i (by omega)
  have zw1 : (RowKit.wrap64 (Int.tmod i n + n)).tmod n = (p : Int) := by
    rw [show RowKit.wrap64 (Int.tmod i n + n) = Int.tmod i n + n by unfold RowKit.wrap64; omega, hp]
  clear hi0 hi1
  have zw2 : RowKit.wrap64 (p : Int) = p := by unfold RowKit.wrap64; omega
  have zw3 : RowKit.wrap64 ((p : Int) + n2 - n2) = p := by unfold RowKit.wrap64; omega
  have zt : ¬ (xs.length : Int) ≤ (p : Int) := by omega
  have zn0 : ((n : Int) == 0) = false := by rw [beq_eq_false_iff_ne]; omega
  have zn1 : ¬ (n : Int) = 0 := by omega
  have HA : Hid (xs.length ≤ 1000000) := Lib.hid (by omega)
  have HB : Hid (n2 ≤ 1000000) := Lib.hid (by omega)
  have HN := Lib.hid hn
  obtain ⟨cur, hb, r1, r2, r3, r4, r5⟩ := ho
  have HR4 := Lib.hid r4
  have HR5 := Lib.hid r5
  clear r4 r5 hp hn
  go_enter Try.func12, Try.ntmps12
  go_wp2_with (first
    | ((with_reducible refine wl_alloc 38 ?_ ?_); (with_reducible rfl); refine sx_alloc rfl 38 rfl _ 21 zMs zMs_info rfl ?_; intro w2 b2 k2 z2; clear z2; (try simp only [Act.put, List.setIfInBounds_toArray, List.set_cons_zero, List.set_cons_succ])))
  refine (qlen_call q (some ⟨g, 0, none⟩) B xs.length n2 c c2 d _ (Blk.keep h k2 (by simp)) HA.out HB.out).mono ?_
  rintro e w3 ⟨rfl, k3⟩
  rw [show ((xs.length : Nat) : Int) + (n2 : Nat) = (n : Nat) by have := HN.out; omega]
  have b3 := b2.keep k3 (by simp)
  have kk3 := k2.trans k3
  have h3 := Blk.keep h kk3 (by simp)
  have g3 := hb.keep kk3 (by simp)
  have e0 : w3.cell? ⟨q, 0, none⟩ = some (.slice (some ⟨g, 0, none⟩) xs.length c) := Blk.cell h3 0
  have e1 : w3.cell? ⟨q, 1, none⟩ = some (.slice B n2 c2) := Blk.cell h3 1
  have e3 : w3.cell? ⟨g, p, none⟩ = some (.string xs[p]) := by rw [g3.cell, HR4.out p hlt]
  have zp0 : (0 : Int) ≤ (p : Int) := by omega
  have zp1 : (p : Int) < (xs.length : Int) := by omega
  go_wp2_with fail
  refine (readMsg_call _ _).mono ?_
  generalize hrd : readMsgF xs[p] = rd at *
  obtain ⟨m, er⟩ := rd
  have HRD := Lib.hid hrd
  clear hrd
  rintro e w4 ⟨v1, v2, v3, v4, rfl, hok, k4⟩
  dsimp only at *
  obtain ⟨A1, d1, rfl, -⟩ := hok.bs.form
  obtain ⟨A2, d2, rfl, -⟩ := hok.bq.form
  obtain ⟨A3, d3, rfl, -⟩ := hok.cs.form
  obtain ⟨A4, d4, rfl, -⟩ := hok.st.form
  have HO := Lib.hid hok
  clear hok
  go_wp2_with (first
    | ((with_reducible refine wl_alloc 38 ?_ ?_); (with_reducible rfl); refine sx_alloc rfl 38 rfl _ 21 zMs zMs_info rfl ?_; intro w5 b5 k5 z5; clear z5; (try simp only [Act.put, List.setIfInBounds_toArray, List.set_cons_zero, List.set_cons_succ]))
    | ((with_reducible refine wl_store 38 (.tmp 8) (.tmp 49) ?_ ?_); (with_reducible rfl); refine sx_storeW rfl 38 (.tmp 8) (.tmp 49) rfl w4.heap.size _ zMs _ 21 rfl rfl b5 zMs_size rfl rfl rfl ?_; intro w6 b6 k6 z6; clear z6; (try simp only [Act.put, List.setIfInBounds_toArray, List.set_cons_zero, List.set_cons_succ])))
  have j4 := kk3.trans k4
  have kk6 : Keep [] w w6 := (j4.trans k5).new k6 (fun i hi => .inr (by have := j4.size; simp at hi; omega))
  have h6 := Blk.keep h kk6 (by simp)
  have g6 := hb.keep kk6 (by simp)
  have s6 : StrRow w6 g c xs := ⟨cur, g6, r1, r2, r3, HR4.out, HR5.out⟩
  have zwp : IntKind.i64.wrap ((p : Int) + 1) = (p : Int) + 1 := by have := HN.out; rw [IntKind.wrap_i64]; omega
  have c6 : w6.cell? ⟨q, 0, none⟩ = some (.slice (some ⟨g, 0, none⟩) xs.length c) := Blk.cell h6 0
  have hqg : q ∉ [g] := by simp; exact fun e => hq e.symm
  have hD : ∀ w', Keep [] w6 w' → Calls Try.prog 31 #[.slice (some ⟨g, 0, none⟩) xs.length c, .int .i64 (p : Int), .int .i64 (IntKind.i64.wrap ((p : Int) + 1))] w' fun e w'' => e = .returned (.slice (some ⟨g, 0, none⟩) (xs.eraseIdx p).length c) ∧ StrRow w'' g c (xs.eraseIdx p) ∧ Keep [g] w' w'' := fun w' k => by
    rw [zwp]
    exact delete_call g c xs p w' ⟨cur, g6.keep k (by simp), r1, r2, r3, HR4.out, HR5.out⟩ hlt (by have := HN.out; omega)
  have b6q : w4.heap.size ≠ q := by have := Blk.lt h; have := j4.size; omega
  have b6g : w4.heap.size ∉ [g] := by have := hb.lt; have := j4.size; simp; omega
  have HB6 := Lib.hid b6
  have HH6 := Lib.hid h6
  clear b6 h6 s6 zwp
  go_region_law (go_simp; go_at_call 31; refine (hD _ ((Keep.refl _ _).drew)).mono ?_; rintro e w7 ⟨rfl, s7, k7⟩; have h7 := Blk.keep HH6.out ((Keep.refl _ _).drew.trans k7) hqg; have b7 := HB6.out.keep ((Keep.refl _ _).drew.trans k7) b6g; have f7 := Blk.frozen h7 0; have c7 : w7.cell? ⟨q, 0, none⟩ = some (.slice (some ⟨g, 0, none⟩) xs.length c) := Blk.cell h7 0)
  all_goals
    have h8 : QAt (w7.setCell ⟨q, 0, none⟩ (.slice (some ⟨g, 0, none⟩) (xs.eraseIdx p).length c)) q (.slice (some ⟨g, 0, none⟩) (xs.eraseIdx p).length c) (.slice B n2 c2) d := by simpa [QAt] using Blk.set h7 0 (.slice (some ⟨g, 0, none⟩) (xs.eraseIdx p).length c)
    have k8 : Keep [q, g] w6 (w7.setCell ⟨q, 0, none⟩ (.slice (some ⟨g, 0, none⟩) (xs.eraseIdx p).length c)) :=
      (((Keep.refl _ _).drew.trans k7).mono (by intro i _ hi; simp at hi; simp [hi])).setCell _ _ (.inl (by simp))
    have sk8 : Keep [q] w7 (w7.setCell ⟨q, 0, none⟩ (.slice (some ⟨g, 0, none⟩) (xs.eraseIdx p).length c)) := (Keep.refl [q] w7).setCell _ _ (.inl (by simp))
    generalize w7.setCell ⟨q, 0, none⟩ (.slice (some ⟨g, 0, none⟩) (xs.eraseIdx p).length c) = w8 at *
    have s8 : StrRow w8 g c (xs.eraseIdx p) := (by obtain ⟨cu, q1, q2⟩ := s7; exact ⟨cu, q1.keep sk8 (by simp; exact hq), q2⟩)
    have b8 := b7.keep sk8 (by simp; exact b6q)
    have wq := Blk.lt h
    have wg := hb.lt
    have wsz := j4.size
    have b9 := b3.keep ((k4.trans k5).new k6 (fun i hi => .inr (by have := k3.size; have := k2.size; have := k4.size; have := b3.lt; simp at hi; omega))) (by simp)
    have b10 := b9.keep k8 (by simp; omega)
    go_wp2_with (first
      | ((with_reducible refine wl_load 38 (.tmp 8) ?_ ?_); (with_reducible rfl); refine sx_loadW rfl 38 (.tmp 8) rfl w4.heap.size _ _ _ 21 rfl b8 Try.underlying38 rfl zMs_size rfl ?_; (try simp only [Act.put, List.setIfInBounds_toArray, List.set_cons_zero, List.set_cons_succ]))
      | ((with_reducible refine wl_store 38 (.tmp 4) (.tmp 66) ?_ ?_); (with_reducible rfl); refine sx_storeW rfl 38 (.tmp 4) (.tmp 66) rfl w.heap.size _ zMs _ 21 rfl rfl b10 zMs_size rfl rfl rfl ?_; intro w9 b11 k9 z9; clear z9; (try simp only [Act.put, List.setIfInBounds_toArray, List.set_cons_zero, List.set_cons_succ])))
    refine ret_cell2 rfl rfl rfl b11 Try.underlying38 rfl zMs_size _ rfl ?_
    have mA : ∀ i, i ∈ [q, g] → i ∈ [q, g, w.heap.size] := by intro i hi; simp at hi; rcases hi with rfl | rfl <;> simp
    have kA : Keep [] w4 w6 := k5.new k6 (fun i hi => .inr (by simp at hi; omega))
    have kB : Keep [q, g] w4 w8 := (kA.mono (by simp)).trans k8
    have kC : Keep [q, g, w.heap.size] w4 w9 := (kB.mono (fun i _ hi => mA i hi)).trans (k9.mono (by intro i _ hi; simp at hi; simp [hi]))
    refine ⟨_, _, _, _, by rw [HRD.out]; rfl, ?_, h8.keep k9 (by simp; omega), ?_, ?_⟩
    · rw [HRD.out]
      refine (HO.out.keep (kC.at _ ?_)).mono ?_
      · intro i hi hn
        have := k3.size; have := k2.size; have := b3.lt
        simp at hi
        unfold New at hn
        omega
      · intro i hi _
        have := k3.size; have := k2.size
        unfold New at *
        omega
    · obtain ⟨cu, q1, q2⟩ := s8
      exact ⟨cu, q1.keep k9 (by simp; omega), q2⟩
    · exact ((kk6.mono (T := [q, g]) (by simp)).trans k8).new k9 (fun i hi => .inr (by simp at hi; omega))

set_option maxHeartbeats 4000000 in
theorem qpop1 (q g : Nat) (B : Option Addr) (c n2 c2 n p : Nat) (xs : List ByteArray) (d i : Int) (w : World)
    (h : QAt w q (.slice B n2 c2) (.slice (some ⟨g, 0, none⟩) xs.length c) d) (ho : StrRow w g c xs) (hq : g ≠ q) (hn : xs.length + n2 = n) (hn2 : n ≤ 1000) (hp : Int.tmod (Int.tmod i n + n) n = ((p + n2 : Nat) : Int)) (hlt : p < xs.length) :
    Calls Try.prog 12 #[.pointer (some ⟨q, 0, none⟩), .int .i64 i] w fun e w' => ∃ v1 v2 v3 v4, e = .returned (.tuple #[.agg (msgV (readMsgF xs[p]).1 v1 v2 v3 v4), .bool ((readMsgF xs[p]).2 == 0)]) ∧ MsOk w' (New w) (readMsgF xs[p]).1 v1 v2 v3 v4 ∧
      QAt w' q (.slice B n2 c2) (.slice (some ⟨g, 0, none⟩) (xs.eraseIdx p).length c) d ∧ StrRow w' g c (xs.eraseIdx p) ∧ Keep [q, g] w w' := by
  have hi0 : -(n : Int) < Int.tmod i n := Int.lt_tmod_of_pos i (by omega)
  have hi1 : Int.tmod i n < (n : Int) := Int.tmod_lt_of_pos i (by omega)
  have zw1 : (RowKit.wrap64 (Int.tmod i n + n)).tmod n = (p : Int) + n2 := by
    rw [show RowKit.wrap64 (Int.tmod i n + n) = Int.tmod i n + n by unfold RowKit.wrap64; omega, hp]
    rfl
  clear hi0 hi1
  have zw2 : RowKit.wrap64 (p : Int) = p := by unfold RowKit.wrap64; omega
  have zw3 : RowKit.wrap64 ((p : Int) + n2 - n2) = p := by unfold RowKit.wrap64; omega
  have zt : (n2 : Int) ≤ (p : Int) + n2 := by omega
  have zn0 : ((n : Int) == 0) = false := by rw [beq_eq_false_iff_ne]; omega
  have zn1 : ¬ (n : Int) = 0 := by omega
  have HA : Hid (xs.length ≤ 1000000) := Lib.hid (by omega)
  have HB : Hid (n2 ≤ 1000000) := Lib.hid (by omega)
  have HN := Lib.hid hn
  obtain ⟨cur, hb, r1, r2, r3, r4, r5⟩ := ho
  have HR4 := Lib.hid r4
  have HR5 := Lib.hid r5
  clear r4 r5 hp hn
  go_enter Try.func12, Try.ntmps12
  go_wp2_with (first
    | ((with_reducible refine wl_alloc 38 ?_ ?_); (with_reducible rfl); refine sx_alloc rfl 38 rfl _ 21 zMs zMs_info rfl ?_; intro w2 b2 k2 z2; clear z2; (try simp only [Act.put, List.setIfInBounds_toArray, List.set_cons_zero, List.set_cons_succ])))
  refine (qlen_call q B (some ⟨g, 0, none⟩) n2 xs.length c2 c d _ (Blk.keep h k2 (by simp)) HB.out HA.out).mono ?_
  rintro e w3 ⟨rfl, k3⟩
  rw [show ((n2 : Nat) : Int) + (xs.length : Nat) = (n : Nat) by have := HN.out; omega]
  have b3 := b2.keep k3 (by simp)
  have kk3 := k2.trans k3
  have h3 := Blk.keep h kk3 (by simp)
  have g3 := hb.keep kk3 (by simp)
  have e0 : w3.cell? ⟨q, 0, none⟩ = some (.slice B n2 c2) := Blk.cell h3 0
  have e1 : w3.cell? ⟨q, 1, none⟩ = some (.slice (some ⟨g, 0, none⟩) xs.length c) := Blk.cell h3 1
  have e3 : w3.cell? ⟨g, p, none⟩ = some (.string xs[p]) := by rw [g3.cell, HR4.out p hlt]
  have zp0 : (0 : Int) ≤ (p : Int) := by omega
  have zp1 : (p : Int) < (xs.length : Int) := by omega
  go_wp2_with fail
  refine (readMsg_call _ _).mono ?_
  generalize hrd : readMsgF xs[p] = rd at *
  obtain ⟨m, er⟩ := rd
  have HRD := Lib.hid hrd
  clear hrd
  rintro e w4 ⟨v1, v2, v3, v4, rfl, hok, k4⟩
  dsimp only at *
  obtain ⟨A1, d1, rfl, -⟩ := hok.bs.form
  obtain ⟨A2, d2, rfl, -⟩ := hok.bq.form
  obtain ⟨A3, d3, rfl, -⟩ := hok.cs.form
  obtain ⟨A4, d4, rfl, -⟩ := hok.st.form
  have HO := Lib.hid hok
  clear hok
  go_wp2_with (first
    | ((with_reducible refine wl_alloc 38 ?_ ?_); (with_reducible rfl); refine sx_alloc rfl 38 rfl _ 21 zMs zMs_info rfl ?_; intro w5 b5 k5 z5; clear z5; (try simp only [Act.put, List.setIfInBounds_toArray, List.set_cons_zero, List.set_cons_succ]))
    | ((with_reducible refine wl_store 38 (.tmp 8) (.tmp 49) ?_ ?_); (with_reducible rfl); refine sx_storeW rfl 38 (.tmp 8) (.tmp 49) rfl w4.heap.size _ zMs _ 21 rfl rfl b5 zMs_size rfl rfl rfl ?_; intro w6 b6 k6 z6; clear z6; (try simp only [Act.put, List.setIfInBounds_toArray, List.set_cons_zero, List.set_cons_succ])))
  have j4 := kk3.trans k4
  have kk6 : Keep [] w w6 := (j4.trans k5).new k6 (fun i hi => .inr (by have := j4.size; simp at hi; omega))
  have h6 := Blk.keep h kk6 (by simp)
  have g6 := hb.keep kk6 (by simp)
  have s6 : StrRow w6 g c xs := ⟨cur, g6, r1, r2, r3, HR4.out, HR5.out⟩
  have zwp : IntKind.i64.wrap ((p : Int) + 1) = (p : Int) + 1 := by have := HN.out; rw [IntKind.wrap_i64]; omega
  have c6 : w6.cell? ⟨q, 1, none⟩ = some (.slice (some ⟨g, 0, none⟩) xs.length c) := Blk.cell h6 1
  have hqg : q ∉ [g] := by simp; exact fun e => hq e.symm
  have hD : ∀ w', Keep [] w6 w' → Calls Try.prog 31 #[.slice (some ⟨g, 0, none⟩) xs.length c, .int .i64 (p : Int), .int .i64 (IntKind.i64.wrap ((p : Int) + 1))] w' fun e w'' => e = .returned (.slice (some ⟨g, 0, none⟩) (xs.eraseIdx p).length c) ∧ StrRow w'' g c (xs.eraseIdx p) ∧ Keep [g] w' w'' := fun w' k => by
    rw [zwp]
    exact delete_call g c xs p w' ⟨cur, g6.keep k (by simp), r1, r2, r3, HR4.out, HR5.out⟩ hlt (by have := HN.out; omega)
  have b6q : w4.heap.size ≠ q := by have := Blk.lt h; have := j4.size; omega
  have b6g : w4.heap.size ∉ [g] := by have := hb.lt; have := j4.size; simp; omega
  have HB6 := Lib.hid b6
  have HH6 := Lib.hid h6
  clear b6 h6 s6 zwp
  go_region_law (go_simp; go_at_call 31; refine (hD _ ((Keep.refl _ _).drew)).mono ?_; rintro e w7 ⟨rfl, s7, k7⟩; have h7 := Blk.keep HH6.out ((Keep.refl _ _).drew.trans k7) hqg; have b7 := HB6.out.keep ((Keep.refl _ _).drew.trans k7) b6g; have f7 := Blk.frozen h7 1; have c7 : w7.cell? ⟨q, 1, none⟩ = some (.slice (some ⟨g, 0, none⟩) xs.length c) := Blk.cell h7 1)
  all_goals
    have h8 : QAt (w7.setCell ⟨q, 1, none⟩ (.slice (some ⟨g, 0, none⟩) (xs.eraseIdx p).length c)) q (.slice B n2 c2) (.slice (some ⟨g, 0, none⟩) (xs.eraseIdx p).length c) d := by simpa [QAt] using Blk.set h7 1 (.slice (some ⟨g, 0, none⟩) (xs.eraseIdx p).length c)
    have k8 : Keep [q, g] w6 (w7.setCell ⟨q, 1, none⟩ (.slice (some ⟨g, 0, none⟩) (xs.eraseIdx p).length c)) :=
      (((Keep.refl _ _).drew.trans k7).mono (by intro i _ hi; simp at hi; simp [hi])).setCell _ _ (.inl (by simp))
    have sk8 : Keep [q] w7 (w7.setCell ⟨q, 1, none⟩ (.slice (some ⟨g, 0, none⟩) (xs.eraseIdx p).length c)) := (Keep.refl [q] w7).setCell _ _ (.inl (by simp))
    generalize w7.setCell ⟨q, 1, none⟩ (.slice (some ⟨g, 0, none⟩) (xs.eraseIdx p).length c) = w8 at *
    have s8 : StrRow w8 g c (xs.eraseIdx p) := (by obtain ⟨cu, q1, q2⟩ := s7; exact ⟨cu, q1.keep sk8 (by simp; exact hq), q2⟩)
    have b8 := b7.keep sk8 (by simp; exact b6q)
    have wq := Blk.lt h
    have wg := hb.lt
    have wsz := j4.size
    have b9 := b3.keep ((k4.trans k5).new k6 (fun i hi => .inr (by have := k3.size; have := k2.size; have := k4.size; have := b3.lt; simp at hi; omega))) (by simp)
    have b10 := b9.keep k8 (by simp; omega)
    go_wp2_with (first
      | ((with_reducible refine wl_load 38 (.tmp 8) ?_ ?_); (with_reducible rfl); refine sx_loadW rfl 38 (.tmp 8) rfl w4.heap.size _ _ _ 21 rfl b8 Try.underlying38 rfl zMs_size rfl ?_; (try simp only [Act.put, List.setIfInBounds_toArray, List.set_cons_zero, List.set_cons_succ]))
      | ((with_reducible refine wl_store 38 (.tmp 4) (.tmp 66) ?_ ?_); (with_reducible rfl); refine sx_storeW rfl 38 (.tmp 4) (.tmp 66) rfl w.heap.size _ zMs _ 21 rfl rfl b10 zMs_size rfl rfl rfl ?_; intro w9 b11 k9 z9; clear z9; (try simp only [Act.put, List.setIfInBounds_toArray, List.set_cons_zero, List.set_cons_succ])))
    refine ret_cell2 rfl rfl rfl b11 Try.underlying38 rfl zMs_size _ rfl ?_
    have mA : ∀ i, i ∈ [q, g] → i ∈ [q, g, w.heap.size] := by intro i hi; simp at hi; rcases hi with rfl | rfl <;> simp
    have kA : Keep [] w4 w6 := k5.new k6 (fun i hi => .inr (by simp at hi; omega))
    have kB : Keep [q, g] w4 w8 := (kA.mono (by simp)).trans k8
    have kC : Keep [q, g, w.heap.size] w4 w9 := (kB.mono (fun i _ hi => mA i hi)).trans (k9.mono (by intro i _ hi; simp at hi; simp [hi]))
    refine ⟨_, _, _, _, by rw [HRD.out]; rfl, ?_, h8.keep k9 (by simp; omega), ?_, ?_⟩
    · rw [HRD.out]
      refine (HO.out.keep (kC.at _ ?_)).mono ?_
      · intro i hi hn
        have := k3.size; have := k2.size; have := b3.lt
        simp at hi
        unfold New at hn
        omega
      · intro i hi _
        have := k3.size; have := k2.size
        unfold New at *
        omega
    · obtain ⟨cu, q1, q2⟩ := s8
      exact ⟨cu, q1.keep k9 (by simp; omega), q2⟩
    · exact ((kk6.mono (T := [q, g]) (by simp)).trans k8).new k9 (fun i hi => .inr (by simp at hi; omega))

end Go.Proofs.Ytpndbidpennlcaa
