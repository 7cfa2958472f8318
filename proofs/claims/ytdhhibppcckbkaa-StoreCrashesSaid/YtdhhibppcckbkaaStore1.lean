import Derived.Test.YtdhhibppcckbkaaRefE
import Derived.Test.YtdhhibppcckbkaaRead7
import Derived.Test.YtdhhibppcckbkaaStrc2
namespace Go.Proofs.Ytdhhibppcckbkaa
open Go.RowKit
set_option linter.unusedVariables false
set_option linter.unusedSimpArgs false
/-! states: written, read -/
structure Stt where
  v : Int
  l : Int
abbrev stV (s : Stt) : Array Value := #[.int .i64 s.v, .int .i64 s.l]
def stF (s : Stt) : ByteArray := numF s.v ++ numF s.l
theorem stF_size (s : Stt) : (stF s).size = 8 := by simp [stF, numF_size]
abbrev zSt : Array Value := #[.int .i64 0, .int .i64 0]
theorem zSt_info : (Try.prog.info? 23).map (fun i => (i.zero, i.size)) = some (some (.agg zSt), 2) := by kernel_rfl
theorem zSt_size : (Try.prog.info? 23).map (·.size) = some 2 := by kernel_rfl
set_option maxHeartbeats 2000000 in
theorem rbytes_call (s : Stt) (w : World) : Calls Try.prog 30 #[.agg (stV s)] w fun e w' => e = .returned (.string (stF s)) ∧ Keep [] w w' := by
  obtain ⟨v, l⟩ := s
  have z1 := numF_size v
  have z2 := numF_size l
  have q1 : (9223372036854775807 < (numF v).size + (numF l).size) = False := by simp; omega
  clear z1 z2
  have c0 := (Blk.new w (stV ⟨v, l⟩) 23).cell 0
  have c1 := (Blk.new w (stV ⟨v, l⟩) 23).cell 1
  replace c0 : (w.alloc (.cells #[.int .i64 v, .int .i64 l] 23)).cell? ⟨w.heap.size, 0, none⟩ = some (.int .i64 v) := c0
  replace c1 : (w.alloc (.cells #[.int .i64 v, .int .i64 l] 23)).cell? ⟨w.heap.size, 1, none⟩ = some (.int .i64 l) := c1
  show Calls Try.prog _ #[.agg #[.int .i64 v, .int .i64 l]] w fun e w' => e = .returned (.string (numF v ++ numF l)) ∧ Keep [] w w'
  go_enter Try.func30, Try.ntmps30
  go_wp2_with fail
  refine wp_region_class (C := fun w' => Keep [] w w' ∧ w'.cell? ⟨w.heap.size, 0, none⟩ = some (.int .i64 v) ∧ w'.cell? ⟨w.heap.size, 1, none⟩ = some (.int .i64 l)) (by kernel_rfl) (by kernel_rfl) ⟨((Keep.refl _ _).alloc _).drew, c0, c1⟩ ?_
  iterate 8 (first
    | go_big_quiet_skip
    | (go_big_quiet_want; first
      | (go_big_quiet_op; go_big_quiet_on)
      | (refine quiet_run (v := ?_) ?_ ?_; (rotate_left; (intro w' hC; (try dsimp only at hC); go_split_ands; go_simp; with_reducible rfl); simp only [Act.put, List.setIfInBounds_toArray, List.set_cons_zero, List.set_cons_succ]; go_big_quiet_on))
      | (refine quiet_call (v := ?_) (f := ?_) (args := ?_) ?_ ?_ ?_; (rotate_left; rotate_left; rotate_left; (intro w' hC; (try dsimp only at hC); go_split_ands; go_simp; (refine ⟨?_, ?_⟩ <;> with_reducible rfl)); (intro w' hC; first | (go_at_call 50; (with_reducible refine (number_call _ _).mono ?_); rintro e w8 ⟨rfl, kq⟩; refine ⟨?_, Keep.trans hC.1 kq, kq.cell (by simp) hC.2.1, kq.cell (by simp) hC.2.2⟩; with_reducible rfl)); simp only [Act.put, List.setIfInBounds_toArray, List.set_cons_zero, List.set_cons_succ]; go_big_quiet_on))))
  refine wpQuiet_nil ?_
  intro w5 hC5
  have k5 := hC5.1
  clear hC5 c0 c1
  go_wp2
  go_ret
  exact ⟨rfl, k5⟩
set_option maxHeartbeats 2000000 in
theorem r8bytes_call (s : Stt) (w : World) (hv : I64 s.v) (hl : I64 s.l) : Calls Try.prog 31 #[.agg (stV s)] w fun e w' => e = .returned (.string (stF s)) ∧ Keep [] w w' := by
  obtain ⟨v, l⟩ := s
  have z1 := numF_size v
  have z2 := numF_size l
  have q1 : (9223372036854775807 < (numF v).size + (numF l).size) = False := by simp; omega
  clear z1 z2
  have hv' := Lib.hid hv
  have hl' := Lib.hid hl
  clear hv hl
  have c0 := (Blk.new w (stV ⟨v, l⟩) 23).cell 0
  have c1 := (Blk.new w (stV ⟨v, l⟩) 23).cell 1
  replace c0 : (w.alloc (.cells #[.int .i64 v, .int .i64 l] 23)).cell? ⟨w.heap.size, 0, none⟩ = some (.int .i64 v) := c0
  replace c1 : (w.alloc (.cells #[.int .i64 v, .int .i64 l] 23)).cell? ⟨w.heap.size, 1, none⟩ = some (.int .i64 l) := c1
  show Calls Try.prog _ #[.agg #[.int .i64 v, .int .i64 l]] w fun e w' => e = .returned (.string (numF v ++ numF l)) ∧ Keep [] w w'
  go_enter Try.func31, Try.ntmps31
  go_wp2_with fail
  refine wp_region_class (C := fun w' => Keep [] w w' ∧ w'.cell? ⟨w.heap.size, 0, none⟩ = some (.int .i64 v) ∧ w'.cell? ⟨w.heap.size, 1, none⟩ = some (.int .i64 l)) (by kernel_rfl) (by kernel_rfl) ⟨((Keep.refl _ _).alloc _).drew, c0, c1⟩ ?_
  iterate 8 (first
    | go_big_quiet_skip
    | (go_big_quiet_want; first
      | (go_big_quiet_op; go_big_quiet_on)
      | (refine quiet_run (v := ?_) ?_ ?_; (rotate_left; (intro w' hC; (try dsimp only at hC); go_split_ands; go_simp; with_reducible rfl); simp only [Act.put, List.setIfInBounds_toArray, List.set_cons_zero, List.set_cons_succ]; go_big_quiet_on))
      | (refine quiet_call (v := ?_) (f := ?_) (args := ?_) ?_ ?_ ?_; (rotate_left; rotate_left; rotate_left; (intro w' hC; (try dsimp only at hC); go_split_ands; go_simp; (refine ⟨?_, ?_⟩ <;> with_reducible rfl)); (intro w' hC; first | (go_at_call 34; (with_reducible refine (rnumber_call v _ hv'.out).mono ?_); rintro e w8 ⟨rfl, kq⟩; refine ⟨?_, Keep.trans hC.1 kq, kq.cell (by simp) hC.2.1, kq.cell (by simp) hC.2.2⟩; with_reducible rfl) | (go_at_call 34; (with_reducible refine (rnumber_call l _ hl'.out).mono ?_); rintro e w8 ⟨rfl, kq⟩; refine ⟨?_, Keep.trans hC.1 kq, kq.cell (by simp) hC.2.1, kq.cell (by simp) hC.2.2⟩; with_reducible rfl)); simp only [Act.put, List.setIfInBounds_toArray, List.set_cons_zero, List.set_cons_succ]; go_big_quiet_on))))
  refine wpQuiet_nil ?_
  intro w5 hC5
  have k5 := hC5.1
  clear hC5 c0 c1
  go_wp2
  go_ret
  exact ⟨rfl, k5⟩
def recF (s : Stt) : ByteArray := ⟨#[83]⟩ ++ stF s
def brecF (b : Bk) : ByteArray := ⟨#[66]⟩ ++ blockF b
theorem record_call (s : Stt) (w : World) : Calls Try.prog 10 #[.agg (stV s)] w fun e w' => e = .returned (.string (recF s)) ∧ Keep [] w w' := by
  have z1 := stF_size s
  have q1 : (9223372036854775807 < 1 + (stF s).size) = False := by simp; omega
  clear z1
  have b1 := Blk.new w (stV s) 23
  have c0 : (w.alloc (.cells #[.int .i64 s.v, .int .i64 s.l] 23)).cell? ⟨w.heap.size, 0, none⟩ = some (.int .i64 s.v) := b1.cell 0
  have c1 : (w.alloc (.cells #[.int .i64 s.v, .int .i64 s.l] 23)).cell? ⟨w.heap.size, 1, none⟩ = some (.int .i64 s.l) := b1.cell 1
  clear b1
  go_enter Try.func10, Try.ntmps10
  go_wp2_with fail
  refine (rbytes_call s _).mono ?_
  rintro e w1 ⟨rfl, k1⟩
  go_wp2
  go_ret
  exact ⟨rfl, ((Keep.refl _ _).alloc _).trans k1⟩
theorem rrecord_call (s : Stt) (w : World) (hv : I64 s.v) (hl : I64 s.l) : Calls Try.prog 11 #[.agg (stV s)] w fun e w' => e = .returned (.string (recF s)) ∧ Keep [] w w' := by
  have z1 := stF_size s
  have q1 : (9223372036854775807 < 1 + (stF s).size) = False := by simp; omega
  clear z1
  have hv' := Lib.hid hv
  have hl' := Lib.hid hl
  clear hv hl
  have b1 := Blk.new w (stV s) 23
  have c0 : (w.alloc (.cells #[.int .i64 s.v, .int .i64 s.l] 23)).cell? ⟨w.heap.size, 0, none⟩ = some (.int .i64 s.v) := b1.cell 0
  have c1 : (w.alloc (.cells #[.int .i64 s.v, .int .i64 s.l] 23)).cell? ⟨w.heap.size, 1, none⟩ = some (.int .i64 s.l) := b1.cell 1
  clear b1
  go_enter Try.func11, Try.ntmps11
  go_wp2_with fail
  refine (r8bytes_call s _ hv'.out hl'.out).mono ?_
  rintro e w1 ⟨rfl, k1⟩
  go_wp2
  go_ret
  exact ⟨rfl, ((Keep.refl _ _).alloc _).trans k1⟩
abbrev bkV (x : Bk) (v u : Value) : Array Value := #[.int .i64 x.v, .int .i64 x.p, .int .i64 x.j.v, .string x.j.h, v, u]
theorem Blk.sixC {w : World} {g t : Nat} {x : Bk} {A B : Option Addr} {c d : Nat} (h : Blk w g (bkV x (.slice A x.j.sg.length c) (.slice B x.q.length d)) t) : w.cell? ⟨g, 0, none⟩ = some (.int .i64 x.v) ∧ w.cell? ⟨g, 1, none⟩ = some (.int .i64 x.p) ∧ w.cell? ⟨g, 2, none⟩ = some (.int .i64 x.j.v) ∧ w.cell? ⟨g, 3, none⟩ = some (.string x.j.h) ∧
    w.cell? ⟨g, 4, none⟩ = some (.slice A x.j.sg.length c) ∧ w.cell? ⟨g, 5, none⟩ = some (.slice B x.q.length d) := ⟨h.cell 0, h.cell 1, h.cell 2, h.cell 3, h.cell 4, h.cell 5⟩
set_option maxHeartbeats 1000000 in
theorem brecord_call (x : Bk) (v u : Value) (F : Nat → Prop) (w : World) (h : SliceOf Rep.sg w F v x.j.sg) (h2 : SliceOf Rep.req w F u x.q) (hs : (blockF x).size ≤ 1000000) :
    Calls Try.prog 12 #[.agg (bkV x v u)] w fun e w' => e = .returned (.string (brecF x)) ∧ Keep [] w w' := by
  obtain ⟨A, c, rfl, hl⟩ := h.form
  obtain ⟨B, d, rfl, hd⟩ := h2.form
  have q1 : (9223372036854775807 < 1 + (blockF x).size) = False := by simp; omega
  have hs' := Lib.hid hs
  have H := Lib.hid h
  have H2 := Lib.hid h2
  clear hs h h2
  obtain ⟨c0, c1, c2, c3, c4, c5⟩ := Blk.sixC (Blk.new w (bkV x (.slice A x.j.sg.length c) (.slice B x.q.length d)) 29)
  go_enter Try.func12, Try.ntmps12
  go_wp2_with fail
  have k0 : Keep [] w (w.alloc (.cells (bkV x (.slice A x.j.sg.length c) (.slice B x.q.length d)) 29)) := (Keep.refl _ _).alloc _
  refine (block_call x _ _ F _ (H.out.keep (k0.at F (by simp))) (H2.out.keep (k0.at F (by simp))) (by have := hs'.out; omega)).mono ?_
  rintro e w1 ⟨rfl, k1⟩
  go_wp2
  go_ret
  exact ⟨rfl, k0.trans k1⟩
set_option maxHeartbeats 1000000 in
theorem rbrecord_call (x : Bk) (v u : Value) (F : Nat → Prop) (w : World) (h : SliceOf Rep.sg w F v x.j.sg) (h2 : SliceOf Rep.req w F u x.q) (hv : I64 x.v) (hp : I64 x.p) (hj : I64 x.j.v) (hs : (blockF x).size ≤ 1000000) :
    Calls Try.prog 13 #[.agg (bkV x v u)] w fun e w' => e = .returned (.string (brecF x)) ∧ Keep [] w w' := by
  obtain ⟨A, c, rfl, hl⟩ := h.form
  obtain ⟨B, d, rfl, hd⟩ := h2.form
  have q1 : (9223372036854775807 < 1 + (blockF x).size) = False := by simp; omega
  have hs' := Lib.hid hs
  have H := Lib.hid h
  have H2 := Lib.hid h2
  have hv' := Lib.hid hv
  have hp' := Lib.hid hp
  have hj' := Lib.hid hj
  clear hs h h2 hv hp hj
  obtain ⟨c0, c1, c2, c3, c4, c5⟩ := Blk.sixC (Blk.new w (bkV x (.slice A x.j.sg.length c) (.slice B x.q.length d)) 29)
  go_enter Try.func13, Try.ntmps13
  go_wp2_with fail
  have k0 : Keep [] w (w.alloc (.cells (bkV x (.slice A x.j.sg.length c) (.slice B x.q.length d)) 29)) := (Keep.refl _ _).alloc _
  refine (rblock_call x _ _ F _ (H.out.keep (k0.at F (by simp))) (H2.out.keep (k0.at F (by simp))) hv'.out hp'.out hj'.out (by have := hs'.out; omega)).mono ?_
  rintro e w1 ⟨rfl, k1⟩
  go_wp2
  go_ret
  exact ⟨rfl, k0.trans k1⟩
set_option maxHeartbeats 1000000 in
theorem rnum_call (t : ByteArray) (w : World) (ht : t.size = 4) : Calls Try.prog 55 #[.string t] w fun e w' => e = .returned (.int .i64 (be t.data.toList)) ∧ Keep [] w w' := by
  obtain ⟨w2, c, hcv, k2, hcell⟩ := conv_bytes w t
  have hlen : t.size ≤ 4 := by omega
  clear ht
  go_enter Try.func55, Try.ntmps55
  go_wp2
  go_loop [3, 9] (fun n i => ∃ k : Nat, k ≤ t.size ∧ i = .int .i64 k ∧ n = .int .i64 (be (t.data.toList.take k))) (fun _ i => t.size - (intOf i).toNat)
  case atStart => exact ⟨0, Nat.zero_le _, rfl, rfl⟩
  case round =>
    obtain ⟨k, hk, rfl, rfl⟩ := hrel
    by_cases hlt : k < t.size
    · have hc := hcell k hlt
      have hb := be_bound (t.data.toList.take k) 3 (by simp; omega)
      have HS := Lib.hid (be_take t k hlt)
      have HO := Lib.hid (or_byte (be (t.data.toList.take k)) t.data[k].toNat hb.1 hb.2 (t.data[k].toNat_lt))
      go_wp2
      go_round
      case rel => exact ⟨k + 1, by omega, by go_num, by rw [HS.out, HO.out]⟩
      case measure => simp [intOf]; omega
    · have hk' : k = t.size := by omega
      subst hk'
      have ht : be (t.data.toList.take t.size) = be t.data.toList := by rw [List.take_of_length_le (by simp)]
      rw [ht]
      clear ht hcell hcv
      go_wp2
      go_ret
      exact ⟨rfl, k2⟩
def gtF (a b : Stt) : Stt := ⟨max a.v b.v, max a.l b.l⟩
end Go.Proofs.Ytdhhibppcckbkaa
