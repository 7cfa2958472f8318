import Derived.Test.YtpndbidpennlcaaWireM2
import Derived.Test.YtpndbidpennlcaaThyM
namespace Go.Proofs.Ytpndbidpennlcaa
open Go.RowKit
set_option linter.unusedVariables false
set_option linter.unusedSimpArgs false
theorem ret_str {a b : ByteArray} (h : a = b) : Ending.returned (.string a) = .returned (.string b) := by rw [h]
set_option maxHeartbeats 4000000 in
theorem rmsg_call (x : Ms) (v1 v2 v3 v4 : Value) (F : Nat → Prop) (w : World) (h : MsOk w F x v1 v2 v3 v4) (hs : MsSz x) :
    Calls Try.prog 8 #[.agg (msgV x v1 v2 v3 v4)] w fun e w' => e = .returned (.string (msgF x)) ∧ Keep [] w w' := by
  obtain ⟨hk, hf, ht, hv, hh, hbv, hbp, hbj, hbh, hbs, hbq, hcv, hch, hcs, hsf, hst, hrc, hrs, hrb, hi, hg⟩ := h
  obtain ⟨sb, sc, ss⟩ := hs
  unfold M47 at hh hbh hch hrb hg
  have z0 := numF_size x.k
  have z1 := numF_size x.f
  have z2 := numF_size x.t
  have z3 := numF_size x.v
  have z4 : (textF x.h).size = 4 + (x.h).size := by unfold textF; rw [ByteArray.size_append, numF_size]
  have z5 := maybeF_le (zeroBlock x.b) (blockF x.b)
  have z6 := maybeF_le (zeroCert x.c) (certF x.c)
  have z7 := maybeF_le (zeroSig x.s) (sigF x.s)
  have z8 := maybeF_le (zeroReq x.r) (reqF x.r)
  have z9 := numF_size x.i
  have z10 : (textF x.g).size = 4 + (x.g).size := by unfold textF; rw [ByteArray.size_append, numF_size]
  have zr : (reqF x.r).size = 12 + x.r.b.size := by unfold reqF textF; simp only [ByteArray.size_append, numF_size]; omega
  have q1 : (9223372036854775807 < (numF x.k).size + (numF x.f).size) = False := by simp; omega
  have q2 : (9223372036854775807 < (numF x.k).size + (numF x.f).size + (numF x.t).size) = False := by simp; omega
  have q3 : (9223372036854775807 < (numF x.k).size + (numF x.f).size + (numF x.t).size + (numF x.v).size) = False := by simp; omega
  have q4 : (9223372036854775807 < (numF x.k).size + (numF x.f).size + (numF x.t).size + (numF x.v).size + (textF x.h).size) = False := by simp; omega
  have q5 : (9223372036854775807 < (maybeF (zeroBlock x.b) (blockF x.b)).size + (maybeF (zeroCert x.c) (certF x.c)).size) = False := by simp; omega
  have q6 : (9223372036854775807 < (maybeF (zeroBlock x.b) (blockF x.b)).size + (maybeF (zeroCert x.c) (certF x.c)).size + (maybeF (zeroSig x.s) (sigF x.s)).size) = False := by simp; omega
  have q7 : (9223372036854775807 < (numF x.k).size + (numF x.f).size + (numF x.t).size + (numF x.v).size + (textF x.h).size + ((maybeF (zeroBlock x.b) (blockF x.b)).size + (maybeF (zeroCert x.c) (certF x.c)).size + (maybeF (zeroSig x.s) (sigF x.s)).size)) = False := by simp; omega
  have q8 : (9223372036854775807 < (numF x.k).size + (numF x.f).size + (numF x.t).size + (numF x.v).size + (textF x.h).size + ((maybeF (zeroBlock x.b) (blockF x.b)).size + (maybeF (zeroCert x.c) (certF x.c)).size + (maybeF (zeroSig x.s) (sigF x.s)).size) + (maybeF (zeroReq x.r) (reqF x.r)).size) = False := by simp; omega
  have q9 : (9223372036854775807 < (numF x.k).size + (numF x.f).size + (numF x.t).size + (numF x.v).size + (textF x.h).size + ((maybeF (zeroBlock x.b) (blockF x.b)).size + (maybeF (zeroCert x.c) (certF x.c)).size + (maybeF (zeroSig x.s) (sigF x.s)).size) + (maybeF (zeroReq x.r) (reqF x.r)).size + (numF x.i).size) = False := by simp; omega
  have q10 : (9223372036854775807 < (numF x.k).size + (numF x.f).size + (numF x.t).size + (numF x.v).size + (textF x.h).size + ((maybeF (zeroBlock x.b) (blockF x.b)).size + (maybeF (zeroCert x.c) (certF x.c)).size + (maybeF (zeroSig x.s) (sigF x.s)).size) + (maybeF (zeroReq x.r) (reqF x.r)).size + (numF x.i).size + (textF x.g).size) = False := by simp; omega
  have sr : (reqF x.r).size ≤ 4611686018427387904 := by omega
  have sb' : (blockF x.b).size ≤ 4611686018427387904 := by omega
  have sc' : (certF x.c).size ≤ 4611686018427387904 := by omega
  have ss' : (sigF x.s).size ≤ 4611686018427387904 := by omega
  have sh : x.h.size ≤ 4611686018427387904 := by omega
  have sg : x.g.size ≤ 4611686018427387904 := by omega
  have srb : x.r.b.size ≤ 4611686018427387904 := by omega
  clear z0 z1 z2 z3 z4 z5 z6 z7 z8 z9 z10 zr
  obtain ⟨A1, c1, rfl, l1⟩ := hbs.form
  obtain ⟨A2, c2, rfl, l2⟩ := hbq.form
  obtain ⟨A3, c3, rfl, l3⟩ := hcs.form
  obtain ⟨A4, c4, rfl, l4⟩ := hst.form
  have hc := MsAt.of (Blk.new w (msgV x (.slice A1 x.b.j.sg.length c1) (.slice A2 x.b.q.length c2) (.slice A3 x.c.sg.length c3) (.slice A4 x.s.ts.length c4)) 38)
  unfold msgV at hc
  dsimp only [msgV]
  go_enter Try.func8, Try.ntmps8
  go_wp2_with fail
  refine wp_region_class (C := fun w' => Keep [] w w' ∧ w'.cell? ⟨w.heap.size, 0, none⟩ = some (.int .i64 x.k) ∧ w'.cell? ⟨w.heap.size, 1, none⟩ = some (.int .i64 x.f) ∧ w'.cell? ⟨w.heap.size, 2, none⟩ = some (.int .i64 x.t) ∧ w'.cell? ⟨w.heap.size, 3, none⟩ = some (.int .i64 x.v) ∧ w'.cell? ⟨w.heap.size, 4, none⟩ = some (.string x.h) ∧ w'.cell? ⟨w.heap.size, 5, none⟩ = some (.int .i64 x.b.v) ∧ w'.cell? ⟨w.heap.size, 6, none⟩ = some (.int .i64 x.b.p) ∧ w'.cell? ⟨w.heap.size, 7, none⟩ = some (.int .i64 x.b.j.v) ∧ w'.cell? ⟨w.heap.size, 8, none⟩ = some (.string x.b.j.h) ∧ w'.cell? ⟨w.heap.size, 9, none⟩ = some (.slice A1 x.b.j.sg.length c1) ∧ w'.cell? ⟨w.heap.size, 10, none⟩ = some (.slice A2 x.b.q.length c2) ∧ w'.cell? ⟨w.heap.size, 11, none⟩ = some (.int .i64 x.c.v) ∧ w'.cell? ⟨w.heap.size, 12, none⟩ = some (.string x.c.h) ∧ w'.cell? ⟨w.heap.size, 13, none⟩ = some (.slice A3 x.c.sg.length c3) ∧ w'.cell? ⟨w.heap.size, 14, none⟩ = some (.int .i64 x.s.f) ∧ w'.cell? ⟨w.heap.size, 15, none⟩ = some (.slice A4 x.s.ts.length c4) ∧ w'.cell? ⟨w.heap.size, 16, none⟩ = some (.int .i64 x.r.c) ∧ w'.cell? ⟨w.heap.size, 17, none⟩ = some (.int .i64 x.r.s) ∧ w'.cell? ⟨w.heap.size, 18, none⟩ = some (.string x.r.b) ∧ w'.cell? ⟨w.heap.size, 19, none⟩ = some (.int .i64 x.i) ∧ w'.cell? ⟨w.heap.size, 20, none⟩ = some (.string x.g)) (by kernel_rfl) (by kernel_rfl) ⟨((Keep.refl _ _).alloc _).drew, hc⟩ ?_
  iterate 20 (first
    | go_big_quiet_skip
    | (go_big_quiet_want; first
      | (go_big_quiet_op; go_big_quiet_on)
      | (refine quiet_run (v := ?_) ?_ ?_; (rotate_left; (intro w' hC; (try dsimp only at hC); go_split_ands; go_simp; with_reducible rfl); simp only [Act.put, List.setIfInBounds_toArray, List.set_cons_zero, List.set_cons_succ]; go_big_quiet_on))
      | (refine quiet_call (v := ?_) (f := ?_) (args := ?_) ?_ ?_ ?_; (rotate_left; rotate_left; rotate_left; (intro w' hC; (try dsimp only at hC); go_split_ands; go_simp; (refine ⟨?_, ?_⟩ <;> with_reducible rfl)); (intro w' hC; first | (go_at_call 19; (with_reducible refine (rnumber_call _ _ hk).mono ?_); rintro e w8 ⟨rfl, kq⟩; refine ⟨?_, Keep.trans hC.1 kq, MsAt.keep hC.2 kq (by simp)⟩; with_reducible rfl) | (go_at_call 19; (with_reducible refine (rnumber_call _ _ hf).mono ?_); rintro e w8 ⟨rfl, kq⟩; refine ⟨?_, Keep.trans hC.1 kq, MsAt.keep hC.2 kq (by simp)⟩; with_reducible rfl) | (go_at_call 19; (with_reducible refine (rnumber_call _ _ ht).mono ?_); rintro e w8 ⟨rfl, kq⟩; refine ⟨?_, Keep.trans hC.1 kq, MsAt.keep hC.2 kq (by simp)⟩; with_reducible rfl) | (go_at_call 19; (with_reducible refine (rnumber_call _ _ hv).mono ?_); rintro e w8 ⟨rfl, kq⟩; refine ⟨?_, Keep.trans hC.1 kq, MsAt.keep hC.2 kq (by simp)⟩; with_reducible rfl) | (go_at_call 19; (with_reducible refine (rnumber_call _ _ hi).mono ?_); rintro e w8 ⟨rfl, kq⟩; refine ⟨?_, Keep.trans hC.1 kq, MsAt.keep hC.2 kq (by simp)⟩; with_reducible rfl) | (go_at_call 20; (with_reducible refine (rtext_call x.h _ sh).mono ?_); rintro e w8 ⟨rfl, kq⟩; refine ⟨?_, Keep.trans hC.1 kq, MsAt.keep hC.2 kq (by simp)⟩; with_reducible rfl) | (go_at_call 20; (with_reducible refine (rtext_call x.g _ sg).mono ?_); rintro e w8 ⟨rfl, kq⟩; refine ⟨?_, Keep.trans hC.1 kq, MsAt.keep hC.2 kq (by simp)⟩; with_reducible rfl)); simp only [Act.put, List.setIfInBounds_toArray, List.set_cons_zero, List.set_cons_succ]; go_big_quiet_on))))
  refine wpQuiet_nil ?_
  intro w1 hC1
  clear hc
  go_wp2_with fail
  refine wp_region_class (C := fun w' => Keep [] w w' ∧ w'.cell? ⟨w.heap.size, 0, none⟩ = some (.int .i64 x.k) ∧ w'.cell? ⟨w.heap.size, 1, none⟩ = some (.int .i64 x.f) ∧ w'.cell? ⟨w.heap.size, 2, none⟩ = some (.int .i64 x.t) ∧ w'.cell? ⟨w.heap.size, 3, none⟩ = some (.int .i64 x.v) ∧ w'.cell? ⟨w.heap.size, 4, none⟩ = some (.string x.h) ∧ w'.cell? ⟨w.heap.size, 5, none⟩ = some (.int .i64 x.b.v) ∧ w'.cell? ⟨w.heap.size, 6, none⟩ = some (.int .i64 x.b.p) ∧ w'.cell? ⟨w.heap.size, 7, none⟩ = some (.int .i64 x.b.j.v) ∧ w'.cell? ⟨w.heap.size, 8, none⟩ = some (.string x.b.j.h) ∧ w'.cell? ⟨w.heap.size, 9, none⟩ = some (.slice A1 x.b.j.sg.length c1) ∧ w'.cell? ⟨w.heap.size, 10, none⟩ = some (.slice A2 x.b.q.length c2) ∧ w'.cell? ⟨w.heap.size, 11, none⟩ = some (.int .i64 x.c.v) ∧ w'.cell? ⟨w.heap.size, 12, none⟩ = some (.string x.c.h) ∧ w'.cell? ⟨w.heap.size, 13, none⟩ = some (.slice A3 x.c.sg.length c3) ∧ w'.cell? ⟨w.heap.size, 14, none⟩ = some (.int .i64 x.s.f) ∧ w'.cell? ⟨w.heap.size, 15, none⟩ = some (.slice A4 x.s.ts.length c4) ∧ w'.cell? ⟨w.heap.size, 16, none⟩ = some (.int .i64 x.r.c) ∧ w'.cell? ⟨w.heap.size, 17, none⟩ = some (.int .i64 x.r.s) ∧ w'.cell? ⟨w.heap.size, 18, none⟩ = some (.string x.r.b) ∧ w'.cell? ⟨w.heap.size, 19, none⟩ = some (.int .i64 x.i) ∧ w'.cell? ⟨w.heap.size, 20, none⟩ = some (.string x.g)) (by kernel_rfl) (by kernel_rfl) ⟨hC1.1.drew, hC1.2⟩ ?_
  iterate 26 (first
    | go_big_quiet_skip
    | (go_big_quiet_want; first
      | (go_big_quiet_op; go_big_quiet_on)
      | (refine quiet_run (v := ?_) ?_ ?_; (rotate_left; (intro w' hC; (try dsimp only at hC); go_split_ands; go_simp; with_reducible rfl); simp only [Act.put, List.setIfInBounds_toArray, List.set_cons_zero, List.set_cons_succ]; go_big_quiet_on))
      | (refine quiet_call (v := ?_) (f := ?_) (args := ?_) ?_ ?_ ?_; (rotate_left; rotate_left; rotate_left; (intro w' hC; (try dsimp only at hC); go_split_ands; go_simp; (refine ⟨?_, ?_⟩ <;> with_reducible rfl)); (intro w' hC; first | (go_at_call 22; (with_reducible refine (zeroBlock_call x.b A1 A2 c1 c2 _).mono ?_); rintro e w8 ⟨rfl, kq⟩; refine ⟨?_, Keep.trans hC.1 kq, MsAt.keep hC.2 kq (by simp)⟩; with_reducible rfl) | (go_at_call 23; (with_reducible refine (rblock_call x.b _ _ F _ (hbs.keep (Keep.at hC.1 F (by simp))) (hbq.keep (Keep.at hC.1 F (by simp))) hbv hbp hbj sb').mono ?_); rintro e w8 ⟨rfl, kq⟩; refine ⟨?_, Keep.trans hC.1 kq, MsAt.keep hC.2 kq (by simp)⟩; with_reducible rfl) | (go_at_call 24; (with_reducible refine (zeroCert_call x.c A3 c3 _).mono ?_); rintro e w8 ⟨rfl, kq⟩; refine ⟨?_, Keep.trans hC.1 kq, MsAt.keep hC.2 kq (by simp)⟩; with_reducible rfl) | (go_at_call 25; (with_reducible refine (rcert_call x.c _ F _ (hcs.keep (Keep.at hC.1 F (by simp))) hcv sc').mono ?_); rintro e w8 ⟨rfl, kq⟩; refine ⟨?_, Keep.trans hC.1 kq, MsAt.keep hC.2 kq (by simp)⟩; with_reducible rfl) | (go_at_call 26; (with_reducible refine (zeroSig_call x.s A4 c4 _).mono ?_); rintro e w8 ⟨rfl, kq⟩; refine ⟨?_, Keep.trans hC.1 kq, MsAt.keep hC.2 kq (by simp)⟩; with_reducible rfl) | (go_at_call 27; (with_reducible refine (rsig_call x.s _ F _ (hst.keep (Keep.at hC.1 F (by simp))) hsf ss').mono ?_); rintro e w8 ⟨rfl, kq⟩; refine ⟨?_, Keep.trans hC.1 kq, MsAt.keep hC.2 kq (by simp)⟩; with_reducible rfl) | (go_at_call 28; (with_reducible refine (rrequest_call x.r _ hrc hrs srb).mono ?_); rintro e w8 ⟨rfl, kq⟩; refine ⟨?_, Keep.trans hC.1 kq, MsAt.keep hC.2 kq (by simp)⟩; with_reducible rfl) | (go_at_call 21; (with_reducible refine (maybe_call (zeroBlock x.b) (blockF x.b) _ sb').mono ?_); rintro e w8 ⟨rfl, kq⟩; refine ⟨?_, Keep.trans hC.1 kq, MsAt.keep hC.2 kq (by simp)⟩; with_reducible rfl) | (go_at_call 21; (with_reducible refine (maybe_call (zeroCert x.c) (certF x.c) _ sc').mono ?_); rintro e w8 ⟨rfl, kq⟩; refine ⟨?_, Keep.trans hC.1 kq, MsAt.keep hC.2 kq (by simp)⟩; with_reducible rfl) | (go_at_call 21; (with_reducible refine (maybe_call (zeroSig x.s) (sigF x.s) _ ss').mono ?_); rintro e w8 ⟨rfl, kq⟩; refine ⟨?_, Keep.trans hC.1 kq, MsAt.keep hC.2 kq (by simp)⟩; with_reducible rfl) | (go_at_call 21; (with_reducible refine (maybe_call _ (reqF x.r) _ sr).mono ?_); rintro e w8 ⟨rfl, kq⟩; refine ⟨?_, Keep.trans hC.1 kq, MsAt.keep hC.2 kq (by simp)⟩; with_reducible rfl)); simp only [Act.put, List.setIfInBounds_toArray, List.set_cons_zero, List.set_cons_succ]; go_big_quiet_on))))
  refine wpQuiet_nil ?_
  intro w2 hC2
  clear hC1
  go_wp2_with fail
  refine wp_region_class (C := fun w' => Keep [] w w' ∧ w'.cell? ⟨w.heap.size, 0, none⟩ = some (.int .i64 x.k) ∧ w'.cell? ⟨w.heap.size, 1, none⟩ = some (.int .i64 x.f) ∧ w'.cell? ⟨w.heap.size, 2, none⟩ = some (.int .i64 x.t) ∧ w'.cell? ⟨w.heap.size, 3, none⟩ = some (.int .i64 x.v) ∧ w'.cell? ⟨w.heap.size, 4, none⟩ = some (.string x.h) ∧ w'.cell? ⟨w.heap.size, 5, none⟩ = some (.int .i64 x.b.v) ∧ w'.cell? ⟨w.heap.size, 6, none⟩ = some (.int .i64 x.b.p) ∧ w'.cell? ⟨w.heap.size, 7, none⟩ = some (.int .i64 x.b.j.v) ∧ w'.cell? ⟨w.heap.size, 8, none⟩ = some (.string x.b.j.h) ∧ w'.cell? ⟨w.heap.size, 9, none⟩ = some (.slice A1 x.b.j.sg.length c1) ∧ w'.cell? ⟨w.heap.size, 10, none⟩ = some (.slice A2 x.b.q.length c2) ∧ w'.cell? ⟨w.heap.size, 11, none⟩ = some (.int .i64 x.c.v) ∧ w'.cell? ⟨w.heap.size, 12, none⟩ = some (.string x.c.h) ∧ w'.cell? ⟨w.heap.size, 13, none⟩ = some (.slice A3 x.c.sg.length c3) ∧ w'.cell? ⟨w.heap.size, 14, none⟩ = some (.int .i64 x.s.f) ∧ w'.cell? ⟨w.heap.size, 15, none⟩ = some (.slice A4 x.s.ts.length c4) ∧ w'.cell? ⟨w.heap.size, 16, none⟩ = some (.int .i64 x.r.c) ∧ w'.cell? ⟨w.heap.size, 17, none⟩ = some (.int .i64 x.r.s) ∧ w'.cell? ⟨w.heap.size, 18, none⟩ = some (.string x.r.b) ∧ w'.cell? ⟨w.heap.size, 19, none⟩ = some (.int .i64 x.i) ∧ w'.cell? ⟨w.heap.size, 20, none⟩ = some (.string x.g)) (by kernel_rfl) (by kernel_rfl) ⟨hC2.1.drew, hC2.2⟩ ?_
  iterate 4 (first
    | go_big_quiet_skip
    | (go_big_quiet_want; first
      | (go_big_quiet_op; go_big_quiet_on)
      | (refine quiet_run (v := ?_) ?_ ?_; (rotate_left; (intro w' hC; (try dsimp only at hC); go_split_ands; go_simp; with_reducible rfl); simp only [Act.put, List.setIfInBounds_toArray, List.set_cons_zero, List.set_cons_succ]; go_big_quiet_on))
      | (refine quiet_call (v := ?_) (f := ?_) (args := ?_) ?_ ?_ ?_; (rotate_left; rotate_left; rotate_left; (intro w' hC; (try dsimp only at hC); go_split_ands; go_simp; (refine ⟨?_, ?_⟩ <;> with_reducible rfl)); (intro w' hC; first | (go_at_call 22; (with_reducible refine (zeroBlock_call x.b A1 A2 c1 c2 _).mono ?_); rintro e w8 ⟨rfl, kq⟩; refine ⟨?_, Keep.trans hC.1 kq, MsAt.keep hC.2 kq (by simp)⟩; with_reducible rfl) | (go_at_call 23; (with_reducible refine (rblock_call x.b _ _ F _ (hbs.keep (Keep.at hC.1 F (by simp))) (hbq.keep (Keep.at hC.1 F (by simp))) hbv hbp hbj sb').mono ?_); rintro e w8 ⟨rfl, kq⟩; refine ⟨?_, Keep.trans hC.1 kq, MsAt.keep hC.2 kq (by simp)⟩; with_reducible rfl) | (go_at_call 24; (with_reducible refine (zeroCert_call x.c A3 c3 _).mono ?_); rintro e w8 ⟨rfl, kq⟩; refine ⟨?_, Keep.trans hC.1 kq, MsAt.keep hC.2 kq (by simp)⟩; with_reducible rfl) | (go_at_call 25; (with_reducible refine (rcert_call x.c _ F _ (hcs.keep (Keep.at hC.1 F (by simp))) hcv sc').mono ?_); rintro e w8 ⟨rfl, kq⟩; refine ⟨?_, Keep.trans hC.1 kq, MsAt.keep hC.2 kq (by simp)⟩; with_reducible rfl) | (go_at_call 26; (with_reducible refine (zeroSig_call x.s A4 c4 _).mono ?_); rintro e w8 ⟨rfl, kq⟩; refine ⟨?_, Keep.trans hC.1 kq, MsAt.keep hC.2 kq (by simp)⟩; with_reducible rfl) | (go_at_call 27; (with_reducible refine (rsig_call x.s _ F _ (hst.keep (Keep.at hC.1 F (by simp))) hsf ss').mono ?_); rintro e w8 ⟨rfl, kq⟩; refine ⟨?_, Keep.trans hC.1 kq, MsAt.keep hC.2 kq (by simp)⟩; with_reducible rfl) | (go_at_call 28; (with_reducible refine (rrequest_call x.r _ hrc hrs srb).mono ?_); rintro e w8 ⟨rfl, kq⟩; refine ⟨?_, Keep.trans hC.1 kq, MsAt.keep hC.2 kq (by simp)⟩; with_reducible rfl) | (go_at_call 21; (with_reducible refine (maybe_call (zeroBlock x.b) (blockF x.b) _ sb').mono ?_); rintro e w8 ⟨rfl, kq⟩; refine ⟨?_, Keep.trans hC.1 kq, MsAt.keep hC.2 kq (by simp)⟩; with_reducible rfl) | (go_at_call 21; (with_reducible refine (maybe_call (zeroCert x.c) (certF x.c) _ sc').mono ?_); rintro e w8 ⟨rfl, kq⟩; refine ⟨?_, Keep.trans hC.1 kq, MsAt.keep hC.2 kq (by simp)⟩; with_reducible rfl) | (go_at_call 21; (with_reducible refine (maybe_call (zeroSig x.s) (sigF x.s) _ ss').mono ?_); rintro e w8 ⟨rfl, kq⟩; refine ⟨?_, Keep.trans hC.1 kq, MsAt.keep hC.2 kq (by simp)⟩; with_reducible rfl) | (go_at_call 21; (with_reducible refine (maybe_call _ (reqF x.r) _ sr).mono ?_); rintro e w8 ⟨rfl, kq⟩; refine ⟨?_, Keep.trans hC.1 kq, MsAt.keep hC.2 kq (by simp)⟩; with_reducible rfl)); simp only [Act.put, List.setIfInBounds_toArray, List.set_cons_zero, List.set_cons_succ]; go_big_quiet_on))))
  go_big_quiet_want
  refine quiet_run (v := .bool (zeroReq x.r)) ?_ ?_
  · intro w' hC
    (try dsimp only at hC)
    go_split_ands
    go_simp
    have e0 : (ByteArray.mk #[]).toList = [] := by rw [ByteArray.toList_eq]
    unfold zeroReq eqReq
    by_cases h1 : x.r.c = 0 <;> by_cases h2 : x.r.s = 0 <;> by_cases h3 : x.r.b.toList = [] <;> simp [h1, h2, h3, e0]
  simp only [Act.put, List.setIfInBounds_toArray, List.set_cons_zero, List.set_cons_succ]
  go_big_quiet_on
  iterate 6 (first
    | go_big_quiet_skip
    | (go_big_quiet_want; first
      | (go_big_quiet_op; go_big_quiet_on)
      | (refine quiet_run (v := ?_) ?_ ?_; (rotate_left; (intro w' hC; (try dsimp only at hC); go_split_ands; go_simp; with_reducible rfl); simp only [Act.put, List.setIfInBounds_toArray, List.set_cons_zero, List.set_cons_succ]; go_big_quiet_on))
      | (refine quiet_call (v := ?_) (f := ?_) (args := ?_) ?_ ?_ ?_; (rotate_left; rotate_left; rotate_left; (intro w' hC; (try dsimp only at hC); go_split_ands; go_simp; (refine ⟨?_, ?_⟩ <;> with_reducible rfl)); (intro w' hC; first | (go_at_call 22; (with_reducible refine (zeroBlock_call x.b A1 A2 c1 c2 _).mono ?_); rintro e w8 ⟨rfl, kq⟩; refine ⟨?_, Keep.trans hC.1 kq, MsAt.keep hC.2 kq (by simp)⟩; with_reducible rfl) | (go_at_call 23; (with_reducible refine (rblock_call x.b _ _ F _ (hbs.keep (Keep.at hC.1 F (by simp))) (hbq.keep (Keep.at hC.1 F (by simp))) hbv hbp hbj sb').mono ?_); rintro e w8 ⟨rfl, kq⟩; refine ⟨?_, Keep.trans hC.1 kq, MsAt.keep hC.2 kq (by simp)⟩; with_reducible rfl) | (go_at_call 24; (with_reducible refine (zeroCert_call x.c A3 c3 _).mono ?_); rintro e w8 ⟨rfl, kq⟩; refine ⟨?_, Keep.trans hC.1 kq, MsAt.keep hC.2 kq (by simp)⟩; with_reducible rfl) | (go_at_call 25; (with_reducible refine (rcert_call x.c _ F _ (hcs.keep (Keep.at hC.1 F (by simp))) hcv sc').mono ?_); rintro e w8 ⟨rfl, kq⟩; refine ⟨?_, Keep.trans hC.1 kq, MsAt.keep hC.2 kq (by simp)⟩; with_reducible rfl) | (go_at_call 26; (with_reducible refine (zeroSig_call x.s A4 c4 _).mono ?_); rintro e w8 ⟨rfl, kq⟩; refine ⟨?_, Keep.trans hC.1 kq, MsAt.keep hC.2 kq (by simp)⟩; with_reducible rfl) | (go_at_call 27; (with_reducible refine (rsig_call x.s _ F _ (hst.keep (Keep.at hC.1 F (by simp))) hsf ss').mono ?_); rintro e w8 ⟨rfl, kq⟩; refine ⟨?_, Keep.trans hC.1 kq, MsAt.keep hC.2 kq (by simp)⟩; with_reducible rfl) | (go_at_call 28; (with_reducible refine (rrequest_call x.r _ hrc hrs srb).mono ?_); rintro e w8 ⟨rfl, kq⟩; refine ⟨?_, Keep.trans hC.1 kq, MsAt.keep hC.2 kq (by simp)⟩; with_reducible rfl) | (go_at_call 21; (with_reducible refine (maybe_call (zeroBlock x.b) (blockF x.b) _ sb').mono ?_); rintro e w8 ⟨rfl, kq⟩; refine ⟨?_, Keep.trans hC.1 kq, MsAt.keep hC.2 kq (by simp)⟩; with_reducible rfl) | (go_at_call 21; (with_reducible refine (maybe_call (zeroCert x.c) (certF x.c) _ sc').mono ?_); rintro e w8 ⟨rfl, kq⟩; refine ⟨?_, Keep.trans hC.1 kq, MsAt.keep hC.2 kq (by simp)⟩; with_reducible rfl) | (go_at_call 21; (with_reducible refine (maybe_call (zeroSig x.s) (sigF x.s) _ ss').mono ?_); rintro e w8 ⟨rfl, kq⟩; refine ⟨?_, Keep.trans hC.1 kq, MsAt.keep hC.2 kq (by simp)⟩; with_reducible rfl) | (go_at_call 21; (with_reducible refine (maybe_call _ (reqF x.r) _ sr).mono ?_); rintro e w8 ⟨rfl, kq⟩; refine ⟨?_, Keep.trans hC.1 kq, MsAt.keep hC.2 kq (by simp)⟩; with_reducible rfl)); simp only [Act.put, List.setIfInBounds_toArray, List.set_cons_zero, List.set_cons_succ]; go_big_quiet_on))))
  refine wpQuiet_nil ?_
  intro w3 hC3
  clear hC2
  go_wp2_with fail
  refine wp_region_class (C := fun w' => Keep [] w w' ∧ w'.cell? ⟨w.heap.size, 0, none⟩ = some (.int .i64 x.k) ∧ w'.cell? ⟨w.heap.size, 1, none⟩ = some (.int .i64 x.f) ∧ w'.cell? ⟨w.heap.size, 2, none⟩ = some (.int .i64 x.t) ∧ w'.cell? ⟨w.heap.size, 3, none⟩ = some (.int .i64 x.v) ∧ w'.cell? ⟨w.heap.size, 4, none⟩ = some (.string x.h) ∧ w'.cell? ⟨w.heap.size, 5, none⟩ = some (.int .i64 x.b.v) ∧ w'.cell? ⟨w.heap.size, 6, none⟩ = some (.int .i64 x.b.p) ∧ w'.cell? ⟨w.heap.size, 7, none⟩ = some (.int .i64 x.b.j.v) ∧ w'.cell? ⟨w.heap.size, 8, none⟩ = some (.string x.b.j.h) ∧ w'.cell? ⟨w.heap.size, 9, none⟩ = some (.slice A1 x.b.j.sg.length c1) ∧ w'.cell? ⟨w.heap.size, 10, none⟩ = some (.slice A2 x.b.q.length c2) ∧ w'.cell? ⟨w.heap.size, 11, none⟩ = some (.int .i64 x.c.v) ∧ w'.cell? ⟨w.heap.size, 12, none⟩ = some (.string x.c.h) ∧ w'.cell? ⟨w.heap.size, 13, none⟩ = some (.slice A3 x.c.sg.length c3) ∧ w'.cell? ⟨w.heap.size, 14, none⟩ = some (.int .i64 x.s.f) ∧ w'.cell? ⟨w.heap.size, 15, none⟩ = some (.slice A4 x.s.ts.length c4) ∧ w'.cell? ⟨w.heap.size, 16, none⟩ = some (.int .i64 x.r.c) ∧ w'.cell? ⟨w.heap.size, 17, none⟩ = some (.int .i64 x.r.s) ∧ w'.cell? ⟨w.heap.size, 18, none⟩ = some (.string x.r.b) ∧ w'.cell? ⟨w.heap.size, 19, none⟩ = some (.int .i64 x.i) ∧ w'.cell? ⟨w.heap.size, 20, none⟩ = some (.string x.g)) (by kernel_rfl) (by kernel_rfl) ⟨hC3.1.drew, hC3.2⟩ ?_
  iterate 10 (first
    | go_big_quiet_skip
    | (go_big_quiet_want; first
      | (go_big_quiet_op; go_big_quiet_on)
      | (refine quiet_run (v := ?_) ?_ ?_; (rotate_left; (intro w' hC; (try dsimp only at hC); go_split_ands; go_simp; with_reducible rfl); simp only [Act.put, List.setIfInBounds_toArray, List.set_cons_zero, List.set_cons_succ]; go_big_quiet_on))
      | (refine quiet_call (v := ?_) (f := ?_) (args := ?_) ?_ ?_ ?_; (rotate_left; rotate_left; rotate_left; (intro w' hC; (try dsimp only at hC); go_split_ands; go_simp; (refine ⟨?_, ?_⟩ <;> with_reducible rfl)); (intro w' hC; first | (go_at_call 19; (with_reducible refine (rnumber_call _ _ hk).mono ?_); rintro e w8 ⟨rfl, kq⟩; refine ⟨?_, Keep.trans hC.1 kq, MsAt.keep hC.2 kq (by simp)⟩; with_reducible rfl) | (go_at_call 19; (with_reducible refine (rnumber_call _ _ hf).mono ?_); rintro e w8 ⟨rfl, kq⟩; refine ⟨?_, Keep.trans hC.1 kq, MsAt.keep hC.2 kq (by simp)⟩; with_reducible rfl) | (go_at_call 19; (with_reducible refine (rnumber_call _ _ ht).mono ?_); rintro e w8 ⟨rfl, kq⟩; refine ⟨?_, Keep.trans hC.1 kq, MsAt.keep hC.2 kq (by simp)⟩; with_reducible rfl) | (go_at_call 19; (with_reducible refine (rnumber_call _ _ hv).mono ?_); rintro e w8 ⟨rfl, kq⟩; refine ⟨?_, Keep.trans hC.1 kq, MsAt.keep hC.2 kq (by simp)⟩; with_reducible rfl) | (go_at_call 19; (with_reducible refine (rnumber_call _ _ hi).mono ?_); rintro e w8 ⟨rfl, kq⟩; refine ⟨?_, Keep.trans hC.1 kq, MsAt.keep hC.2 kq (by simp)⟩; with_reducible rfl) | (go_at_call 20; (with_reducible refine (rtext_call x.h _ sh).mono ?_); rintro e w8 ⟨rfl, kq⟩; refine ⟨?_, Keep.trans hC.1 kq, MsAt.keep hC.2 kq (by simp)⟩; with_reducible rfl) | (go_at_call 20; (with_reducible refine (rtext_call x.g _ sg).mono ?_); rintro e w8 ⟨rfl, kq⟩; refine ⟨?_, Keep.trans hC.1 kq, MsAt.keep hC.2 kq (by simp)⟩; with_reducible rfl)); simp only [Act.put, List.setIfInBounds_toArray, List.set_cons_zero, List.set_cons_succ]; go_big_quiet_on))))
  refine wpQuiet_nil ?_
  intro w4 hC4
  clear hC3
  have kk := hC4.1
  clear hC4
  go_wp2
  go_ret
  refine ⟨ret_str ?_, kk⟩
  unfold msgF
  simp only [ByteArray.append_assoc]
end Go.Proofs.Ytpndbidpennlcaa
