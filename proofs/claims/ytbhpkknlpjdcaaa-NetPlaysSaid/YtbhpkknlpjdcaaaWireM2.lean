import Derived.Test.YtbhpkknlpjdcaaaWireM
namespace Go.Proofs.Ytbhpkknlpjdcaaa
open Go.RowKit
set_option linter.unusedVariables false
set_option linter.unusedSimpArgs false
def MsAt (w : World) (g : Nat) (x : Ms) (v1 v2 v3 v4 : Value) : Prop :=
  w.cell? ⟨g, 0, none⟩ = some (.int .i64 x.k) ∧ w.cell? ⟨g, 1, none⟩ = some (.int .i64 x.f) ∧ w.cell? ⟨g, 2, none⟩ = some (.int .i64 x.t) ∧ w.cell? ⟨g, 3, none⟩ = some (.int .i64 x.v) ∧ w.cell? ⟨g, 4, none⟩ = some (.string x.h) ∧ w.cell? ⟨g, 5, none⟩ = some (.int .i64 x.b.v) ∧ w.cell? ⟨g, 6, none⟩ = some (.int .i64 x.b.p) ∧ w.cell? ⟨g, 7, none⟩ = some (.int .i64 x.b.j.v) ∧ w.cell? ⟨g, 8, none⟩ = some (.string x.b.j.h) ∧ w.cell? ⟨g, 9, none⟩ = some (v1) ∧ w.cell? ⟨g, 10, none⟩ = some (v2) ∧ w.cell? ⟨g, 11, none⟩ = some (.int .i64 x.c.v) ∧ w.cell? ⟨g, 12, none⟩ = some (.string x.c.h) ∧ w.cell? ⟨g, 13, none⟩ = some (v3) ∧ w.cell? ⟨g, 14, none⟩ = some (.int .i64 x.s.f) ∧ w.cell? ⟨g, 15, none⟩ = some (v4) ∧ w.cell? ⟨g, 16, none⟩ = some (.int .i64 x.r.c) ∧ w.cell? ⟨g, 17, none⟩ = some (.int .i64 x.r.s) ∧ w.cell? ⟨g, 18, none⟩ = some (.string x.r.b) ∧ w.cell? ⟨g, 19, none⟩ = some (.int .i64 x.i) ∧ w.cell? ⟨g, 20, none⟩ = some (.string x.g)
theorem MsAt.of {w : World} {g t : Nat} {x : Ms} {v1 v2 v3 v4 : Value} (h : Blk w g (msgV x v1 v2 v3 v4) t) : MsAt w g x v1 v2 v3 v4 := by
  refine ⟨h.cell 0, h.cell 1, h.cell 2, h.cell 3, h.cell 4, h.cell 5, h.cell 6, h.cell 7, h.cell 8, h.cell 9, h.cell 10, h.cell 11, h.cell 12, h.cell 13, h.cell 14, h.cell 15, h.cell 16, h.cell 17, h.cell 18, h.cell 19, h.cell 20⟩
theorem MsAt.keep {w w' : World} {g : Nat} {x : Ms} {v1 v2 v3 v4 : Value} {S : List Nat} (h : MsAt w g x v1 v2 v3 v4) (k : Keep S w w') (hg : g ∉ S) : MsAt w' g x v1 v2 v3 v4 := by
  obtain ⟨h0, h1, h2, h3, h4, h5, h6, h7, h8, h9, h10, h11, h12, h13, h14, h15, h16, h17, h18, h19, h20⟩ := h
  exact ⟨k.cell hg h0, k.cell hg h1, k.cell hg h2, k.cell hg h3, k.cell hg h4, k.cell hg h5, k.cell hg h6, k.cell hg h7, k.cell hg h8, k.cell hg h9, k.cell hg h10, k.cell hg h11, k.cell hg h12, k.cell hg h13, k.cell hg h14, k.cell hg h15, k.cell hg h16, k.cell hg h17, k.cell hg h18, k.cell hg h19, k.cell hg h20⟩
/-- The sizes of a message's parts. -/
structure MsSz (x : Ms) : Prop where
  b : (blockF x.b).size ≤ 288230376151711744
  c : (certF x.c).size ≤ 288230376151711744
  s : (sigF x.s).size ≤ 288230376151711744
set_option maxHeartbeats 4000000 in
theorem msg_call (x : Ms) (v1 v2 v3 v4 : Value) (F : Nat → Prop) (w : World) (h : MsOk w F x v1 v2 v3 v4) (hs : MsSz x) :
    Calls Try.prog 36 #[.agg (msgV x v1 v2 v3 v4)] w fun e w' => e = .returned (.string (msgF x)) ∧ Keep [] w w' := by
  obtain ⟨hk, hf, ht, hv, hh, hbv, hbp, hbj, hbh, hbs, hbq, hcv, hch, hcs, hsf, hst, hrc, hrs, hrb, hi, hg⟩ := h
  obtain ⟨sb, sc, ss⟩ := hs
  unfold M47 at hh hbh hch hrb hg
  have z0 := numF_size x.k
  have z1 := numF_size x.f
  have z2 := numF_size x.t
  have z3 := numF_size x.v
  have z4 : (textF x.h).size = 4 + (x.h).size := by unfold textF; rw [ByteArray.size_append, numF_size]
  have z5 := maybeF_le (zeroBlock x.b) (blockF x.b)
  have z6 := maybeF_le (zeroCert x.c) (certF x.c)
  have z7 := maybeF_le (zeroSig x.s) (sigF x.s)
  have z8 := maybeF_le (zeroReq x.r) (reqF x.r)
  have z9 := numF_size x.i
  have z10 : (textF x.g).size = 4 + (x.g).size := by unfold textF; rw [ByteArray.size_append, numF_size]
  have zr : (reqF x.r).size = 12 + x.r.b.size := by unfold reqF textF; simp only [ByteArray.size_append, numF_size]; omega
  have q1 : (9223372036854775807 < (numF x.k).size + (numF x.f).size) = False := by simp; omega
  have q2 : (9223372036854775807 < (numF x.k).size + (numF x.f).size + (numF x.t).size) = False := by simp; omega
  have q3 : (9223372036854775807 < (numF x.k).size + (numF x.f).size + (numF x.t).size + (numF x.v).size) = False := by simp; omega
  have q4 : (9223372036854775807 < (numF x.k).size + (numF x.f).size + (numF x.t).size + (numF x.v).size + (textF x.h).size) = False := by simp; omega
  have q5 : (9223372036854775807 < (numF x.k).size + (numF x.f).size + (numF x.t).size + (numF x.v).size + (textF x.h).size + (maybeF (zeroBlock x.b) (blockF x.b)).size) = False := by simp; omega
  have q6 : (9223372036854775807 < (numF x.k).size + (numF x.f).size + (numF x.t).size + (numF x.v).size + (textF x.h).size + (maybeF (zeroBlock x.b) (blockF x.b)).size + (maybeF (zeroCert x.c) (certF x.c)).size) = False := by simp; omega
  have q7 : (9223372036854775807 < (numF x.k).size + (numF x.f).size + (numF x.t).size + (numF x.v).size + (textF x.h).size + (maybeF (zeroBlock x.b) (blockF x.b)).size + (maybeF (zeroCert x.c) (certF x.c)).size + (maybeF (zeroSig x.s) (sigF x.s)).size) = False := by simp; omega
  have q8 : (9223372036854775807 < (numF x.k).size + (numF x.f).size + (numF x.t).size + (numF x.v).size + (textF x.h).size + (maybeF (zeroBlock x.b) (blockF x.b)).size + (maybeF (zeroCert x.c) (certF x.c)).size + (maybeF (zeroSig x.s) (sigF x.s)).size + (maybeF (zeroReq x.r) (reqF x.r)).size) = False := by simp; omega
  have q9 : (9223372036854775807 < (numF x.k).size + (numF x.f).size + (numF x.t).size + (numF x.v).size + (textF x.h).size + (maybeF (zeroBlock x.b) (blockF x.b)).size + (maybeF (zeroCert x.c) (certF x.c)).size + (maybeF (zeroSig x.s) (sigF x.s)).size + (maybeF (zeroReq x.r) (reqF x.r)).size + (numF x.i).size) = False := by simp; omega
  have q10 : (9223372036854775807 < (numF x.k).size + (numF x.f).size + (numF x.t).size + (numF x.v).size + (textF x.h).size + (maybeF (zeroBlock x.b) (blockF x.b)).size + (maybeF (zeroCert x.c) (certF x.c)).size + (maybeF (zeroSig x.s) (sigF x.s)).size + (maybeF (zeroReq x.r) (reqF x.r)).size + (numF x.i).size + (textF x.g).size) = False := by simp; omega
  have sr : (reqF x.r).size ≤ 4611686018427387904 := by omega
  have sb' : (blockF x.b).size ≤ 4611686018427387904 := by omega
  have sc' : (certF x.c).size ≤ 4611686018427387904 := by omega
  have ss' : (sigF x.s).size ≤ 4611686018427387904 := by omega
  have sh : x.h.size ≤ 4611686018427387904 := by omega
  have sg : x.g.size ≤ 4611686018427387904 := by omega
  have srb : x.r.b.size ≤ 4611686018427387904 := by omega
  clear z0 z1 z2 z3 z4 z5 z6 z7 z8 z9 z10 zr
  obtain ⟨A1, c1, rfl, l1⟩ := hbs.form
  obtain ⟨A2, c2, rfl, l2⟩ := hbq.form
  obtain ⟨A3, c3, rfl, l3⟩ := hcs.form
  obtain ⟨A4, c4, rfl, l4⟩ := hst.form
  have hc := MsAt.of (Blk.new w (msgV x (.slice A1 x.b.j.sg.length c1) (.slice A2 x.b.q.length c2) (.slice A3 x.c.sg.length c3) (.slice A4 x.s.ts.length c4)) 39)
  unfold msgV at hc
  dsimp only [msgF, msgV]
  go_enter Try.func36, Try.ntmps36
  go_wp2_with fail
  refine wp_region_class (C := fun w' => Keep [] w w' ∧ w'.cell? ⟨w.heap.size, 0, none⟩ = some (.int .i64 x.k) ∧ w'.cell? ⟨w.heap.size, 1, none⟩ = some (.int .i64 x.f) ∧ w'.cell? ⟨w.heap.size, 2, none⟩ = some (.int .i64 x.t) ∧ w'.cell? ⟨w.heap.size, 3, none⟩ = some (.int .i64 x.v) ∧ w'.cell? ⟨w.heap.size, 4, none⟩ = some (.string x.h) ∧ w'.cell? ⟨w.heap.size, 5, none⟩ = some (.int .i64 x.b.v) ∧ w'.cell? ⟨w.heap.size, 6, none⟩ = some (.int .i64 x.b.p) ∧ w'.cell? ⟨w.heap.size, 7, none⟩ = some (.int .i64 x.b.j.v) ∧ w'.cell? ⟨w.heap.size, 8, none⟩ = some (.string x.b.j.h) ∧ w'.cell? ⟨w.heap.size, 9, none⟩ = some (.slice A1 x.b.j.sg.length c1) ∧ w'.cell? ⟨w.heap.size, 10, none⟩ = some (.slice A2 x.b.q.length c2) ∧ w'.cell? ⟨w.heap.size, 11, none⟩ = some (.int .i64 x.c.v) ∧ w'.cell? ⟨w.heap.size, 12, none⟩ = some (.string x.c.h) ∧ w'.cell? ⟨w.heap.size, 13, none⟩ = some (.slice A3 x.c.sg.length c3) ∧ w'.cell? ⟨w.heap.size, 14, none⟩ = some (.int .i64 x.s.f) ∧ w'.cell? ⟨w.heap.size, 15, none⟩ = some (.slice A4 x.s.ts.length c4) ∧ w'.cell? ⟨w.heap.size, 16, none⟩ = some (.int .i64 x.r.c) ∧ w'.cell? ⟨w.heap.size, 17, none⟩ = some (.int .i64 x.r.s) ∧ w'.cell? ⟨w.heap.size, 18, none⟩ = some (.string x.r.b) ∧ w'.cell? ⟨w.heap.size, 19, none⟩ = some (.int .i64 x.i) ∧ w'.cell? ⟨w.heap.size, 20, none⟩ = some (.string x.g)) (by kernel_rfl) (by kernel_rfl) ⟨((Keep.refl _ _).alloc _).drew, hc⟩ ?_
  iterate 46 (first
    | go_big_quiet_skip
    | (go_big_quiet_want; first
      | (go_big_quiet_op; go_big_quiet_on)
      | (refine quiet_run (v := ?_) ?_ ?_; (rotate_left; (intro w' hC; (try dsimp only at hC); go_split_ands; go_simp; with_reducible rfl); simp only [Act.put, List.setIfInBounds_toArray, List.set_cons_zero, List.set_cons_succ]; go_big_quiet_on))
      | (refine quiet_call (v := ?_) (f := ?_) (args := ?_) ?_ ?_ ?_; (rotate_left; rotate_left; rotate_left; (intro w' hC; (try dsimp only at hC); go_split_ands; go_simp; (refine ⟨?_, ?_⟩ <;> with_reducible rfl)); (intro w' hC; first | (go_at_call 42; (with_reducible refine (number_call _ _).mono ?_); rintro e w8 ⟨rfl, kq⟩; refine ⟨?_, Keep.trans hC.1 kq, MsAt.keep hC.2 kq (by simp)⟩; with_reducible rfl) | (go_at_call 43; (with_reducible refine (text_call x.h _ sh).mono ?_); rintro e w8 ⟨rfl, kq⟩; refine ⟨?_, Keep.trans hC.1 kq, MsAt.keep hC.2 kq (by simp)⟩; with_reducible rfl) | (go_at_call 43; (with_reducible refine (text_call x.g _ sg).mono ?_); rintro e w8 ⟨rfl, kq⟩; refine ⟨?_, Keep.trans hC.1 kq, MsAt.keep hC.2 kq (by simp)⟩; with_reducible rfl) | (go_at_call 45; (with_reducible refine (wzeroBlock_call x.b A1 A2 c1 c2 _).mono ?_); rintro e w8 ⟨rfl, kq⟩; refine ⟨?_, Keep.trans hC.1 kq, MsAt.keep hC.2 kq (by simp)⟩; with_reducible rfl) | (go_at_call 46; (with_reducible refine (block_call x.b _ _ F _ (hbs.keep (Keep.at hC.1 F (by simp))) (hbq.keep (Keep.at hC.1 F (by simp))) sb').mono ?_); rintro e w8 ⟨rfl, kq⟩; refine ⟨?_, Keep.trans hC.1 kq, MsAt.keep hC.2 kq (by simp)⟩; with_reducible rfl) | (go_at_call 47; (with_reducible refine (wzeroCert_call x.c A3 c3 _).mono ?_); rintro e w8 ⟨rfl, kq⟩; refine ⟨?_, Keep.trans hC.1 kq, MsAt.keep hC.2 kq (by simp)⟩; with_reducible rfl) | (go_at_call 48; (with_reducible refine (cert_call x.c _ F _ (hcs.keep (Keep.at hC.1 F (by simp))) sc').mono ?_); rintro e w8 ⟨rfl, kq⟩; refine ⟨?_, Keep.trans hC.1 kq, MsAt.keep hC.2 kq (by simp)⟩; with_reducible rfl) | (go_at_call 49; (with_reducible refine (wzeroSig_call x.s A4 c4 _).mono ?_); rintro e w8 ⟨rfl, kq⟩; refine ⟨?_, Keep.trans hC.1 kq, MsAt.keep hC.2 kq (by simp)⟩; with_reducible rfl) | (go_at_call 50; (with_reducible refine (sig_call x.s _ F _ (hst.keep (Keep.at hC.1 F (by simp))) ss').mono ?_); rintro e w8 ⟨rfl, kq⟩; refine ⟨?_, Keep.trans hC.1 kq, MsAt.keep hC.2 kq (by simp)⟩; with_reducible rfl) | (go_at_call 51; (with_reducible refine (request_call x.r _ srb).mono ?_); rintro e w8 ⟨rfl, kq⟩; refine ⟨?_, Keep.trans hC.1 kq, MsAt.keep hC.2 kq (by simp)⟩; with_reducible rfl) | (go_at_call 44; (with_reducible refine (may_call (zeroBlock x.b) (blockF x.b) _ sb').mono ?_); rintro e w8 ⟨rfl, kq⟩; refine ⟨?_, Keep.trans hC.1 kq, MsAt.keep hC.2 kq (by simp)⟩; with_reducible rfl) | (go_at_call 44; (with_reducible refine (may_call (zeroCert x.c) (certF x.c) _ sc').mono ?_); rintro e w8 ⟨rfl, kq⟩; refine ⟨?_, Keep.trans hC.1 kq, MsAt.keep hC.2 kq (by simp)⟩; with_reducible rfl) | (go_at_call 44; (with_reducible refine (may_call (zeroSig x.s) (sigF x.s) _ ss').mono ?_); rintro e w8 ⟨rfl, kq⟩; refine ⟨?_, Keep.trans hC.1 kq, MsAt.keep hC.2 kq (by simp)⟩; with_reducible rfl) | (go_at_call 44; (with_reducible refine (may_call _ (reqF x.r) _ sr).mono ?_); rintro e w8 ⟨rfl, kq⟩; refine ⟨?_, Keep.trans hC.1 kq, MsAt.keep hC.2 kq (by simp)⟩; with_reducible rfl)); simp only [Act.put, List.setIfInBounds_toArray, List.set_cons_zero, List.set_cons_succ]; go_big_quiet_on))))
  go_big_quiet_want
  refine quiet_run (v := .bool (zeroReq x.r)) ?_ ?_
  · intro w' hC
    (try dsimp only at hC)
    go_split_ands
    go_simp
    have e0 : (ByteArray.mk #[]).toList = [] := by rw [ByteArray.toList_eq]
    unfold zeroReq eqReq
    by_cases h1 : x.r.c = 0 <;> by_cases h2 : x.r.s = 0 <;> by_cases h3 : x.r.b.toList = [] <;> simp [h1, h2, h3, e0]
  simp only [Act.put, List.setIfInBounds_toArray, List.set_cons_zero, List.set_cons_succ]
  go_big_quiet_on
  iterate 14 (first
    | go_big_quiet_skip
    | (go_big_quiet_want; first
      | (go_big_quiet_op; go_big_quiet_on)
      | (refine quiet_run (v := ?_) ?_ ?_; (rotate_left; (intro w' hC; (try dsimp only at hC); go_split_ands; go_simp; with_reducible rfl); simp only [Act.put, List.setIfInBounds_toArray, List.set_cons_zero, List.set_cons_succ]; go_big_quiet_on))
      | (refine quiet_call (v := ?_) (f := ?_) (args := ?_) ?_ ?_ ?_; (rotate_left; rotate_left; rotate_left; (intro w' hC; (try dsimp only at hC); go_split_ands; go_simp; (refine ⟨?_, ?_⟩ <;> with_reducible rfl)); (intro w' hC; first | (go_at_call 42; (with_reducible refine (number_call _ _).mono ?_); rintro e w8 ⟨rfl, kq⟩; refine ⟨?_, Keep.trans hC.1 kq, MsAt.keep hC.2 kq (by simp)⟩; with_reducible rfl) | (go_at_call 43; (with_reducible refine (text_call x.h _ sh).mono ?_); rintro e w8 ⟨rfl, kq⟩; refine ⟨?_, Keep.trans hC.1 kq, MsAt.keep hC.2 kq (by simp)⟩; with_reducible rfl) | (go_at_call 43; (with_reducible refine (text_call x.g _ sg).mono ?_); rintro e w8 ⟨rfl, kq⟩; refine ⟨?_, Keep.trans hC.1 kq, MsAt.keep hC.2 kq (by simp)⟩; with_reducible rfl) | (go_at_call 45; (with_reducible refine (wzeroBlock_call x.b A1 A2 c1 c2 _).mono ?_); rintro e w8 ⟨rfl, kq⟩; refine ⟨?_, Keep.trans hC.1 kq, MsAt.keep hC.2 kq (by simp)⟩; with_reducible rfl) | (go_at_call 46; (with_reducible refine (block_call x.b _ _ F _ (hbs.keep (Keep.at hC.1 F (by simp))) (hbq.keep (Keep.at hC.1 F (by simp))) sb').mono ?_); rintro e w8 ⟨rfl, kq⟩; refine ⟨?_, Keep.trans hC.1 kq, MsAt.keep hC.2 kq (by simp)⟩; with_reducible rfl) | (go_at_call 47; (with_reducible refine (wzeroCert_call x.c A3 c3 _).mono ?_); rintro e w8 ⟨rfl, kq⟩; refine ⟨?_, Keep.trans hC.1 kq, MsAt.keep hC.2 kq (by simp)⟩; with_reducible rfl) | (go_at_call 48; (with_reducible refine (cert_call x.c _ F _ (hcs.keep (Keep.at hC.1 F (by simp))) sc').mono ?_); rintro e w8 ⟨rfl, kq⟩; refine ⟨?_, Keep.trans hC.1 kq, MsAt.keep hC.2 kq (by simp)⟩; with_reducible rfl) | (go_at_call 49; (with_reducible refine (wzeroSig_call x.s A4 c4 _).mono ?_); rintro e w8 ⟨rfl, kq⟩; refine ⟨?_, Keep.trans hC.1 kq, MsAt.keep hC.2 kq (by simp)⟩; with_reducible rfl) | (go_at_call 50; (with_reducible refine (sig_call x.s _ F _ (hst.keep (Keep.at hC.1 F (by simp))) ss').mono ?_); rintro e w8 ⟨rfl, kq⟩; refine ⟨?_, Keep.trans hC.1 kq, MsAt.keep hC.2 kq (by simp)⟩; with_reducible rfl) | (go_at_call 51; (with_reducible refine (request_call x.r _ srb).mono ?_); rintro e w8 ⟨rfl, kq⟩; refine ⟨?_, Keep.trans hC.1 kq, MsAt.keep hC.2 kq (by simp)⟩; with_reducible rfl) | (go_at_call 44; (with_reducible refine (may_call (zeroBlock x.b) (blockF x.b) _ sb').mono ?_); rintro e w8 ⟨rfl, kq⟩; refine ⟨?_, Keep.trans hC.1 kq, MsAt.keep hC.2 kq (by simp)⟩; with_reducible rfl) | (go_at_call 44; (with_reducible refine (may_call (zeroCert x.c) (certF x.c) _ sc').mono ?_); rintro e w8 ⟨rfl, kq⟩; refine ⟨?_, Keep.trans hC.1 kq, MsAt.keep hC.2 kq (by simp)⟩; with_reducible rfl) | (go_at_call 44; (with_reducible refine (may_call (zeroSig x.s) (sigF x.s) _ ss').mono ?_); rintro e w8 ⟨rfl, kq⟩; refine ⟨?_, Keep.trans hC.1 kq, MsAt.keep hC.2 kq (by simp)⟩; with_reducible rfl) | (go_at_call 44; (with_reducible refine (may_call _ (reqF x.r) _ sr).mono ?_); rintro e w8 ⟨rfl, kq⟩; refine ⟨?_, Keep.trans hC.1 kq, MsAt.keep hC.2 kq (by simp)⟩; with_reducible rfl)); simp only [Act.put, List.setIfInBounds_toArray, List.set_cons_zero, List.set_cons_succ]; go_big_quiet_on))))
  refine wpQuiet_nil ?_
  intro w2 hC2
  have kk := hC2.1
  clear hC2
  go_wp2
  go_ret
  exact ⟨rfl, kk⟩
end Go.Proofs.Ytbhpkknlpjdcaaa
