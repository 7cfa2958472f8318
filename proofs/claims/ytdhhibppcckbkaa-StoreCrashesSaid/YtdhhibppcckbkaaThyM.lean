import Derived.Test.YtdhhibppcckbkaaThy3
import Derived.Test.YtdhhibppcckbkaaReadM4
namespace Go.Proofs.Ytdhhibppcckbkaa
open Go.RowKit
set_option linter.unusedVariables false
set_option linter.unusedSimpArgs false
/-! messages: what is written is read, and the other way round -/
def rightHead (x : Ms) : Bool := decide (1 ≤ x.k ∧ x.k ≤ 7 ∧ 0 ≤ x.f ∧ x.f ≤ 20 ∧ 0 ≤ x.t ∧ x.t ≤ 20 ∧ 0 ≤ x.v ∧ x.v ≤ 1000000)
def rightTail (x : Ms) : Bool := decide (0 ≤ x.i ∧ x.i ≤ 2147483647 ∧ (x.h.size = 0 ∨ x.h.size = 32) ∧ (x.g.size = 0 ∨ x.g.size = 16))
def rightMsg (x : Ms) : Bool := rightHead x && (rightTail x && ((zeroBlock x.b || rightBlock x.b) && ((zeroCert x.c || rightCert x.c) && ((zeroSig x.s || rightSig x.s) && (zeroReq x.r || rightReq x.r)))))
theorem ba_nil_of (b : ByteArray) (h : b.toList = []) : b = ⟨#[]⟩ := by
  rw [ByteArray.toList_eq] at h
  apply ByteArray.ext
  exact Array.toList_inj.1 h
theorem ba_nil_size (b : ByteArray) (h : b.size = 0) : b = ⟨#[]⟩ := by
  apply ByteArray.ext
  exact Array.eq_empty_of_size_eq_zero h
theorem zeroCert_eq {x : Ct} (h : zeroCert x = true) : x = ⟨0, ⟨#[]⟩, []⟩ := by
  obtain ⟨v, hh, sg⟩ := x
  simp only [zeroCert, Bool.and_eq_true, decide_eq_true_eq, beq_iff_eq] at h
  obtain ⟨⟨rfl, h2⟩, h3⟩ := h
  rw [ba_nil_of hh h2, List.eq_nil_of_length_eq_zero (by omega : sg.length = 0)]
theorem zeroBlock_eq {x : Bk} (h : zeroBlock x = true) : x = zBk := by
  obtain ⟨v, p, j, q⟩ := x
  simp only [zeroBlock, Bool.and_eq_true, decide_eq_true_eq, beq_iff_eq] at h
  obtain ⟨⟨⟨rfl, rfl⟩, h2⟩, h3⟩ := h
  rw [zeroCert_eq h2, List.eq_nil_of_length_eq_zero (by omega : q.length = 0)]
  rfl
theorem zeroSig_eq {x : Sg} (h : zeroSig x = true) : x = ⟨0, []⟩ := by
  obtain ⟨f, ts⟩ := x
  simp only [zeroSig, Bool.and_eq_true, decide_eq_true_eq, beq_iff_eq] at h
  obtain ⟨rfl, h3⟩ := h
  rw [List.eq_nil_of_length_eq_zero (by omega : ts.length = 0)]
theorem zeroReq_eq {x : Req} (h : zeroReq x = true) : x = ⟨0, 0, ⟨#[]⟩⟩ := by
  obtain ⟨c, s, b⟩ := x
  simp only [zeroReq, eqReq, Bool.and_eq_true, beq_iff_eq] at h
  obtain ⟨rfl, rfl, h3⟩ := h
  rw [ba_nil_of b (by rw [h3, ByteArray.toList_eq])]
theorem zeroBlock_zBk : zeroBlock zBk = true := by decide +kernel
theorem zeroCert_z : zeroCert ⟨0, ⟨#[]⟩, []⟩ = true := by decide +kernel
theorem zeroSig_z : zeroSig ⟨0, []⟩ = true := by decide +kernel
theorem zeroReq_z : zeroReq ⟨0, 0, ⟨#[]⟩⟩ = true := by decide +kernel
theorem zeroBlock_right {x : Bk} (h : rightBlock x = true) : zeroBlock x = false := by
  cases hz : zeroBlock x with
  | false => rfl
  | true =>
    rw [zeroBlock_eq hz] at h
    have := ((rightBlock_iff _).1 h).1
    simp [zBk] at this
theorem zeroCert_right {x : Ct} (h : rightCert x = true) : zeroCert x = false := by
  cases hz : zeroCert x with
  | false => rfl
  | true =>
    rw [zeroCert_eq hz] at h
    have := ((rightCert_iff _).1 h).2.2.1
    exact absurd this (by decide)
theorem zeroReq_right {x : Req} (h : rightReq x = true) : zeroReq x = false := by
  cases hz : zeroReq x with
  | false => rfl
  | true =>
    rw [zeroReq_eq hz] at h
    have := ((rightReq_iff _).1 h).2.2.1
    simp at this
/-! forward -/
theorem cutF_one (c : UInt8) (y : ByteArray) : cutF 1 ⟨⟨#[c]⟩ ++ y, false⟩ = (⟨#[c]⟩, ⟨y, false⟩) := cutF_fwd ⟨#[c]⟩ y 1 rfl
theorem toList_one (c : UInt8) : (⟨#[c]⟩ : ByteArray).toList = [c] := by rw [ByteArray.toList_eq]
theorem thereR_one (y : ByteArray) : thereR ⟨⟨#[1]⟩ ++ y, false⟩ = (true, ⟨y, false⟩) := by
  unfold thereR; dsimp only; rw [cutF_one]; dsimp only; rw [toList_one]; rfl
theorem thereR_zero (y : ByteArray) : thereR ⟨⟨#[0]⟩ ++ y, false⟩ = (false, ⟨y, false⟩) := by
  unfold thereR; dsimp only; rw [cutF_one]; dsimp only; rw [toList_one]; rfl
theorem shortR_fwd (n : Int) (t y : ByteArray) (h : t.size = 0 ∨ (t.size : Int) = n) (hn : 0 ≤ n ∧ n ≤ 2147483647) : shortR n ⟨textF t ++ y, false⟩ = (t, ⟨y, false⟩) := by
  unfold shortR; dsimp only
  rw [textR_fwd n t y (by omega) hn.2]
  dsimp only
  have e : ((t.size : Int) == 0 || (t.size : Int) == n) = true := by
    rcases h with h | h <;> simp [h]
  rw [e]; rfl
theorem optB_fwd (x : Bk) (y : ByteArray) (h : (zeroBlock x || rightBlock x) = true) : optB ⟨maybeF (zeroBlock x) (blockF x) ++ y, false⟩ = (x, ⟨y, false⟩) := by
  unfold optB maybeF
  cases hz : zeroBlock x with
  | true => rw [zeroBlock_eq hz]; simp only [if_true, thereR_zero]; rfl
  | false =>
    rw [hz] at h
    simp only [Bool.false_eq_true, if_false, ByteArray.append_assoc, thereR_one, if_true]
    exact blockR_fwd x y (by simpa using h)
theorem optC_fwd (x : Ct) (y : ByteArray) (h : (zeroCert x || rightCert x) = true) : optC ⟨maybeF (zeroCert x) (certF x) ++ y, false⟩ = (x, ⟨y, false⟩) := by
  unfold optC maybeF
  cases hz : zeroCert x with
  | true => rw [zeroCert_eq hz]; simp only [if_true, thereR_zero]; rfl
  | false =>
    rw [hz] at h
    simp only [Bool.false_eq_true, if_false, ByteArray.append_assoc, thereR_one, if_true]
    exact certR_fwd x y (by simpa using h)
theorem optS_fwd (x : Sg) (y : ByteArray) (h : (zeroSig x || rightSig x) = true) : optS ⟨maybeF (zeroSig x) (sigF x) ++ y, false⟩ = (x, ⟨y, false⟩) := by
  unfold optS maybeF
  cases hz : zeroSig x with
  | true => rw [zeroSig_eq hz]; simp only [if_true, thereR_zero]; rfl
  | false =>
    have h' : rightSig x = true := by rw [hz] at h; simpa using h
    simp only [Bool.false_eq_true, if_false, ByteArray.append_assoc, thereR_one, if_true, sigR_fwd x y h', hz]
    rfl
theorem optR_fwd (x : Req) (y : ByteArray) (h : (zeroReq x || rightReq x) = true) : optR ⟨maybeF (zeroReq x) (reqF x) ++ y, false⟩ = (x, ⟨y, false⟩) := by
  unfold optR maybeF
  cases hz : zeroReq x with
  | true => rw [zeroReq_eq hz]; simp only [if_true, thereR_zero]; rfl
  | false =>
    rw [hz] at h
    simp only [Bool.false_eq_true, if_false, ByteArray.append_assoc, thereR_one, if_true]
    exact reqR_fwd x y (by simpa using h)
theorem rightMsg_parts {x : Ms} (h : rightMsg x = true) : (1 ≤ x.k ∧ x.k ≤ 7 ∧ 0 ≤ x.f ∧ x.f ≤ 20 ∧ 0 ≤ x.t ∧ x.t ≤ 20 ∧ 0 ≤ x.v ∧ x.v ≤ 1000000) ∧ (0 ≤ x.i ∧ x.i ≤ 2147483647 ∧ (x.h.size = 0 ∨ x.h.size = 32) ∧ (x.g.size = 0 ∨ x.g.size = 16)) ∧
    (zeroBlock x.b || rightBlock x.b) = true ∧ (zeroCert x.c || rightCert x.c) = true ∧ (zeroSig x.s || rightSig x.s) = true ∧ (zeroReq x.r || rightReq x.r) = true := by
  unfold rightMsg at h
  rw [Bool.and_eq_true, Bool.and_eq_true, Bool.and_eq_true, Bool.and_eq_true, Bool.and_eq_true] at h
  exact ⟨of_decide_eq_true h.1, of_decide_eq_true h.2.1, h.2.2⟩
theorem rightMsg_mk {x : Ms} (h1 : 1 ≤ x.k ∧ x.k ≤ 7 ∧ 0 ≤ x.f ∧ x.f ≤ 20 ∧ 0 ≤ x.t ∧ x.t ≤ 20 ∧ 0 ≤ x.v ∧ x.v ≤ 1000000) (h2 : 0 ≤ x.i ∧ x.i ≤ 2147483647 ∧ (x.h.size = 0 ∨ x.h.size = 32) ∧ (x.g.size = 0 ∨ x.g.size = 16))
    (h3 : (zeroBlock x.b || rightBlock x.b) = true) (h4 : (zeroCert x.c || rightCert x.c) = true) (h5 : (zeroSig x.s || rightSig x.s) = true) (h6 : (zeroReq x.r || rightReq x.r) = true) : rightMsg x = true := by
  unfold rightMsg
  rw [h3, h4, h5, h6]
  simp only [Bool.and_true, Bool.and_eq_true]
  exact ⟨decide_eq_true h1, decide_eq_true h2⟩
theorem msgR_fwd (x : Ms) (y : ByteArray) (h : rightMsg x = true) : msgR ⟨msgF x ++ y, false⟩ = (x, ⟨y, false⟩) := by
  obtain ⟨⟨a1, a2, a3, a4, a5, a6, a7, a8⟩, ⟨b1, b2, b3, b4⟩, h3, h4, h5, h6⟩ := rightMsg_parts h
  unfold msgR msgF
  simp only [ByteArray.append_assoc]
  rw [numR_fwd 1 7 x.k _ (by omega) (by omega) a1 a2]
  dsimp only
  rw [numR_fwd 0 20 x.f _ a3 (by omega) a3 a4]
  dsimp only
  rw [numR_fwd 0 20 x.t _ a5 (by omega) a5 a6]
  dsimp only
  rw [numR_fwd 0 1000000 x.v _ a7 (by omega) a7 a8]
  dsimp only
  rw [shortR_fwd 32 x.h _ (by omega) (by omega)]
  dsimp only
  rw [optB_fwd x.b _ h3]
  dsimp only
  rw [optC_fwd x.c _ h4]
  dsimp only
  rw [optS_fwd x.s _ h5]
  dsimp only
  rw [optR_fwd x.r _ h6]
  dsimp only
  rw [numR_fwd 0 2147483647 x.i _ b1 b2 b1 b2]
  dsimp only
  rw [shortR_fwd 16 x.g _ (by omega) (by omega)]
theorem M2_holds (x : Ms) (h : rightMsg x = true) : readMsgF (msgF x) = (x, 0) := by
  have e := msgR_fwd x ByteArray.empty h
  rw [ByteArray.append_empty] at e
  unfold readMsgF
  rw [e, if_pos ((St.ok_nil _).2 ⟨rfl, rfl⟩)]
/-! backward -/
theorem thereR_bwd {s : St} (h : (thereR s).2.bad = false) : s.bad = false ∧ (((thereR s).1 = true ∧ s.b = ⟨#[1]⟩ ++ (thereR s).2.b) ∨ ((thereR s).1 = false ∧ s.b = ⟨#[0]⟩ ++ (thereR s).2.b)) := by
  unfold thereR at h ⊢
  dsimp only [St.check] at h ⊢
  rw [Bool.or_eq_false_iff] at h
  obtain ⟨h1, h2⟩ := h
  obtain ⟨b1, b2, b3⟩ := cutF_bwd h1
  refine ⟨b1, ?_⟩
  generalize cutF 1 s = a at *
  obtain ⟨c, s1⟩ := a
  dsimp only at *
  simp only [Bool.not_eq_false', Bool.or_eq_true, beq_iff_eq] at h2
  rcases h2 with h2 | h2
  · right
    have hc : c = ⟨#[0]⟩ := by
      apply ByteArray.ext; rw [ByteArray.toList_eq] at h2; exact Array.toList_inj.1 h2
    rw [hc] at b2 ⊢
    refine ⟨?_, b2⟩
    rw [toList_one, h1]; rfl
  · left
    have hc : c = ⟨#[1]⟩ := by
      apply ByteArray.ext; rw [ByteArray.toList_eq] at h2; exact Array.toList_inj.1 h2
    rw [hc] at b2 ⊢
    refine ⟨?_, b2⟩
    rw [toList_one, h1]; rfl
theorem shortR_bwd {n : Int} {s : St} (hn : n ≤ 2147483647) (h : (shortR n s).2.bad = false) : s.bad = false ∧ s.b = textF (shortR n s).1 ++ (shortR n s).2.b ∧ ((shortR n s).1.size = 0 ∨ ((shortR n s).1.size : Int) = n) := by
  unfold shortR at h ⊢
  dsimp only [St.check] at h ⊢
  rw [Bool.or_eq_false_iff] at h
  obtain ⟨h1, h2⟩ := h
  obtain ⟨b1, b2, b3⟩ := textR_bwd hn h1
  refine ⟨b1, b2, ?_⟩
  simp only [Bool.not_eq_false', Bool.or_eq_true, beq_iff_eq] at h2
  omega
theorem optB_bwd {s : St} (h : (optB s).2.bad = false) : s.bad = false ∧ s.b = maybeF (zeroBlock (optB s).1) (blockF (optB s).1) ++ (optB s).2.b ∧ (zeroBlock (optB s).1 || rightBlock (optB s).1) = true := by
  unfold optB at h ⊢
  split at h
  · rename_i ht
    rw [if_pos ht]
    obtain ⟨c1, c2, c3⟩ := blockR_bwd h
    obtain ⟨b1, b2⟩ := thereR_bwd c1
    rw [ht] at b2
    have e : s.b = ⟨#[1]⟩ ++ (thereR s).2.b := by simpa using b2
    refine ⟨b1, ?_, by rw [c3]; simp⟩
    rw [zeroBlock_right c3, e, c2]
    simp only [maybeF, Bool.false_eq_true, if_false, ByteArray.append_assoc]
  · rename_i ht
    rw [if_neg ht]
    obtain ⟨b1, b2⟩ := thereR_bwd h
    have e : s.b = ⟨#[0]⟩ ++ (thereR s).2.b := by simpa [ht] using b2
    refine ⟨b1, ?_, by rw [zeroBlock_zBk]; rfl⟩
    rw [zeroBlock_zBk, e]; rfl
theorem optC_bwd {s : St} (h : (optC s).2.bad = false) : s.bad = false ∧ s.b = maybeF (zeroCert (optC s).1) (certF (optC s).1) ++ (optC s).2.b ∧ (zeroCert (optC s).1 || rightCert (optC s).1) = true := by
  unfold optC at h ⊢
  split at h
  · rename_i ht
    rw [if_pos ht]
    obtain ⟨c1, c2, c3⟩ := certR_bwd h
    obtain ⟨b1, b2⟩ := thereR_bwd c1
    rw [ht] at b2
    have e : s.b = ⟨#[1]⟩ ++ (thereR s).2.b := by simpa using b2
    refine ⟨b1, ?_, by rw [c3]; simp⟩
    rw [zeroCert_right c3, e, c2]
    simp only [maybeF, Bool.false_eq_true, if_false, ByteArray.append_assoc]
  · rename_i ht
    rw [if_neg ht]
    obtain ⟨b1, b2⟩ := thereR_bwd h
    have e : s.b = ⟨#[0]⟩ ++ (thereR s).2.b := by simpa [ht] using b2
    refine ⟨b1, ?_, by rw [zeroCert_z]; rfl⟩
    rw [zeroCert_z, e]; rfl
theorem optS_bwd {s : St} (h : (optS s).2.bad = false) : s.bad = false ∧ s.b = maybeF (zeroSig (optS s).1) (sigF (optS s).1) ++ (optS s).2.b ∧ (zeroSig (optS s).1 || rightSig (optS s).1) = true := by
  unfold optS at h ⊢
  split at h
  · rename_i ht
    rw [if_pos ht]
    dsimp only [St.check] at h ⊢
    rw [Bool.or_eq_false_iff] at h
    obtain ⟨h1, h2⟩ := h
    obtain ⟨c1, c2, c3⟩ := sigR_bwd h1
    obtain ⟨b1, b2⟩ := thereR_bwd c1
    rw [ht] at b2
    have e : s.b = ⟨#[1]⟩ ++ (thereR s).2.b := by simpa using b2
    refine ⟨b1, ?_, by rw [c3]; simp⟩
    have hz : zeroSig (sigR (thereR s).2).1 = false := by simpa using h2
    rw [hz, e, c2]
    simp only [maybeF, Bool.false_eq_true, if_false, ByteArray.append_assoc]
  · rename_i ht
    rw [if_neg ht]
    obtain ⟨b1, b2⟩ := thereR_bwd h
    have e : s.b = ⟨#[0]⟩ ++ (thereR s).2.b := by simpa [ht] using b2
    refine ⟨b1, ?_, by rw [zeroSig_z]; rfl⟩
    rw [zeroSig_z, e]; rfl
theorem optR_bwd {s : St} (h : (optR s).2.bad = false) : s.bad = false ∧ s.b = maybeF (zeroReq (optR s).1) (reqF (optR s).1) ++ (optR s).2.b ∧ (zeroReq (optR s).1 || rightReq (optR s).1) = true := by
  unfold optR at h ⊢
  split at h
  · rename_i ht
    rw [if_pos ht]
    obtain ⟨c1, c2, c3⟩ := reqR_bwd h
    obtain ⟨b1, b2⟩ := thereR_bwd c1
    rw [ht] at b2
    have e : s.b = ⟨#[1]⟩ ++ (thereR s).2.b := by simpa using b2
    refine ⟨b1, ?_, by rw [c3]; simp⟩
    rw [zeroReq_right c3, e, c2]
    simp only [maybeF, Bool.false_eq_true, if_false, ByteArray.append_assoc]
  · rename_i ht
    rw [if_neg ht]
    obtain ⟨b1, b2⟩ := thereR_bwd h
    have e : s.b = ⟨#[0]⟩ ++ (thereR s).2.b := by simpa [ht] using b2
    refine ⟨b1, ?_, by rw [zeroReq_z]; rfl⟩
    rw [zeroReq_z, e]; rfl
theorem msgR_bwd {s : St} (h : (msgR s).2.bad = false) : s.bad = false ∧ s.b = msgF (msgR s).1 ++ (msgR s).2.b ∧ rightMsg (msgR s).1 = true := by
  unfold msgR at h ⊢
  dsimp only at h ⊢
  obtain ⟨g1, g2, g3⟩ := shortR_bwd (by omega) h
  obtain ⟨i1, i2, i3, i4⟩ := numR_bwd (by omega) g1
  obtain ⟨r1, r2, r3⟩ := optR_bwd i1
  obtain ⟨s1, s2, s3⟩ := optS_bwd r1
  obtain ⟨c1, c2, c3⟩ := optC_bwd s1
  obtain ⟨b1, b2, b3⟩ := optB_bwd c1
  obtain ⟨h1, h2, h3⟩ := shortR_bwd (by omega) b1
  obtain ⟨v1, v2, v3, v4⟩ := numR_bwd (by omega) h1
  obtain ⟨t1, t2, t3, t4⟩ := numR_bwd (by omega) v1
  obtain ⟨f1, f2, f3, f4⟩ := numR_bwd (by omega) t1
  obtain ⟨k1, k2, k3, k4⟩ := numR_bwd (by omega) f1
  refine ⟨k1, ?_, rightMsg_mk ⟨k3, k4, f3, f4, t3, t4, v3, v4⟩ ⟨i3, i4, by dsimp only; omega, by dsimp only; omega⟩ b3 c3 s3 r3⟩
  unfold msgF
  dsimp only
  simp only [ByteArray.append_assoc]
  rw [← g2, ← i2, ← r2, ← s2, ← c2, ← b2, ← h2, ← v2, ← t2, ← f2, ← k2]
theorem M3_holds (b : ByteArray) : (readMsgF b = (zM, 2)) ∨ ∃ x, readMsgF b = (x, 0) ∧ rightMsg x = true ∧ msgF x = b := by
  unfold readMsgF
  by_cases h : (msgR ⟨b, false⟩).2.ok = true
  · rw [if_pos h]
    obtain ⟨h1, h2⟩ := (St.ok_nil _).1 h
    obtain ⟨_, h4, h5⟩ := msgR_bwd h1
    refine .inr ⟨_, rfl, h5, ?_⟩
    rw [h2, ByteArray.append_empty] at h4
    exact h4.symm
  · rw [if_neg h]; exact .inl rfl
end Go.Proofs.Ytdhhibppcckbkaa
