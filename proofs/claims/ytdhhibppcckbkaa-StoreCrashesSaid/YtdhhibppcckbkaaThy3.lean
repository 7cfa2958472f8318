import Derived.Test.YtdhhibppcckbkaaThy2
import Derived.Test.YtdhhibppcckbkaaRead7
import Derived.Test.YtdhhibppcckbkaaRefE
namespace Go.Proofs.Ytdhhibppcckbkaa
open Go.RowKit
set_option linter.unusedVariables false
set_option linter.unusedSimpArgs false
/-! blocks -/
theorem reqsR_fwd (q : List Req) (y : ByteArray) (h : q.all rightReq = true) : ∀ k, k ≤ q.length → reqsR k ⟨cat (q.map reqF) ++ y, false⟩ = (q.take k, ⟨cat ((q.drop k).map reqF) ++ y, false⟩) := by
  intro k
  induction k with
  | zero => intro _; simp [reqsR]
  | succ k ih =>
    intro hk
    have hk' : k < q.length := by omega
    unfold reqsR
    rw [ih (by omega)]
    dsimp only
    rw [List.drop_eq_getElem_cons hk', List.map_cons, cat_cons, ByteArray.append_assoc, reqR_fwd _ _ ((List.all_eq_true.1 h) _ (List.getElem_mem hk'))]
    dsimp only
    rw [List.take_succ_eq_append_getElem hk']
theorem blockR_fwd (x : Bk) (y : ByteArray) (h : rightBlock x = true) : blockR ⟨blockF x ++ y, false⟩ = (x, ⟨y, false⟩) := by
  obtain ⟨h1, h2, h3, h4, h5, h6, h7, h8⟩ := (rightBlock_iff x).1 h
  unfold blockR blockF batchF
  dsimp only
  rw [ByteArray.append_assoc, ByteArray.append_assoc, ByteArray.append_assoc, ByteArray.append_assoc, numR_fwd 1 1000000 x.v _ (by omega) (by omega) h1 h2]
  dsimp only
  rw [numR_fwd 0 6 x.p _ h3 (by omega) h3 h4]
  dsimp only
  rw [certR_fwd x.j _ h5]
  have h9 : decide (x.j.v < x.v) = true := by simpa using h6
  simp only [h9, St.check, Bool.not_true, Bool.or_self]
  rw [numR_fwd 0 3 x.q.length _ (by omega) (by omega) (by omega) (by omega)]
  dsimp only
  rw [Int.toNat_natCast, reqsR_fwd x.q y h8 x.q.length (Nat.le_refl _)]
  simp [cat_nil]
theorem reqsR_bwd (s : St) : ∀ k, (reqsR k s).2.bad = false → s.bad = false ∧ s.b = cat ((reqsR k s).1.map reqF) ++ (reqsR k s).2.b ∧ (reqsR k s).1.all rightReq = true := by
  intro k
  induction k with
  | zero => intro h; exact ⟨h, by simp [reqsR, cat_nil], rfl⟩
  | succ k ih =>
    intro h
    unfold reqsR at h ⊢
    dsimp only at h ⊢
    obtain ⟨b1, b2, b3⟩ := reqR_bwd h
    obtain ⟨c1, c2, c3⟩ := ih b1
    refine ⟨c1, ?_, by rw [List.all_append, c3]; simp [b3]⟩
    rw [List.map_append, cat_app, List.map_cons, List.map_nil, cat_cons, cat_nil, ByteArray.append_empty, ByteArray.append_assoc, ← b2, ← c2]
theorem blockR_bwd {s : St} (h : (blockR s).2.bad = false) : s.bad = false ∧ s.b = blockF (blockR s).1 ++ (blockR s).2.b ∧ rightBlock (blockR s).1 = true := by
  unfold blockR at h ⊢
  dsimp only at h ⊢
  obtain ⟨e1, e2, e3⟩ := reqsR_bwd _ _ h
  obtain ⟨d1, d2, d3, d4⟩ := numR_bwd (by omega) e1
  simp only [St.check, Bool.or_eq_false_iff, Bool.not_eq_false', decide_eq_true_eq] at d1
  obtain ⟨f1, f2⟩ := d1
  obtain ⟨c1, c2, c3⟩ := certR_bwd f1
  obtain ⟨b1, b2, b3, b4⟩ := numR_bwd (by omega) c1
  obtain ⟨a1, a2, a3, a4⟩ := numR_bwd (by omega) b1
  refine ⟨a1, ?_, (rightBlock_iff _).2 ⟨a3, a4, b3, by dsimp only; omega, c3, f2, by dsimp only; rw [reqsR_len]; omega, e3⟩⟩
  unfold blockF batchF
  dsimp only
  rw [reqsR_len, Int.toNat_of_nonneg (by omega), ByteArray.append_assoc, ByteArray.append_assoc, ByteArray.append_assoc, ByteArray.append_assoc, ← e2, ← d2]
  show s.b = _ ++ (_ ++ (_ ++ (certR _).2.b))
  rw [← c2, ← b2, ← a2]
theorem B2_holds (x : Bk) (h : rightBlock x = true) : readBlockF (blockF x) = (x, 0) := by
  have e := blockR_fwd x ByteArray.empty h
  rw [ByteArray.append_empty] at e
  unfold readBlockF
  rw [e, if_pos ((St.ok_nil _).2 ⟨rfl, rfl⟩)]
theorem B3_holds (b : ByteArray) : (readBlockF b = (⟨0, 0, ⟨0, ⟨#[]⟩, []⟩, []⟩, 2)) ∨ ∃ x, readBlockF b = (x, 0) ∧ rightBlock x = true ∧ blockF x = b := by
  unfold readBlockF
  by_cases h : (blockR ⟨b, false⟩).2.ok = true
  · rw [if_pos h]
    obtain ⟨h1, h2⟩ := (St.ok_nil _).1 h
    obtain ⟨_, h4, h5⟩ := blockR_bwd h1
    refine .inr ⟨_, rfl, h5, ?_⟩
    rw [h2, ByteArray.append_empty] at h4
    exact h4.symm
  · rw [if_neg h]; exact .inl rfl
end Go.Proofs.Ytdhhibppcckbkaa
