import Derived.Test.YtdhhibppcckbkaaThy
import Derived.Test.YtdhhibppcckbkaaRead5
import Derived.Test.YtdhhibppcckbkaaRefC
namespace Go.Proofs.Ytdhhibppcckbkaa
open Go.RowKit
set_option linter.unusedVariables false
set_option linter.unusedSimpArgs false
/-! signatures and certificates, forward -/
theorem cat_cons (a : ByteArray) (l : List ByteArray) : cat (a :: l) = a ++ cat l := by
  rw [show a :: l = [a] ++ l from rfl, cat_app]
  simp [cat]
theorem cat_nil : cat [] = ByteArray.empty := rfl
theorem tagsR_fwd (ts : List ByteArray) (y : ByteArray) (h : ∀ t ∈ ts, t.size = 16) : ∀ k, k ≤ ts.length → tagsR k ⟨cat ts ++ y, false⟩ = (ts.take k, ⟨cat (ts.drop k) ++ y, false⟩) := by
  intro k
  induction k with
  | zero => intro _; simp [tagsR]
  | succ k ih =>
    intro hk
    have hk' : k < ts.length := by omega
    unfold tagsR
    rw [ih (by omega)]
    dsimp only
    rw [List.drop_eq_getElem_cons hk', cat_cons, ByteArray.append_assoc, cutF_fwd _ _ 16 (by rw [h _ (List.getElem_mem hk')]; rfl)]
    dsimp only
    rw [List.take_succ_eq_append_getElem hk']
theorem rightSig_iff (x : Sg) : rightSig x = true ↔ (∀ t ∈ x.ts, t.size = 16) ∧ 0 ≤ x.f ∧ x.f < 7 ∧ x.ts.length ≤ 7 := by
  unfold rightSig
  simp only [Bool.and_eq_true, decide_eq_true_eq, List.all_eq_true]
  constructor
  · rintro ⟨⟨⟨h1, h2⟩, h3⟩, h4⟩
    refine ⟨fun t ht => h1 t ?_, h2, h3, by omega⟩
    rwa [List.take_of_length_le (by omega)]
  · rintro ⟨h1, h2, h3, h4⟩
    exact ⟨⟨⟨fun t ht => h1 t (List.mem_of_mem_take ht), h2⟩, h3⟩, by omega⟩
theorem sigR_fwd (x : Sg) (y : ByteArray) (h : rightSig x = true) : sigR ⟨sigF x ++ y, false⟩ = (x, ⟨y, false⟩) := by
  obtain ⟨h1, h2, h3, h4⟩ := (rightSig_iff x).1 h
  unfold sigR sigF
  dsimp only
  rw [ByteArray.append_assoc, ByteArray.append_assoc, numR_fwd 0 6 x.f _ h2 (by omega) h2 (by omega)]
  dsimp only
  rw [numR_fwd 0 7 x.ts.length _ (by omega) (by omega) (by omega) (by omega)]
  dsimp only
  rw [Int.toNat_natCast, tagsR_fwd x.ts y h1 x.ts.length (Nat.le_refl _)]
  simp [cat_nil]
/-- the From ahead of place k -/
def lastF (l : List Sg) : Nat → Int
  | 0 => -1
  | k + 1 => match l[k]? with | some x => x.f | none => -1
theorem sigsR_fwd (sg : List Sg) (y : ByteArray) (h : (List.range sg.length).all (okAt sg) = true) : ∀ k, k ≤ sg.length →
    sigsR k ⟨cat (sg.map sigF) ++ y, false⟩ = (sg.take k, lastF sg k, ⟨cat ((sg.drop k).map sigF) ++ y, false⟩) := by
  have hr : ∀ k (hk : k < sg.length), rightSig sg[k] = true ∧ lastF sg k < sg[k].f := by
    intro k hk
    have ho := (List.all_eq_true.1 h) k (by simpa using hk)
    cases k with
    | zero =>
      rw [okAt_zero sg hk] at ho
      refine ⟨ho, ?_⟩
      have := ((rightSig_iff _).1 ho).2.1
      show (-1 : Int) < _
      omega
    | succ m =>
      rw [okAt_succ sg m hk, Bool.and_eq_true] at ho
      refine ⟨ho.1, ?_⟩
      show (match sg[m]? with | some x => x.f | none => -1) < _
      rw [List.getElem?_eq_getElem (by omega)]
      simpa using ho.2
  intro k
  induction k with
  | zero => intro _; simp [sigsR, lastF]
  | succ k ih =>
    intro hk
    have hk' : k < sg.length := by omega
    obtain ⟨h1, h2⟩ := hr k hk'
    unfold sigsR
    rw [ih (by omega)]
    dsimp only
    rw [List.drop_eq_getElem_cons hk', List.map_cons, cat_cons, ByteArray.append_assoc, sigR_fwd _ _ h1]
    dsimp only
    have h3 : decide (lastF sg k < sg[k].f) = true := by simpa using h2
    rw [h3, List.take_succ_eq_append_getElem hk']
    refine Prod.ext rfl (Prod.ext ?_ ?_)
    · simp [lastF, List.getElem?_eq_getElem hk']
    · simp [St.check]
theorem rightCert_iff (x : Ct) : rightCert x = true ↔ 0 ≤ x.v ∧ x.v ≤ 1000000 ∧ x.h.size = 32 ∧ x.sg.length ≤ 7 ∧ (List.range x.sg.length).all (okAt x.sg) = true := by
  unfold rightCert
  simp only [Bool.and_eq_true, decide_eq_true_eq]
  constructor
  · rintro ⟨⟨⟨⟨h1, h2⟩, h3⟩, h4⟩, h5⟩; exact ⟨h1, h2, h3, by omega, h5⟩
  · rintro ⟨h1, h2, h3, h4, h5⟩; exact ⟨⟨⟨⟨h1, h2⟩, h3⟩, by omega⟩, h5⟩
theorem certR_fwd (x : Ct) (y : ByteArray) (h : rightCert x = true) : certR ⟨certF x ++ y, false⟩ = (x, ⟨y, false⟩) := by
  obtain ⟨h1, h2, h3, h4, h5⟩ := (rightCert_iff x).1 h
  unfold certR certF
  dsimp only
  rw [ByteArray.append_assoc, ByteArray.append_assoc, ByteArray.append_assoc, numR_fwd 0 1000000 x.v _ h1 (by omega) h1 (by omega)]
  dsimp only
  rw [cutF_fwd x.h _ 32 (by rw [h3]; rfl)]
  dsimp only
  rw [numR_fwd 0 7 x.sg.length _ (by omega) (by omega) (by omega) (by omega)]
  dsimp only
  rw [Int.toNat_natCast, sigsR_fwd x.sg y h5 x.sg.length (Nat.le_refl _)]
  simp [cat_nil]
theorem C2_holds (x : Ct) (h : rightCert x = true) : readCertF (certF x) = (x, 0) := by
  have e := certR_fwd x ByteArray.empty h
  rw [ByteArray.append_empty] at e
  unfold readCertF
  rw [e, if_pos ((St.ok_nil _).2 ⟨rfl, rfl⟩)]
/-! backward -/
theorem tagsR_bwd (s : St) : ∀ k, (tagsR k s).2.bad = false → s.bad = false ∧ s.b = cat (tagsR k s).1 ++ (tagsR k s).2.b ∧ ∀ t ∈ (tagsR k s).1, t.size = 16 := by
  intro k
  induction k with
  | zero => intro h; exact ⟨h, by simp [tagsR, cat_nil], by simp [tagsR]⟩
  | succ k ih =>
    intro h
    unfold tagsR at h ⊢
    dsimp only at h ⊢
    obtain ⟨b1, b2, b3⟩ := cutF_bwd h
    obtain ⟨c1, c2, c3⟩ := ih b1
    refine ⟨c1, by rw [cat_snoc, ByteArray.append_assoc, ← b2, ← c2], fun t ht => ?_⟩
    rcases List.mem_append.1 ht with ht | ht
    · exact c3 t ht
    · obtain rfl := List.mem_singleton.1 ht
      omega
theorem sigR_bwd {s : St} (h : (sigR s).2.bad = false) : s.bad = false ∧ s.b = sigF (sigR s).1 ++ (sigR s).2.b ∧ rightSig (sigR s).1 = true := by
  unfold sigR at h ⊢
  dsimp only at h ⊢
  obtain ⟨c1, c2, c3⟩ := tagsR_bwd _ _ h
  obtain ⟨b1, b2, b3, b4⟩ := numR_bwd (by omega) c1
  obtain ⟨a1, a2, a3, a4⟩ := numR_bwd (by omega) b1
  refine ⟨a1, ?_, (rightSig_iff _).2 ⟨c3, a3, by dsimp only; omega, by dsimp only; rw [tagsR_len]; omega⟩⟩
  unfold sigF
  dsimp only
  rw [tagsR_len, Int.toNat_of_nonneg (by omega), ByteArray.append_assoc, ByteArray.append_assoc, ← c2, ← b2, ← a2]
theorem okAt_app (l : List Sg) (x : Sg) (i : Nat) (h : i < l.length) : okAt (l ++ [x]) i = okAt l i := by
  unfold okAt
  rw [List.getElem?_append_left h, List.getElem?_append_left (show i - 1 < l.length by omega)]
theorem sigsR_last_eq (s : St) : ∀ k, (sigsR k s).2.1 = lastF (sigsR k s).1 k := by
  intro k
  cases k with
  | zero => rfl
  | succ k =>
    show (sigR (sigsR k s).2.2).1.f = (match ((sigsR k s).1 ++ [(sigR (sigsR k s).2.2).1])[k]? with | some x => x.f | none => -1)
    rw [List.getElem?_append_right (by rw [sigsR_len]; omega), sigsR_len]
    simp
theorem sigsR_bwd (s : St) : ∀ k, (sigsR k s).2.2.bad = false → s.bad = false ∧ s.b = cat ((sigsR k s).1.map sigF) ++ (sigsR k s).2.2.b ∧ (List.range k).all (okAt (sigsR k s).1) = true := by
  intro k
  induction k with
  | zero => intro h; exact ⟨h, by simp [sigsR, cat_nil], rfl⟩
  | succ k ih =>
    intro h
    have hl := sigsR_last_eq s k
    have hlen := sigsR_len k s
    unfold sigsR at h ⊢
    dsimp only at h ⊢
    simp only [St.check, Bool.or_eq_false_iff, Bool.not_eq_false', decide_eq_true_eq] at h
    obtain ⟨h1, h2⟩ := h
    obtain ⟨b1, b2, b3⟩ := sigR_bwd h1
    obtain ⟨c1, c2, c3⟩ := ih b1
    refine ⟨c1, ?_, ?_⟩
    · rw [List.map_append, cat_app, List.map_cons, List.map_nil, cat_cons, cat_nil, ByteArray.append_empty, ByteArray.append_assoc]
      show s.b = cat ((sigsR k s).1.map sigF) ++ (sigF (sigR (sigsR k s).2.2).1 ++ (sigR (sigsR k s).2.2).2.b)
      rw [← b2, ← c2]
    · refine range_step _ k ?_ ?_
      · rw [List.all_eq_true] at c3 ⊢
        intro i hi
        rw [okAt_app _ _ _ (by rw [hlen]; simpa using hi)]
        exact c3 i hi
      · cases k with
        | zero =>
          have e0 : (sigsR 0 s).1 = [] := rfl
          rw [e0, List.nil_append, okAt_zero _ (by simp)]
          exact b3
        | succ m =>
          rw [okAt_succ _ m (by rw [List.length_append, hlen]; simp), Bool.and_eq_true]
          have g1 : ((sigsR (m + 1) s).1 ++ [(sigR (sigsR (m + 1) s).2.2).1])[m + 1]'(by rw [List.length_append, hlen]; simp) = (sigR (sigsR (m + 1) s).2.2).1 := by
            rw [List.getElem_append_right (by rw [hlen]; omega)]; simp [hlen]
          have g2 : ((sigsR (m + 1) s).1 ++ [(sigR (sigsR (m + 1) s).2.2).1])[m]'(by rw [List.length_append, hlen]; omega) = (sigsR (m + 1) s).1[m]'(by rw [hlen]; omega) := by
            rw [List.getElem_append_left]
          rw [g1, g2]
          refine ⟨b3, ?_⟩
          rw [hl] at h2
          simp only [lastF, List.getElem?_eq_getElem (show m < (sigsR (m + 1) s).1.length by rw [hlen]; omega)] at h2
          simpa using h2
theorem certR_bwd {s : St} (h : (certR s).2.bad = false) : s.bad = false ∧ s.b = certF (certR s).1 ++ (certR s).2.b ∧ rightCert (certR s).1 = true := by
  unfold certR at h ⊢
  dsimp only at h ⊢
  obtain ⟨d1, d2, d3⟩ := sigsR_bwd _ _ h
  obtain ⟨c1, c2, c3, c4⟩ := numR_bwd (by omega) d1
  obtain ⟨b1, b2, b3⟩ := cutF_bwd c1
  obtain ⟨a1, a2, a3, a4⟩ := numR_bwd (by omega) b1
  refine ⟨a1, ?_, (rightCert_iff _).2 ⟨a3, a4, by dsimp only; omega, by dsimp only; rw [sigsR_len]; omega, by dsimp only; rw [sigsR_len]; exact d3⟩⟩
  unfold certF
  dsimp only
  rw [sigsR_len, Int.toNat_of_nonneg (by omega), ByteArray.append_assoc, ByteArray.append_assoc, ByteArray.append_assoc, ← d2, ← c2, ← b2, ← a2]
theorem C3_holds (b : ByteArray) : (readCertF b = (⟨0, ⟨#[]⟩, []⟩, 2)) ∨ ∃ x, readCertF b = (x, 0) ∧ rightCert x = true ∧ certF x = b := by
  unfold readCertF
  by_cases h : (certR ⟨b, false⟩).2.ok = true
  · rw [if_pos h]
    obtain ⟨h1, h2⟩ := (St.ok_nil _).1 h
    obtain ⟨_, h4, h5⟩ := certR_bwd h1
    refine .inr ⟨_, rfl, h5, ?_⟩
    rw [h2, ByteArray.append_empty] at h4
    exact h4.symm
  · rw [if_neg h]; exact .inl rfl
end Go.Proofs.Ytdhhibppcckbkaa
