import Derived.Test.YtdhhibppcckbkaaRead2
import Derived.Test.YtdhhibppcckbkaaRef
namespace Go.Proofs.Ytdhhibppcckbkaa
open Go.RowKit
set_option linter.unusedVariables false
set_option linter.unusedSimpArgs false
/-! what is written is read, and the other way round: numbers, texts, requests -/
theorem numF_bytes (n : Int) (h : 0 ≤ n ∧ n ≤ 2147483647) : (numF n).data.toList = [UInt8.ofNat (n / 16777216).toNat, UInt8.ofNat (n / 65536 % 256).toNat, UInt8.ofNat (n / 256 % 256).toNat, UInt8.ofNat (n % 256).toNat] := by
  unfold numF; rw [if_pos h]; rfl
theorem ofNat_toNat (n : Nat) (h : n < 256) : (UInt8.ofNat n).toNat = n := by
  rw [UInt8.toNat_ofNat']; exact Nat.mod_eq_of_lt h
theorem be_numF (n : Int) (h : 0 ≤ n ∧ n ≤ 2147483647) : be (numF n).data.toList = n := by
  rw [numF_bytes n h]
  obtain ⟨h0, h1⟩ := h
  simp only [be, List.foldl_cons, List.foldl_nil]
  rw [ofNat_toNat _ (by omega), ofNat_toNat _ (by omega), ofNat_toNat _ (by omega), ofNat_toNat _ (by omega)]
  omega
theorem list4 {α : Type} (l : List α) (h : l.length = 4) : ∃ a b c d, l = [a, b, c, d] := by
  match l, h with
  | [a, b, c, d], _ => exact ⟨a, b, c, d, rfl⟩
theorem numF_be (t : ByteArray) (ht : t.size = 4) (h : be t.data.toList ≤ 2147483647) : numF (be t.data.toList) = t := by
  have h0 := (be_bound t.data.toList 4 (by simp; omega)).1
  apply ByteArray.ext
  rw [← Array.toList_inj, numF_bytes _ ⟨h0, h⟩]
  obtain ⟨a, b, c, d, e⟩ := list4 t.data.toList (by simpa using ht)
  rw [e] at h ⊢
  simp only [be, List.foldl_cons, List.foldl_nil] at h ⊢
  have ha := a.toNat_lt
  have hb := b.toNat_lt
  have hc := c.toNat_lt
  have hd := d.toNat_lt
  have e1 : ((((0 * 256 + (a.toNat : Int)) * 256 + b.toNat) * 256 + c.toNat) * 256 + d.toNat) / 16777216 = (a.toNat : Int) := by omega
  have e2 : ((((0 * 256 + (a.toNat : Int)) * 256 + b.toNat) * 256 + c.toNat) * 256 + d.toNat) / 65536 % 256 = (b.toNat : Int) := by omega
  have e3 : ((((0 * 256 + (a.toNat : Int)) * 256 + b.toNat) * 256 + c.toNat) * 256 + d.toNat) / 256 % 256 = (c.toNat : Int) := by omega
  have e4 : ((((0 * 256 + (a.toNat : Int)) * 256 + b.toNat) * 256 + c.toNat) * 256 + d.toNat) % 256 = (d.toNat : Int) := by omega
  rw [e1, e2, e3, e4]
  simp
theorem numF_inj {m n : Int} (hm : 0 ≤ m ∧ m ≤ 2147483647) (hn : 0 ≤ n ∧ n ≤ 2147483647) (h : numF m = numF n) : m = n := by
  rw [← be_numF m hm, ← be_numF n hn, h]

/-! forward -/
theorem cutF_fwd (x y : ByteArray) (n : Int) (h : n = x.size) : cutF n ⟨x ++ y, false⟩ = (x, ⟨y, false⟩) := by
  subst h
  unfold cutF
  rw [if_pos ⟨rfl, by omega, by simp [ByteArray.size_append]; omega⟩]
  simp only [Int.toNat_natCast]
  rw [ByteArray.extract_append_eq_left rfl, ByteArray.extract_append_eq_right rfl (by rw [ByteArray.size_append])]
theorem numR_fwd (lo hi n : Int) (y : ByteArray) (h0 : 0 ≤ n) (h1 : n ≤ 2147483647) (h2 : lo ≤ n) (h3 : n ≤ hi) : numR lo hi ⟨numF n ++ y, false⟩ = (n, ⟨y, false⟩) := by
  unfold numR
  rw [cutF_fwd _ _ _ (by rw [numF_size]; rfl)]
  dsimp only
  rw [be_numF n ⟨h0, h1⟩, if_pos ⟨rfl, h2, h3⟩]
theorem textR_fwd (most : Int) (t y : ByteArray) (h : (t.size : Int) ≤ most) (hm : most ≤ 2147483647) : textR most ⟨textF t ++ y, false⟩ = (t, ⟨y, false⟩) := by
  unfold textR textF
  rw [ByteArray.append_assoc, numR_fwd 0 most t.size _ (by omega) (by omega) (by omega) h]
  exact cutF_fwd t y _ rfl
theorem rightReq_iff (r : Req) : rightReq r = true ↔ 0 ≤ r.c ∧ r.c < 4 ∧ 1 ≤ r.s ∧ r.s ≤ 2147483647 ∧ (r.b.size : Int) ≤ 40 := by
  simp [rightReq, and_assoc]
theorem reqR_fwd (r : Req) (y : ByteArray) (h : rightReq r = true) : reqR ⟨reqF r ++ y, false⟩ = (r, ⟨y, false⟩) := by
  obtain ⟨h1, h2, h3, h4, h5⟩ := (rightReq_iff r).1 h
  unfold reqR reqF
  dsimp only
  rw [ByteArray.append_assoc, ByteArray.append_assoc, numR_fwd 0 3 r.c _ h1 (by omega) h1 (by omega)]
  dsimp only
  rw [numR_fwd 1 2147483647 r.s _ (by omega) h4 h3 h4]
  dsimp only
  rw [textR_fwd 40 r.b y h5 (by omega)]
theorem St.ok_nil (s : St) : s.ok = true ↔ s.bad = false ∧ s.b = ByteArray.empty := by
  unfold St.ok
  rw [ByteArray.toList_eq]
  constructor
  · intro h
    simp at h
    exact ⟨h.1, ByteArray.ext (by rw [h.2]; rfl)⟩
  · rintro ⟨h1, h2⟩
    rw [h1, h2]; rfl
theorem P1_holds (r : Req) (h : rightReq r = true) : readReqF (reqF r) = (r, 0) := by
  have e := reqR_fwd r ByteArray.empty h
  rw [ByteArray.append_empty] at e
  unfold readReqF
  rw [e, if_pos ((St.ok_nil _).2 ⟨rfl, rfl⟩)]

/-! backward -/
theorem cutF_bwd {n : Int} {s : St} (h : (cutF n s).2.bad = false) : s.bad = false ∧ s.b = (cutF n s).1 ++ (cutF n s).2.b ∧ ((cutF n s).1.size : Int) = n := by
  unfold cutF at h ⊢
  split at h
  · rename_i hc
    obtain ⟨h1, h2, h3⟩ := hc
    rw [if_pos ⟨h1, h2, h3⟩]
    refine ⟨h1, ?_, ?_⟩
    · dsimp only
      rw [ByteArray.extract_append_extract]
      simp
    · dsimp only
      rw [ByteArray.size_extract]; omega
  · cases h
theorem numR_bwd {lo hi : Int} {s : St} (hhi : hi ≤ 2147483647) (h : (numR lo hi s).2.bad = false) :
    s.bad = false ∧ s.b = numF (numR lo hi s).1 ++ (numR lo hi s).2.b ∧ lo ≤ (numR lo hi s).1 ∧ (numR lo hi s).1 ≤ hi := by
  unfold numR at h ⊢
  dsimp only at h ⊢
  split at h
  · rename_i hc
    obtain ⟨h1, h2, h3⟩ := hc
    rw [if_pos ⟨h1, h2, h3⟩]
    obtain ⟨b1, b2, b3⟩ := cutF_bwd h1
    dsimp only
    exact ⟨b1, by rw [numF_be _ (by omega) (by omega)]; exact b2, h2, h3⟩
  · cases h
theorem textR_bwd {most : Int} {s : St} (hm : most ≤ 2147483647) (h : (textR most s).2.bad = false) :
    s.bad = false ∧ s.b = textF (textR most s).1 ++ (textR most s).2.b ∧ ((textR most s).1.size : Int) ≤ most := by
  unfold textR at h ⊢
  dsimp only at h ⊢
  obtain ⟨b1, b2, b3⟩ := cutF_bwd h
  obtain ⟨c1, c2, c3, c4⟩ := numR_bwd hm b1
  exact ⟨c1, by unfold textF; rw [ByteArray.append_assoc, ← b2, b3]; exact c2, by omega⟩
theorem reqR_bwd {s : St} (h : (reqR s).2.bad = false) : s.bad = false ∧ s.b = reqF (reqR s).1 ++ (reqR s).2.b ∧ rightReq (reqR s).1 = true := by
  unfold reqR at h ⊢
  dsimp only at h ⊢
  obtain ⟨c1, c2, c3⟩ := textR_bwd (by omega) h
  obtain ⟨b1, b2, b3, b4⟩ := numR_bwd (by omega) c1
  obtain ⟨a1, a2, a3, a4⟩ := numR_bwd (by omega) b1
  refine ⟨a1, ?_, (rightReq_iff _).2 ⟨a3, by dsimp only; omega, b3, b4, c3⟩⟩
  unfold reqF
  dsimp only
  rw [ByteArray.append_assoc, ByteArray.append_assoc, ← c2, ← b2, ← a2]
theorem P2_holds (b : ByteArray) : (readReqF b = (⟨0, 0, ⟨#[]⟩⟩, 2)) ∨ ∃ x, readReqF b = (x, 0) ∧ rightReq x = true ∧ reqF x = b := by
  unfold readReqF
  by_cases h : (reqR ⟨b, false⟩).2.ok = true
  · rw [if_pos h]
    obtain ⟨h1, h2⟩ := (St.ok_nil _).1 h
    obtain ⟨_, h4, h5⟩ := reqR_bwd h1
    refine .inr ⟨_, rfl, h5, ?_⟩
    rw [h2, ByteArray.append_empty] at h4
    exact h4.symm
  · rw [if_neg h]; exact .inl rfl
end Go.Proofs.Ytdhhibppcckbkaa
