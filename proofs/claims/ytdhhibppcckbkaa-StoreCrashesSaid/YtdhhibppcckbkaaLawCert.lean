import Derived.Test.YtdhhibppcckbkaaThy2
import Derived.Test.YtdhhibppcckbkaaRefD
import Derived.Test.YtdhhibppcckbkaaLawReq
namespace Go.Proofs.Ytdhhibppcckbkaa
open Go.RowKit
set_option linter.unusedVariables false
set_option linter.unusedSimpArgs false
theorem cat_size_le (n : Nat) : ∀ (l : List ByteArray), (∀ t ∈ l, t.size ≤ n) → (cat l).size ≤ n * l.length
  | [], _ => by simp [cat_nil]
  | a :: l, h => by
    rw [cat_cons, ByteArray.size_append, List.length_cons, Nat.mul_add, Nat.mul_one]
    have h1 := h a (by simp)
    have h2 := cat_size_le n l (fun t ht => h t (by simp [ht]))
    omega
theorem fewSig_size (x : Sg) (h : fewSig x = true) : (sigF x).size ≤ 308 := by
  unfold fewSig at h
  simp only [Bool.and_eq_true, decide_eq_true_eq, List.all_eq_true] at h
  have h1 := cat_size_le 30 x.ts (fun t ht => by
    have := h.1 t (by rwa [List.take_of_length_le (by omega)])
    omega)
  unfold sigF
  rw [ByteArray.size_append, ByteArray.size_append, numF_size, numF_size]
  have h2 := h.2
  have h3 : 30 * x.ts.length ≤ 300 := by omega
  omega
theorem fewCert_size (x : Ct) (h : fewCert x = true) : (certF x).size ≤ 3200 := by
  unfold fewCert at h
  simp only [Bool.and_eq_true, decide_eq_true_eq, List.all_eq_true] at h
  have h1 := cat_size_le 308 (x.sg.map sigF) (fun t ht => by
    obtain ⟨s, hs, rfl⟩ := List.mem_map.1 ht
    exact fewSig_size s (h.1.1 s (by rwa [List.take_of_length_le (by omega)])))
  unfold certF
  rw [ByteArray.size_append, ByteArray.size_append, ByteArray.size_append, numF_size, numF_size]
  rw [List.length_map] at h1
  have h2 := h.1.2
  have h4 := h.2
  have h3 : 308 * x.sg.length ≤ 3080 := by omega
  omega
theorem toList_beq (a : ByteArray) : (a.toList == a.toList) = true := by simp
theorem zeroCert_zero : zeroCert ⟨0, ⟨#[]⟩, []⟩ = true := by decide +kernel
end Go.Proofs.Ytdhhibppcckbkaa
