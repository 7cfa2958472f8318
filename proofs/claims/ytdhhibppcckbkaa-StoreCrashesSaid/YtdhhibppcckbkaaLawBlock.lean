import Derived.Test.YtdhhibppcckbkaaThy3
import Derived.Test.YtdhhibppcckbkaaLawCert
namespace Go.Proofs.Ytdhhibppcckbkaa
open Go.RowKit
set_option linter.unusedVariables false
set_option linter.unusedSimpArgs false
theorem fewBlock_size (x : Bk) (h : fewBlock x = true) : (blockF x).size ≤ 5000 ∧ (coreF x).size ≤ 5000 := by
  unfold fewBlock at h
  simp only [Bool.and_eq_true, decide_eq_true_eq, List.all_eq_true] at h
  have h1 := cat_size_le 72 (x.q.map reqF) (fun t ht => by
    obtain ⟨r, hr, rfl⟩ := List.mem_map.1 ht
    have := h.1.1 r (by rwa [List.take_of_length_le (by omega)])
    unfold reqF textF
    rw [ByteArray.size_append, ByteArray.size_append, ByteArray.size_append, numF_size, numF_size, numF_size]
    omega)
  have h2 := fewCert_size x.j h.2
  have h5 : (x.j.h.size : Int) ≤ 50 := by
    have := h.2
    unfold fewCert at this
    simp only [Bool.and_eq_true, decide_eq_true_eq] at this
    exact this.2
  rw [List.length_map] at h1
  have h3 := h.1.2
  have h4 : 72 * x.q.length ≤ 432 := by omega
  unfold blockF coreF batchF
  simp only [ByteArray.size_append, numF_size]
  omega
theorem zeroBlock_zero : zeroBlock ⟨0, 0, ⟨0, ⟨#[]⟩, []⟩, []⟩ = true := by decide +kernel
end Go.Proofs.Ytdhhibppcckbkaa
