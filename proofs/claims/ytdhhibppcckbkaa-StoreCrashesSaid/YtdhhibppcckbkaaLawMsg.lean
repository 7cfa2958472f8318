import Derived.Test.YtdhhibppcckbkaaRefO
import Derived.Test.YtdhhibppcckbkaaStrc2
import Derived.Test.YtdhhibppcckbkaaLawBlock
namespace Go.Proofs.Ytdhhibppcckbkaa
open Go.RowKit
set_option linter.unusedVariables false
set_option linter.unusedSimpArgs false
/-! the law WireMsgs -/
theorem fewMsg_sz {x : Ms} (h : fewMsg x = true) : MsSz x := by
  simp only [fewMsg, Bool.and_eq_true] at h
  have h1 := fewBlock_size x.b h.1
  have h2 := fewCert_size x.c h.2.1
  have h3 := fewSig_size x.s h.2.2.1
  exact ⟨by omega, by omega, by omega⟩
theorem maybeF_part (z : Bool) (b : ByteArray) (n m : Nat) (h0 : z = true → b.size ≤ m) (h : (maybeF z b).size ≤ n) (hm : m ≤ n) : b.size ≤ n := by
  cases z
  · have e : (maybeF false b).size = 1 + b.size := by unfold maybeF; rw [if_neg (by simp), ByteArray.size_append]; rfl
    omega
  · have := h0 rfl; omega
theorem MsSz.of_size {x : Ms} (h : (msgF x).size ≤ 1000000) : MsSz x := by
  unfold msgF at h
  simp only [ByteArray.size_append] at h
  have z1 : (blockF zBk).size ≤ 100 := by decide +kernel
  have z2 : (certF ⟨0, ⟨#[]⟩, []⟩).size ≤ 100 := by decide +kernel
  have z3 : (sigF ⟨0, []⟩).size ≤ 100 := by decide +kernel
  have h1 := maybeF_part (zeroBlock x.b) (blockF x.b) 1000000 100 (fun hz => by rw [zeroBlock_eq hz]; exact z1) (by omega) (by omega)
  have h2 := maybeF_part (zeroCert x.c) (certF x.c) 1000000 100 (fun hz => by rw [zeroCert_eq hz]; exact z2) (by omega) (by omega)
  have h3 := maybeF_part (zeroSig x.s) (sigF x.s) 1000000 100 (fun hz => by rw [zeroSig_eq hz]; exact z3) (by omega) (by omega)
  exact ⟨by omega, by omega, by omega⟩
theorem zM_sz : MsSz zM := MsSz.of_size (by decide +kernel)
theorem fewMsg_small {x : Ms} (h : fewMsg x = true) : (msgF x).size ≤ 20000 := by
  simp only [fewMsg, Bool.and_eq_true, decide_eq_true_eq] at h
  have h1 := fewBlock_size x.b h.1
  have h2 := fewCert_size x.c h.2.1
  have h3 := fewSig_size x.s h.2.2.1
  unfold msgF
  have z4 : (textF x.h).size = 4 + x.h.size := by unfold textF; rw [ByteArray.size_append, numF_size]
  have z10 : (textF x.g).size = 4 + x.g.size := by unfold textF; rw [ByteArray.size_append, numF_size]
  have z5 := maybeF_le (zeroBlock x.b) (blockF x.b)
  have z6 := maybeF_le (zeroCert x.c) (certF x.c)
  have z7 := maybeF_le (zeroSig x.s) (sigF x.s)
  have z8 := maybeF_le (zeroReq x.r) (reqF x.r)
  have zr : (reqF x.r).size = 12 + x.r.b.size := by unfold reqF textF; simp only [ByteArray.size_append, numF_size]; omega
  simp only [ByteArray.size_append, numF_size]
  omega
end Go.Proofs.Ytdhhibppcckbkaa
