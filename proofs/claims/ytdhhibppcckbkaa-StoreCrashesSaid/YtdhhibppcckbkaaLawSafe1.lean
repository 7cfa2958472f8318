import Derived.Test.YtdhhibppcckbkaaSafe6
namespace Go.Proofs.Ytdhhibppcckbkaa
open Go.RowKit Go.Shelf
set_option linter.unusedVariables false
set_option linter.unusedSimpArgs false
/-! the law SafeReads -/
theorem LogAt.keep {S : List Nat} {w w' : World} {p : Nat} {x : Lg} (h : LogAt w p x) (k : Keep S w w') (hp : p ∉ S) : LogAt w' p x := Blk.keep h k hp
theorem aw1 : (appF ⟨⟨#[]⟩, 0, -1, false⟩ ⟨#[97]⟩).1 = 0 := by simp [appF, burnF, ByteArray.size]
theorem aw2 : (appF ⟨⟨#[]⟩, 0, -1, false⟩ ⟨#[97]⟩).2.b.size = 5 := by
  have h : (appF ⟨⟨#[]⟩, 0, -1, false⟩ ⟨#[97]⟩).2.b = (⟨#[]⟩ : ByteArray) ++ textF ⟨#[97]⟩ := by simp [appF, burnF, ByteArray.size]
  rw [h, ByteArray.size_append, textF, ByteArray.size_append, numF_size]
  rfl
end Go.Proofs.Ytdhhibppcckbkaa
