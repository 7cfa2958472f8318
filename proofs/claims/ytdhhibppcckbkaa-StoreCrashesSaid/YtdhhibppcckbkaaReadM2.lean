import Derived.Test.YtdhhibppcckbkaaReadM
import Derived.Test.YtdhhibppcckbkaaWireM2
import Derived.Deep.DeepCutAuto
import Derived.Deep.CutBlock
namespace Go.Proofs.Ytdhhibppcckbkaa
open Go.RowKit
set_option linter.unusedVariables false
set_option linter.unusedSimpArgs false
def zBk : Bk := ⟨0, 0, ⟨0, ⟨#[]⟩, []⟩, []⟩
def optB (s : St) : Bk × St := if (thereR s).1 = true then blockR (thereR s).2 else (zBk, (thereR s).2)
def optC (s : St) : Ct × St := if (thereR s).1 = true then certR (thereR s).2 else (⟨0, ⟨#[]⟩, []⟩, (thereR s).2)
def optS (s : St) : Sg × St := if (thereR s).1 = true then ((sigR (thereR s).2).1, (sigR (thereR s).2).2.check (!zeroSig (sigR (thereR s).2).1)) else (⟨0, []⟩, (thereR s).2)
def optR (s : St) : Req × St := if (thereR s).1 = true then reqR (thereR s).2 else (⟨0, 0, ⟨#[]⟩⟩, (thereR s).2)
def msgR (s : St) : Ms × St :=
  let k := numR 1 7 s
  let f := numR 0 20 k.2
  let t := numR 0 20 f.2
  let v := numR 0 1000000 t.2
  let h := shortR 32 v.2
  let b := optB h.2
  let c := optC b.2
  let z := optS c.2
  let r := optR z.2
  let i := numR 0 2147483647 r.2
  let g := shortR 16 i.2
  (⟨k.1, f.1, t.1, v.1, h.1, b.1, c.1, z.1, r.1, i.1, g.1⟩, g.2)
theorem Blk.mB {w : World} {g t : Nat} {a0 a1 a2 a3 a4 a5 a6 a7 a8 a9 a10 a11 a12 a13 a14 a15 a16 a17 a18 a19 a20 : Value} (h : Blk w g #[a0, a1, a2, a3, a4, a5, a6, a7, a8, a9, a10, a11, a12, a13, a14, a15, a16, a17, a18, a19, a20] t) (b5 b6 b7 b8 b9 b10 : Value) : Blk ((((((w.setCell ⟨g, 5, none⟩ b5).setCell ⟨g, 6, none⟩ b6).setCell ⟨g, 7, none⟩ b7).setCell ⟨g, 8, none⟩ b8).setCell ⟨g, 9, none⟩ b9).setCell ⟨g, 10, none⟩ b10) g #[a0, a1, a2, a3, a4, b5, b6, b7, b8, b9, b10, a11, a12, a13, a14, a15, a16, a17, a18, a19, a20] t := by
  simpa using ((((((h.set 5 b5).set 6 b6).set 7 b7).set 8 b8).set 9 b9).set 10 b10)
theorem Keep.mB {S : List Nat} {a b : World} (h : Keep S a b) (g : Nat) (b5 b6 b7 b8 b9 b10 : Value) (hp : g ∈ S ∨ a.heap.size ≤ g) : Keep S a ((((((b.setCell ⟨g, 5, none⟩ b5).setCell ⟨g, 6, none⟩ b6).setCell ⟨g, 7, none⟩ b7).setCell ⟨g, 8, none⟩ b8).setCell ⟨g, 9, none⟩ b9).setCell ⟨g, 10, none⟩ b10) :=
  ((((((h.setCell _ _ hp).setCell _ _ hp).setCell _ _ hp).setCell _ _ hp).setCell _ _ hp).setCell _ _ hp)
theorem Blk.mC {w : World} {g t : Nat} {a0 a1 a2 a3 a4 a5 a6 a7 a8 a9 a10 a11 a12 a13 a14 a15 a16 a17 a18 a19 a20 : Value} (h : Blk w g #[a0, a1, a2, a3, a4, a5, a6, a7, a8, a9, a10, a11, a12, a13, a14, a15, a16, a17, a18, a19, a20] t) (b11 b12 b13 : Value) : Blk (((w.setCell ⟨g, 11, none⟩ b11).setCell ⟨g, 12, none⟩ b12).setCell ⟨g, 13, none⟩ b13) g #[a0, a1, a2, a3, a4, a5, a6, a7, a8, a9, a10, b11, b12, b13, a14, a15, a16, a17, a18, a19, a20] t := by
  simpa using (((h.set 11 b11).set 12 b12).set 13 b13)
theorem Keep.mC {S : List Nat} {a b : World} (h : Keep S a b) (g : Nat) (b11 b12 b13 : Value) (hp : g ∈ S ∨ a.heap.size ≤ g) : Keep S a (((b.setCell ⟨g, 11, none⟩ b11).setCell ⟨g, 12, none⟩ b12).setCell ⟨g, 13, none⟩ b13) :=
  (((h.setCell _ _ hp).setCell _ _ hp).setCell _ _ hp)
theorem Blk.mS {w : World} {g t : Nat} {a0 a1 a2 a3 a4 a5 a6 a7 a8 a9 a10 a11 a12 a13 a14 a15 a16 a17 a18 a19 a20 : Value} (h : Blk w g #[a0, a1, a2, a3, a4, a5, a6, a7, a8, a9, a10, a11, a12, a13, a14, a15, a16, a17, a18, a19, a20] t) (b14 b15 : Value) : Blk ((w.setCell ⟨g, 14, none⟩ b14).setCell ⟨g, 15, none⟩ b15) g #[a0, a1, a2, a3, a4, a5, a6, a7, a8, a9, a10, a11, a12, a13, b14, b15, a16, a17, a18, a19, a20] t := by
  simpa using ((h.set 14 b14).set 15 b15)
theorem Keep.mS {S : List Nat} {a b : World} (h : Keep S a b) (g : Nat) (b14 b15 : Value) (hp : g ∈ S ∨ a.heap.size ≤ g) : Keep S a ((b.setCell ⟨g, 14, none⟩ b14).setCell ⟨g, 15, none⟩ b15) :=
  ((h.setCell _ _ hp).setCell _ _ hp)
theorem Blk.mR {w : World} {g t : Nat} {a0 a1 a2 a3 a4 a5 a6 a7 a8 a9 a10 a11 a12 a13 a14 a15 a16 a17 a18 a19 a20 : Value} (h : Blk w g #[a0, a1, a2, a3, a4, a5, a6, a7, a8, a9, a10, a11, a12, a13, a14, a15, a16, a17, a18, a19, a20] t) (b16 b17 b18 : Value) : Blk (((w.setCell ⟨g, 16, none⟩ b16).setCell ⟨g, 17, none⟩ b17).setCell ⟨g, 18, none⟩ b18) g #[a0, a1, a2, a3, a4, a5, a6, a7, a8, a9, a10, a11, a12, a13, a14, a15, b16, b17, b18, a19, a20] t := by
  simpa using (((h.set 16 b16).set 17 b17).set 18 b18)
theorem Keep.mR {S : List Nat} {a b : World} (h : Keep S a b) (g : Nat) (b16 b17 b18 : Value) (hp : g ∈ S ∨ a.heap.size ≤ g) : Keep S a (((b.setCell ⟨g, 16, none⟩ b16).setCell ⟨g, 17, none⟩ b17).setCell ⟨g, 18, none⟩ b18) :=
  (((h.setCell _ _ hp).setCell _ _ hp).setCell _ _ hp)
theorem Blk.mI {w : World} {g t : Nat} {a0 a1 a2 a3 a4 a5 a6 a7 a8 a9 a10 a11 a12 a13 a14 a15 a16 a17 a18 a19 a20 : Value} (h : Blk w g #[a0, a1, a2, a3, a4, a5, a6, a7, a8, a9, a10, a11, a12, a13, a14, a15, a16, a17, a18, a19, a20] t) (b19 : Value) : Blk (w.setCell ⟨g, 19, none⟩ b19) g #[a0, a1, a2, a3, a4, a5, a6, a7, a8, a9, a10, a11, a12, a13, a14, a15, a16, a17, a18, b19, a20] t := by
  simpa using (h.set 19 b19)
theorem Keep.mI {S : List Nat} {a b : World} (h : Keep S a b) (g : Nat) (b19 : Value) (hp : g ∈ S ∨ a.heap.size ≤ g) : Keep S a (b.setCell ⟨g, 19, none⟩ b19) :=
  (h.setCell _ _ hp)
theorem Blk.mG {w : World} {g t : Nat} {a0 a1 a2 a3 a4 a5 a6 a7 a8 a9 a10 a11 a12 a13 a14 a15 a16 a17 a18 a19 a20 : Value} (h : Blk w g #[a0, a1, a2, a3, a4, a5, a6, a7, a8, a9, a10, a11, a12, a13, a14, a15, a16, a17, a18, a19, a20] t) (b20 : Value) : Blk (w.setCell ⟨g, 20, none⟩ b20) g #[a0, a1, a2, a3, a4, a5, a6, a7, a8, a9, a10, a11, a12, a13, a14, a15, a16, a17, a18, a19, b20] t := by
  simpa using (h.set 20 b20)
theorem Keep.mG {S : List Nat} {a b : World} (h : Keep S a b) (g : Nat) (b20 : Value) (hp : g ∈ S ∨ a.heap.size ≤ g) : Keep S a (b.setCell ⟨g, 20, none⟩ b20) :=
  (h.setCell _ _ hp)
theorem Blk.m21 {w : World} {g t : Nat} {a0 a1 a2 a3 a4 a5 a6 a7 a8 a9 a10 a11 a12 a13 a14 a15 a16 a17 a18 a19 a20 : Value} (h : Blk w g #[a0, a1, a2, a3, a4, a5, a6, a7, a8, a9, a10, a11, a12, a13, a14, a15, a16, a17, a18, a19, a20] t) (b0 b1 b2 b3 b4 b5 b6 b7 b8 b9 b10 b11 b12 b13 b14 b15 b16 b17 b18 b19 b20 : Value) : Blk (((((((((((((((((((((w.setCell ⟨g, 0, none⟩ b0).setCell ⟨g, 1, none⟩ b1).setCell ⟨g, 2, none⟩ b2).setCell ⟨g, 3, none⟩ b3).setCell ⟨g, 4, none⟩ b4).setCell ⟨g, 5, none⟩ b5).setCell ⟨g, 6, none⟩ b6).setCell ⟨g, 7, none⟩ b7).setCell ⟨g, 8, none⟩ b8).setCell ⟨g, 9, none⟩ b9).setCell ⟨g, 10, none⟩ b10).setCell ⟨g, 11, none⟩ b11).setCell ⟨g, 12, none⟩ b12).setCell ⟨g, 13, none⟩ b13).setCell ⟨g, 14, none⟩ b14).setCell ⟨g, 15, none⟩ b15).setCell ⟨g, 16, none⟩ b16).setCell ⟨g, 17, none⟩ b17).setCell ⟨g, 18, none⟩ b18).setCell ⟨g, 19, none⟩ b19).setCell ⟨g, 20, none⟩ b20) g #[b0, b1, b2, b3, b4, b5, b6, b7, b8, b9, b10, b11, b12, b13, b14, b15, b16, b17, b18, b19, b20] t := by
  simpa using (((((((((((((((((((((h.set 0 b0).set 1 b1).set 2 b2).set 3 b3).set 4 b4).set 5 b5).set 6 b6).set 7 b7).set 8 b8).set 9 b9).set 10 b10).set 11 b11).set 12 b12).set 13 b13).set 14 b14).set 15 b15).set 16 b16).set 17 b17).set 18 b18).set 19 b19).set 20 b20)
theorem Keep.m21 {S : List Nat} {a b : World} (h : Keep S a b) (g : Nat) (b0 b1 b2 b3 b4 b5 b6 b7 b8 b9 b10 b11 b12 b13 b14 b15 b16 b17 b18 b19 b20 : Value) (hp : g ∈ S ∨ a.heap.size ≤ g) : Keep S a (((((((((((((((((((((b.setCell ⟨g, 0, none⟩ b0).setCell ⟨g, 1, none⟩ b1).setCell ⟨g, 2, none⟩ b2).setCell ⟨g, 3, none⟩ b3).setCell ⟨g, 4, none⟩ b4).setCell ⟨g, 5, none⟩ b5).setCell ⟨g, 6, none⟩ b6).setCell ⟨g, 7, none⟩ b7).setCell ⟨g, 8, none⟩ b8).setCell ⟨g, 9, none⟩ b9).setCell ⟨g, 10, none⟩ b10).setCell ⟨g, 11, none⟩ b11).setCell ⟨g, 12, none⟩ b12).setCell ⟨g, 13, none⟩ b13).setCell ⟨g, 14, none⟩ b14).setCell ⟨g, 15, none⟩ b15).setCell ⟨g, 16, none⟩ b16).setCell ⟨g, 17, none⟩ b17).setCell ⟨g, 18, none⟩ b18).setCell ⟨g, 19, none⟩ b19).setCell ⟨g, 20, none⟩ b20) :=
  (((((((((((((((((((((h.setCell _ _ hp).setCell _ _ hp).setCell _ _ hp).setCell _ _ hp).setCell _ _ hp).setCell _ _ hp).setCell _ _ hp).setCell _ _ hp).setCell _ _ hp).setCell _ _ hp).setCell _ _ hp).setCell _ _ hp).setCell _ _ hp).setCell _ _ hp).setCell _ _ hp).setCell _ _ hp).setCell _ _ hp).setCell _ _ hp).setCell _ _ hp).setCell _ _ hp).setCell _ _ hp)
end Go.Proofs.Ytdhhibppcckbkaa
