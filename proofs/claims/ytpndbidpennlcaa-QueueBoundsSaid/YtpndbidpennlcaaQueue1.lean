import Derived.Test.YtpndbidpennlcaaRefO
import Derived.Test.YtpndbidpennlcaaStrc2
import Derived.Test.YtpndbidpennlcaaLawMsg
import Derived.Test.YtpndbidpennlcaaDel2
namespace Go.Proofs.Ytpndbidpennlcaa
open Go.RowKit
set_option linter.unusedVariables false
set_option linter.unusedSimpArgs false
/-! the queue: small functions -/
def QAt (w : World) (q : Nat) (va vb : Value) (d : Int) : Prop := Blk w q #[va, vb, .int .i64 d] 63
def laneF (k : Int) : Int := if k = 4 ∨ k = 5 then 1 else 0
theorem lane_call (x : Ms) (v1 v2 v3 v4 : Value) (w : World) :
    Calls Try.prog 30 #[.agg (msgV x v1 v2 v3 v4)] w fun e w' => e = .returned (.int .i64 (laneF x.k)) ∧ Keep [] w w' := by
  have HE : Hid (laneF x.k = if x.k = 4 ∨ x.k = 5 then 1 else 0) := Lib.hid rfl
  generalize laneF x.k = out at *
  go_enter Try.func30, Try.ntmps30
  go_upto_region 1 with (first | ((with_reducible refine wl_box 38 (.tmp 0) ?_ ?_); (with_reducible rfl); refine sx_box rfl 38 (.tmp 0) rfl (msgV x v1 v2 v3 v4) rfl ?_; intro w0 b0 k0 z0; clear z0; (try simp only [Act.put, List.setIfInBounds_toArray, List.set_cons_zero, List.set_cons_succ])))
  have c0 : w0.cell? ⟨w.heap.size, 0, none⟩ = some (.int .i64 x.k) := b0.cell 0
  by_cases h4 : x.k = 4
  · have t4 : (x.k == 4) = true := by simp [h4]
    rw [if_pos (.inl h4)] at HE
    clear h4
    go_wp2
    go_ret
    exact ⟨by rw [HE.out]; rfl, k0⟩
  · have t4 : (x.k == 4) = false := by simp [h4]
    by_cases h5 : x.k = 5
    · have t5 : (x.k == 5) = true := by simp [h5]
      rw [if_pos (.inr h5)] at HE
      clear h4 h5
      go_wp2
      go_ret
      exact ⟨by rw [HE.out]; rfl, k0⟩
    · have t5 : (x.k == 5) = false := by simp [h5]
      rw [if_neg (by omega)] at HE
      clear h4 h5
      go_wp2
      go_ret
      exact ⟨by rw [HE.out]; rfl, k0⟩
theorem qnew_call (w : World) : Calls Try.prog 7 #[] w fun e w' => ∃ q, e = .returned (.pointer (some ⟨q, 0, none⟩)) ∧ w.heap.size ≤ q ∧ QAt w' q (.slice none 0 0) (.slice none 0 0) 0 ∧ Keep [] w w' := by
  go_enter Try.func7, Try.ntmps7
  go_wp2
  go_ret
  exact ⟨w.heap.size, rfl, Nat.le_refl _, Blk.new _ _ _, (Keep.refl _ _).alloc _⟩
theorem qlen_call (q : Nat) (A B : Option Addr) (a b c1 c2 : Nat) (d : Int) (w : World) (h : QAt w q (.slice A a c1) (.slice B b c2) d) (ha : a ≤ 1000000) (hb : b ≤ 1000000) :
    Calls Try.prog 14 #[.pointer (some ⟨q, 0, none⟩)] w fun e w' => e = .returned (.int .i64 ((a : Int) + b)) ∧ Keep [] w w' := by
  have c0 : w.cell? ⟨q, 0, none⟩ = some (.slice A a c1) := Blk.cell h 0
  have c1 : w.cell? ⟨q, 1, none⟩ = some (.slice B b c2) := Blk.cell h 1
  go_enter Try.func14, Try.ntmps14
  go_wp2
  go_quiet (fail)
  go_wp2
  go_ret
  exact ⟨rfl, (Keep.refl _ _).drewN _⟩
theorem qdropped_call (q : Nat) (va vb : Value) (d : Int) (w : World) (h : QAt w q va vb d) :
    Calls Try.prog 11 #[.pointer (some ⟨q, 0, none⟩)] w fun e w' => e = .returned (.int .i64 d) ∧ w = w' := by
  have c0 : w.cell? ⟨q, 2, none⟩ = some (.int .i64 d) := Blk.cell h 2
  go_enter Try.func11, Try.ntmps11
  go_wp2
  go_ret
  exact ⟨rfl, rfl⟩
theorem qlanes_call (q : Nat) (A B : Option Addr) (a b c1 c2 : Nat) (d : Int) (w : World) (h : QAt w q (.slice A a c1) (.slice B b c2) d) :
    Calls Try.prog 10 #[.pointer (some ⟨q, 0, none⟩)] w fun e w' => e = .returned (.tuple #[.int .i64 (a : Nat), .int .i64 (b : Nat)]) ∧ Keep [] w w' := by
  have c0 : w.cell? ⟨q, 0, none⟩ = some (.slice A a c1) := Blk.cell h 0
  have c1 : w.cell? ⟨q, 1, none⟩ = some (.slice B b c2) := Blk.cell h 1
  go_enter Try.func10, Try.ntmps10
  go_wp2
  go_quiet (fail)
  go_wp2
  go_ret2
  exact ⟨rfl, (Keep.refl _ _).drewN _⟩
theorem qclear_call (q : Nat) (A B : Option Addr) (a b c1 c2 : Nat) (d : Int) (w : World) (h : QAt w q (.slice A a c1) (.slice B b c2) d) :
    Calls Try.prog 18 #[.pointer (some ⟨q, 0, none⟩)] w fun e w' => e = .returned (.tuple #[]) ∧ QAt w' q (.slice none 0 0) (.slice none 0 0) d ∧ Keep [q] w w' := by
  have c0 : w.cell? ⟨q, 0, none⟩ = some (.slice A a c1) := Blk.cell h 0
  have c1 : w.cell? ⟨q, 1, none⟩ = some (.slice B b c2) := Blk.cell h 1
  have f0 := Blk.frozen h 0
  have f1 := Blk.frozen h 1
  have H := Lib.hid h
  clear h
  go_enter Try.func18, Try.ntmps18
  go_wp2
  go_end0
  have h1 := ((Blk.set H.out 0 (.slice none 0 0)).set 1 (.slice none 0 0))
  exact ⟨rfl, by simpa [QAt] using h1, ((Keep.refl [q] w).setCell _ _ (.inl (by simp))).setCell _ _ (.inl (by simp))⟩
end Go.Proofs.Ytpndbidpennlcaa
