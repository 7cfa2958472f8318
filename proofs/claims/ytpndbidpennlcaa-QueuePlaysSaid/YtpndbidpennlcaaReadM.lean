import Derived.Test.YtpndbidpennlcaaRead7
import Derived.Test.YtpndbidpennlcaaWireM
namespace Go.Proofs.Ytpndbidpennlcaa
open Go.RowKit
set_option linter.unusedVariables false
set_option linter.unusedSimpArgs false
/-! the reader of messages: small functions -/
def thereR (s : St) : Bool × St :=
  let a := cutF 1 s
  let s2 := a.2.check (a.1.toList == [0] || a.1.toList == [1])
  (!s2.bad && a.1.toList == [1], s2)
def shortR (n : Int) (s : St) : ByteArray × St :=
  let a := textR n s
  (a.1, a.2.check ((a.1.size : Int) == 0 || (a.1.size : Int) == n))
set_option maxHeartbeats 400000 in
theorem thereR_call (g : Nat) (s : St) (w : World) (h : Rd w g s.b s.bad) :
    Calls Try.prog 45 #[.pointer (some ⟨g, 0, none⟩)] w fun e w' => e = .returned (.bool (thereR s).1) ∧ Rd w' g (thereR s).2.b (thereR s).2.bad ∧ Keep [g] w w' := by
  have HE : Hid (thereR s = (!((cutF 1 s).2.check ((cutF 1 s).1.toList == [0] || (cutF 1 s).1.toList == [1])).bad && (cutF 1 s).1.toList == [1], (cutF 1 s).2.check ((cutF 1 s).1.toList == [0] || (cutF 1 s).1.toList == [1]))) := Lib.hid rfl
  generalize thereR s = out at *
  go_enter Try.func45, Try.ntmps45
  go_wp2_with fail
  refine (cut_call g s 1 _ h).mono ?_
  rintro e w1 ⟨rfl, r1, k1⟩
  generalize cutF 1 s = a at *
  obtain ⟨c, s1⟩ := a
  dsimp only at *
  by_cases h0 : c.toList = [0]
  · have h1 : ¬ c.toList = [1] := by rw [h0]; decide
    have HE2 : Hid (out = (false, s1.check true)) := Lib.hid (by rw [HE.out]; simp [h0])
    go_wp2_with fail
    refine (check_call g s1 true _ r1).mono ?_
    rintro e w2 ⟨rfl, r2, k2⟩
    generalize s1.check true = s2 at *
    have c1 := r2.c1
    have HB : Hid (s2.bad = s2.bad) := Lib.hid rfl
    go_wp2
    all_goals
      go_ret
      rw [HE2.out]
      exact ⟨by simp, r2, k1.trans k2⟩
  · by_cases h1 : c.toList = [1]
    · have HE2 : Hid (out = (!(s1.check true).bad, s1.check true)) := Lib.hid (by rw [HE.out]; simp [h1])
      go_wp2_with fail
      refine (check_call g s1 true _ r1).mono ?_
      rintro e w2 ⟨rfl, r2, k2⟩
      generalize s1.check true = s2 at *
      have c1 := r2.c1
      obtain ⟨b2, bad2⟩ := s2
      dsimp only at *
      cases bad2
      all_goals
        go_wp2
        go_ret
        rw [HE2.out]
        exact ⟨by simp, r2, k1.trans k2⟩
    · have p0 : (c.toList == [0]) = false := by rw [beq_eq_false_iff_ne]; exact h0
      have p1 : (c.toList == [1]) = false := by rw [beq_eq_false_iff_ne]; exact h1
      have HE2 : Hid (out = (false, s1.check false)) := Lib.hid (by rw [HE.out, p0, p1]; simp)
      go_wp2_with fail
      with_reducible refine (check_call g s1 false _ r1).mono ?_
      rintro e w2 ⟨rfl, r2, k2⟩
      simp only [St.check, Bool.not_false, Bool.or_true] at r2
      have c1 := r2.c1
      go_wp2
      go_ret
      rw [HE2.out]
      exact ⟨by simp, by simpa [St.check] using r2, k1.trans k2⟩
set_option maxHeartbeats 400000 in
theorem shortR_call (g : Nat) (s : St) (n : Int) (w : World) (h : Rd w g s.b s.bad) (hn : I64 n) :
    Calls Try.prog 44 #[.pointer (some ⟨g, 0, none⟩), .int .i64 n] w fun e w' => e = .returned (.string (shortR n s).1) ∧ Rd w' g (shortR n s).2.b (shortR n s).2.bad ∧ Keep [g] w w' := by
  have HE : Hid (shortR n s = ((textR n s).1, (textR n s).2.check (((textR n s).1.size : Int) == 0 || ((textR n s).1.size : Int) == n))) := Lib.hid rfl
  generalize shortR n s = out at *
  go_enter Try.func44, Try.ntmps44
  go_wp2_with fail
  refine (textR_call g s n _ h hn).mono ?_
  rintro e w1 ⟨rfl, r1, k1⟩
  generalize textR n s = a at *
  obtain ⟨c, s1⟩ := a
  dsimp only at *
  by_cases h0 : (c.size : Int) = 0
  · have p0 : ((c.size : Int) == 0) = true := by simpa using h0
    have HE2 : Hid (out = (c, s1.check true)) := Lib.hid (by rw [HE.out, p0]; rfl)
    clear h0
    go_wp2_with fail
    refine (check_call g s1 true _ r1).mono ?_
    rintro e w2 ⟨rfl, r2, k2⟩
    go_wp2
    go_ret
    rw [HE2.out]
    exact ⟨rfl, r2, k1.trans k2⟩
  · have p0 : ((c.size : Int) == 0) = false := by simpa using h0
    have HE2 : Hid (out = (c, s1.check ((c.size : Int) == n))) := Lib.hid (by rw [HE.out, p0]; rfl)
    clear h0
    go_wp2_with fail
    refine (check_call g s1 ((c.size : Int) == n) _ r1).mono ?_
    rintro e w2 ⟨rfl, r2, k2⟩
    go_wp2
    go_ret
    rw [HE2.out]
    exact ⟨rfl, r2, k1.trans k2⟩
end Go.Proofs.Ytpndbidpennlcaa
