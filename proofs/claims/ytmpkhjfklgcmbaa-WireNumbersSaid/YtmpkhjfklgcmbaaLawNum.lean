import Derived.Test.YtmpkhjfklgcmbaaThy
import Derived.Test.YtmpkhjfklgcmbaaLawReq
namespace Go.Proofs.Ytmpkhjfklgcmbaa
open Go.RowKit
set_option linter.unusedVariables false
set_option linter.unusedSimpArgs false
theorem numF_list (n : Int) (h : 0 ≤ n ∧ n ≤ 2147483647) : (numF n).toList = [UInt8.ofNat (n / 16777216).toNat, UInt8.ofNat (n / 65536 % 256).toNat, UInt8.ofNat (n / 256 % 256).toNat, UInt8.ofNat (n % 256).toNat] := by
  rw [ByteArray.toList_eq, numF_bytes n h]
theorem ofNat_lt (a b : Int) (ha : 0 ≤ a ∧ a < 256) (hb : 0 ≤ b ∧ b < 256) : decide (UInt8.ofNat a.toNat < UInt8.ofNat b.toNat) = decide (a < b) := by
  have e : (UInt8.ofNat a.toNat < UInt8.ofNat b.toNat) ↔ a < b := by
    rw [UInt8.lt_iff_toNat_lt, ofNat_toNat _ (by omega), ofNat_toNat _ (by omega)]; omega
  simp [e]
theorem ofNat_beq (a b : Int) (ha : 0 ≤ a ∧ a < 256) (hb : 0 ≤ b ∧ b < 256) : (UInt8.ofNat a.toNat == UInt8.ofNat b.toNat) = decide (a = b) := by
  have e : UInt8.ofNat a.toNat = UInt8.ofNat b.toNat ↔ a = b := by
    rw [← UInt8.toNat_inj, ofNat_toNat _ (by omega), ofNat_toNat _ (by omega)]; omega
  rw [Bool.eq_iff_iff]; simp [e]
theorem numF_less (a b : Int) (ha : 0 ≤ a ∧ a ≤ 2147483647) (hb : 0 ≤ b ∧ b ≤ 2147483647) : Op.bytesLess (numF a).toList (numF b).toList = decide (a < b) := by
  rw [numF_list a ha, numF_list b hb]
  simp only [Op.bytesLess]
  rw [ofNat_lt _ _ (by omega) (by omega), ofNat_lt _ _ (by omega) (by omega), ofNat_lt _ _ (by omega) (by omega), ofNat_lt _ _ (by omega) (by omega)]
  rw [ofNat_beq _ _ (by omega) (by omega), ofNat_beq _ _ (by omega) (by omega), ofNat_beq _ _ (by omega) (by omega)]
  rw [Bool.eq_iff_iff]
  simp
  omega
theorem numF_beq (a b : Int) (ha : 0 ≤ a ∧ a ≤ 2147483647) (hb : 0 ≤ b ∧ b ≤ 2147483647) : ((numF a).toList == (numF b).toList) = (a == b) := by
  rw [Bool.eq_iff_iff]
  simp only [beq_iff_eq]
  constructor
  · intro h
    rw [ByteArray.toList_eq, ByteArray.toList_eq] at h
    exact numF_inj ha hb (ByteArray.ext (Array.toList_inj.1 h))
  · rintro rfl; rfl
set_option maxHeartbeats 1000000 in
theorem wireNumbers_call (a b : Int) (s : ByteArray) (w : World) (ha : I64 a) (hb : I64 b) (hs : s.size ≤ M47) :
    Calls Try.prog 3 #[.int .i64 a, .int .i64 b, .string s] w fun e w' => e = .returned (.bool true) ∧ Keep [] w w' := by
  obtain ⟨ha1, ha2⟩ := id ha
  obtain ⟨hb1, hb2⟩ := id hb
  have hs : s.size ≤ 140737488355328 := hs
  have z1 : (((numF a).size : Int) != 4) = false := by rw [numF_size]; rfl
  have z2 : (((numF b).size : Int) != 4) = false := by rw [numF_size]; rfl
  by_cases h100 : (s.size : Int) ≤ 100
  · have p1 : decide ((s.size : Int) ≤ 100) = true := by simpa using h100
    by_cases h1 : a < 0
    · have q1 : decide (a < 0) = true := by simpa using h1
      go_enter Try.func3, Try.ntmps3
      go_wp2_with fail
      refine (number_call a _).mono ?_
      rintro e w1 ⟨rfl, k1⟩
      go_wp2_with fail
      refine (number_call b _).mono ?_
      rintro e w2 ⟨rfl, k2⟩
      go_wp2_with fail
      refine (awake_call _).mono ?_
      rintro e w3 ⟨rfl, k3⟩
      go_wp2_with fail
      refine (text_call s _ (by omega)).mono ?_
      rintro e w4 ⟨rfl, k4⟩
      go_wp2_with fail
      refine (rtext_call s _ (by omega)).mono ?_
      rintro e w5 ⟨rfl, k5⟩
      go_wp2
      go_ret
      exact ⟨by simp, (((k1.trans k2).trans k3).trans k4).trans k5⟩
    · have q1 : decide (a < 0) = false := by simpa using h1
      replace h1 : 0 ≤ a := by omega
      by_cases h2 : b < 0
      · have q2 : decide (b < 0) = true := by simpa using h2
        go_enter Try.func3, Try.ntmps3
        go_wp2_with fail
        refine (number_call a _).mono ?_
        rintro e w1 ⟨rfl, k1⟩
        go_wp2_with fail
        refine (number_call b _).mono ?_
        rintro e w2 ⟨rfl, k2⟩
        go_wp2_with fail
        refine (awake_call _).mono ?_
        rintro e w3 ⟨rfl, k3⟩
        go_wp2_with fail
        refine (text_call s _ (by omega)).mono ?_
        rintro e w4 ⟨rfl, k4⟩
        go_wp2_with fail
        refine (rtext_call s _ (by omega)).mono ?_
        rintro e w5 ⟨rfl, k5⟩
        go_wp2
        go_ret
        exact ⟨by simp, (((k1.trans k2).trans k3).trans k4).trans k5⟩
      · have q2 : decide (b < 0) = false := by simpa using h2
        replace h2 : 0 ≤ b := by omega
        by_cases h3 : 2147483647 < a
        · have q3 : decide (2147483647 < a) = true := by simpa using h3
          go_enter Try.func3, Try.ntmps3
          go_wp2_with fail
          refine (number_call a _).mono ?_
          rintro e w1 ⟨rfl, k1⟩
          go_wp2_with fail
          refine (number_call b _).mono ?_
          rintro e w2 ⟨rfl, k2⟩
          go_wp2_with fail
          refine (awake_call _).mono ?_
          rintro e w3 ⟨rfl, k3⟩
          go_wp2_with fail
          refine (text_call s _ (by omega)).mono ?_
          rintro e w4 ⟨rfl, k4⟩
          go_wp2_with fail
          refine (rtext_call s _ (by omega)).mono ?_
          rintro e w5 ⟨rfl, k5⟩
          go_wp2
          go_ret
          exact ⟨by simp, (((k1.trans k2).trans k3).trans k4).trans k5⟩
        · have q3 : decide (2147483647 < a) = false := by simpa using h3
          replace h3 : a ≤ 2147483647 := by omega
          by_cases h4 : 2147483647 < b
          · have q4 : decide (2147483647 < b) = true := by simpa using h4
            go_enter Try.func3, Try.ntmps3
            go_wp2_with fail
            refine (number_call a _).mono ?_
            rintro e w1 ⟨rfl, k1⟩
            go_wp2_with fail
            refine (number_call b _).mono ?_
            rintro e w2 ⟨rfl, k2⟩
            go_wp2_with fail
            refine (awake_call _).mono ?_
            rintro e w3 ⟨rfl, k3⟩
            go_wp2_with fail
            refine (text_call s _ (by omega)).mono ?_
            rintro e w4 ⟨rfl, k4⟩
            go_wp2_with fail
            refine (rtext_call s _ (by omega)).mono ?_
            rintro e w5 ⟨rfl, k5⟩
            go_wp2
            go_ret
            exact ⟨by simp, (((k1.trans k2).trans k3).trans k4).trans k5⟩
          · have q4 : decide (2147483647 < b) = false := by simpa using h4
            replace h4 : b ≤ 2147483647 := by omega
            have e1 := numF_less a b ⟨h1, h3⟩ ⟨h2, h4⟩
            have e2 := numF_beq a b ⟨h1, h3⟩ ⟨h2, h4⟩
            go_enter Try.func3, Try.ntmps3
            go_wp2_with fail
            refine (number_call a _).mono ?_
            rintro e w1 ⟨rfl, k1⟩
            go_wp2_with fail
            refine (number_call b _).mono ?_
            rintro e w2 ⟨rfl, k2⟩
            go_wp2_with fail
            refine (awake_call _).mono ?_
            rintro e w3 ⟨rfl, k3⟩
            go_wp2_with fail
            refine (text_call s _ (by omega)).mono ?_
            rintro e w4 ⟨rfl, k4⟩
            go_wp2_with fail
            refine (rtext_call s _ (by omega)).mono ?_
            rintro e w5 ⟨rfl, k5⟩
            go_wp2_with fail
            refine (rnumber_call a _ ha).mono ?_
            rintro e w6 ⟨rfl, k6⟩
            go_wp2
            go_ret
            exact ⟨by simp, ((((k1.trans k2).trans k3).trans k4).trans k5).trans k6⟩
  · have p1 : decide ((s.size : Int) ≤ 100) = false := by simpa using h100
    have p2 : (100 : Int) < s.size := by omega
    clear h100
    by_cases h1 : a < 0
    · have q1 : decide (a < 0) = true := by simpa using h1
      go_enter Try.func3, Try.ntmps3
      go_wp2_with fail
      refine (number_call a _).mono ?_
      rintro e w1 ⟨rfl, k1⟩
      go_wp2_with fail
      refine (number_call b _).mono ?_
      rintro e w2 ⟨rfl, k2⟩
      go_wp2_with fail
      refine (awake_call _).mono ?_
      rintro e w3 ⟨rfl, k3⟩
      go_wp2
      go_ret
      exact ⟨by simp, (k1.trans k2).trans k3⟩
    · have q1 : decide (a < 0) = false := by simpa using h1
      replace h1 : 0 ≤ a := by omega
      by_cases h2 : b < 0
      · have q2 : decide (b < 0) = true := by simpa using h2
        go_enter Try.func3, Try.ntmps3
        go_wp2_with fail
        refine (number_call a _).mono ?_
        rintro e w1 ⟨rfl, k1⟩
        go_wp2_with fail
        refine (number_call b _).mono ?_
        rintro e w2 ⟨rfl, k2⟩
        go_wp2_with fail
        refine (awake_call _).mono ?_
        rintro e w3 ⟨rfl, k3⟩
        go_wp2
        go_ret
        exact ⟨by simp, (k1.trans k2).trans k3⟩
      · have q2 : decide (b < 0) = false := by simpa using h2
        replace h2 : 0 ≤ b := by omega
        by_cases h3 : 2147483647 < a
        · have q3 : decide (2147483647 < a) = true := by simpa using h3
          go_enter Try.func3, Try.ntmps3
          go_wp2_with fail
          refine (number_call a _).mono ?_
          rintro e w1 ⟨rfl, k1⟩
          go_wp2_with fail
          refine (number_call b _).mono ?_
          rintro e w2 ⟨rfl, k2⟩
          go_wp2_with fail
          refine (awake_call _).mono ?_
          rintro e w3 ⟨rfl, k3⟩
          go_wp2
          go_ret
          exact ⟨by simp, (k1.trans k2).trans k3⟩
        · have q3 : decide (2147483647 < a) = false := by simpa using h3
          replace h3 : a ≤ 2147483647 := by omega
          by_cases h4 : 2147483647 < b
          · have q4 : decide (2147483647 < b) = true := by simpa using h4
            go_enter Try.func3, Try.ntmps3
            go_wp2_with fail
            refine (number_call a _).mono ?_
            rintro e w1 ⟨rfl, k1⟩
            go_wp2_with fail
            refine (number_call b _).mono ?_
            rintro e w2 ⟨rfl, k2⟩
            go_wp2_with fail
            refine (awake_call _).mono ?_
            rintro e w3 ⟨rfl, k3⟩
            go_wp2
            go_ret
            exact ⟨by simp, (k1.trans k2).trans k3⟩
          · have q4 : decide (2147483647 < b) = false := by simpa using h4
            replace h4 : b ≤ 2147483647 := by omega
            have e1 := numF_less a b ⟨h1, h3⟩ ⟨h2, h4⟩
            have e2 := numF_beq a b ⟨h1, h3⟩ ⟨h2, h4⟩
            go_enter Try.func3, Try.ntmps3
            go_wp2_with fail
            refine (number_call a _).mono ?_
            rintro e w1 ⟨rfl, k1⟩
            go_wp2_with fail
            refine (number_call b _).mono ?_
            rintro e w2 ⟨rfl, k2⟩
            go_wp2_with fail
            refine (awake_call _).mono ?_
            rintro e w3 ⟨rfl, k3⟩
            go_wp2_with fail
            refine (rnumber_call a _ ha).mono ?_
            rintro e w6 ⟨rfl, k6⟩
            go_wp2
            go_ret
            exact ⟨by simp, ((k1.trans k2).trans k3).trans k6⟩
end Go.Proofs.Ytmpkhjfklgcmbaa
