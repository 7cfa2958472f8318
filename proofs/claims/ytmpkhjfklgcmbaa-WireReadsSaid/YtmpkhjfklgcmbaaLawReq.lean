import Derived.Test.YtmpkhjfklgcmbaaRead2
import Derived.Test.YtmpkhjfklgcmbaaRef
namespace Go.Proofs.Ytmpkhjfklgcmbaa
open Go.RowKit
set_option linter.unusedVariables false
set_option linter.unusedSimpArgs false
theorem awake_eq : reqF ⟨1, 2, ⟨#[97]⟩⟩ = ⟨#[0, 0, 0, 1, 0, 0, 0, 2, 0, 0, 0, 1, 97]⟩ := by decide +kernel
set_option maxHeartbeats 400000 in
theorem awake_call (w : World) : Calls Try.prog 11 #[] w fun e w' => e = .returned (.bool true) ∧ Keep [] w w' := by
  have HE := Lib.hid awake_eq
  go_enter Try.func11, Try.ntmps11
  go_wp2_with fail
  refine (request_call ⟨1, 2, ⟨#[97]⟩⟩ _ (by decide)).mono ?_
  rintro e w1 ⟨rfl, k1⟩
  rw [HE.out]
  go_wp2
  go_ret
  exact ⟨rfl, k1⟩
/-- what is right is read as it was -/
def P1 : Prop := ∀ r : Req, rightReq r = true → readReqF (reqF r) = (r, 0)
def P2 : Prop := ∀ b, (readReqF b = (⟨0, 0, ⟨#[]⟩⟩, 2)) ∨ ∃ x, readReqF b = (x, 0) ∧ rightReq x = true ∧ reqF x = b
set_option maxHeartbeats 1000000 in
theorem wireRequests_call (p1 : P1) (p2 : P2) (r : Req) (w : World) (h1 : I64 r.c) (h2 : I64 r.s) (hs : r.b.size ≤ M47) :
    Calls Try.prog 5 #[.agg #[.int .i64 r.c, .int .i64 r.s, .string r.b]] w fun e w' => e = .returned (.bool true) ∧ Keep [] w w' := by
  have hs : r.b.size ≤ 140737488355328 := hs
  by_cases hb : r.b.size ≤ 60
  · have hb1 : decide ((60 : Int) < r.b.size) = false := by simp; omega
    have hb2 : ¬ (60 : Int) < r.b.size := by omega
    go_enter Try.func5, Try.ntmps5
    go_wp2_with fail
    refine (awake_call _).mono ?_
    rintro e w1 ⟨rfl, k1⟩
    have b1 := (Blk.new w #[.int .i64 r.c, .int .i64 r.s, .string r.b] 34).keep k1 (by simp)
    have c0 := b1.cell 0
    have c1 := b1.cell 1
    have c2 := b1.cell 2
    simp only [List.getElem?_toArray, List.getElem?_cons_zero, List.getElem?_cons_succ] at c0 c1 c2
    go_wp2_with fail
    refine (request_call r _ (by omega)).mono ?_
    rintro e w2 ⟨rfl, k2⟩
    go_wp2_with fail
    refine (readReq_call _ _).mono ?_
    rintro e w3 ⟨rfl, k3⟩
    have b3 := (b1.keep k2 (by simp)).keep k3 (by simp)
    have HX : ∃ x, Hid ((readReqF (reqF r)).1 = x) := ⟨_, rfl⟩
    obtain ⟨x, HX⟩ := HX
    have HM : ∃ m, Hid ((readReqF (reqF r)).2 = m) := ⟨_, rfl⟩
    obtain ⟨m, HM⟩ := HM
    rw [HX.out, HM.out]
    clear c0 c1 c2
    have c0 := (b3.alloc (.cells #[.int .i64 x.c, .int .i64 x.s, .string x.b] 34)).cell 0
    have c1 := (b3.alloc (.cells #[.int .i64 x.c, .int .i64 x.s, .string x.b] 34)).cell 1
    have c2 := (b3.alloc (.cells #[.int .i64 x.c, .int .i64 x.s, .string x.b] 34)).cell 2
    simp only [List.getElem?_toArray, List.getElem?_cons_zero, List.getElem?_cons_succ] at c0 c1 c2
    go_wp2_with fail
    refine (rrequest_call r _ h1 h2 (by omega)).mono ?_
    rintro e w4 ⟨rfl, k4⟩
    have b4 := (b3.alloc (.cells #[.int .i64 x.c, .int .i64 x.s, .string x.b] 34)).keep k4 (by simp)
    have d4 := (Blk.new w3 #[.int .i64 x.c, .int .i64 x.s, .string x.b] 34).keep k4 (by simp)
    clear c0 c1 c2
    have c0 := b4.cell 0
    have c1 := b4.cell 1
    have c2 := b4.cell 2
    simp only [List.getElem?_toArray, List.getElem?_cons_zero, List.getElem?_cons_succ] at c0 c1 c2
    go_wp2_with fail
    refine (rightReq_call r _).mono ?_
    rintro e w5 ⟨rfl, k5⟩
    have b5 := b4.keep k5 (by simp)
    have d5 := d4.keep k5 (by simp)
    clear c0 c1 c2
    have c0 := b5.cell 0
    have c1 := b5.cell 1
    have c2 := b5.cell 2
    have e0 := d5.cell 0
    have e1 := d5.cell 1
    have e2 := d5.cell 2
    simp only [List.getElem?_toArray, List.getElem?_cons_zero, List.getElem?_cons_succ] at c0 c1 c2 e0 e1 e2
    have HK : Keep [] w w5 := ((((((Keep.refl _ _).alloc _).trans k1).trans k2).trans k3 |>.alloc _).trans k4).trans k5
    cases hr : rightReq r
    · have hr' := Lib.hid hr
      clear hr
      rcases p2 (reqF r) with h | ⟨y, hy, hry, hby⟩
      · obtain rfl : x = _ := HX.out.symm.trans (congrArg Prod.fst h)
        obtain rfl : m = _ := HM.out.symm.trans (congrArg Prod.snd h)
        clear h
        go_wp2
        go_ret
        exact ⟨by simp, HK⟩
      · obtain rfl : x = y := HX.out.symm.trans (congrArg Prod.fst hy)
        obtain rfl : m = 0 := HM.out.symm.trans (congrArg Prod.snd hy)
        have HB := Lib.hid hby
        have hxb : x.b.size ≤ 40 := by simp [rightReq] at hry; omega
        have hxc : I64 x.c := by simp [rightReq] at hry; unfold I64; omega
        have hxs : I64 x.s := by simp [rightReq] at hry; unfold I64; omega
        have HR := Lib.hid hry
        clear hby hry hy
        go_wp2_with fail
        refine (rightReq_call x _).mono ?_
        rintro e w6 ⟨rfl, k6⟩
        rw [HR.out]
        have d6 := d5.keep k6 (by simp)
        clear e0 e1 e2
        have e0 := d6.cell 0
        have e1 := d6.cell 1
        have e2 := d6.cell 2
        simp only [List.getElem?_toArray, List.getElem?_cons_zero, List.getElem?_cons_succ] at e0 e1 e2
        go_wp2_with fail
        refine (rrequest_call x _ hxc hxs (by omega)).mono ?_
        rintro e w7 ⟨rfl, k7⟩
        rw [HB.out]
        go_wp2
        go_ret
        exact ⟨by simp, (HK.trans k6).trans k7⟩
    · have hx := p1 r hr
      obtain rfl : x = r := HX.out.symm.trans (congrArg Prod.fst hx)
      obtain rfl : m = 0 := HM.out.symm.trans (congrArg Prod.snd hx)
      clear hx hr
      go_wp2
      go_ret
      exact ⟨by simp, HK⟩
  · have hb1 : decide ((60 : Int) < r.b.size) = true := by simp; omega
    have hb2 : (60 : Int) < r.b.size := by omega
    go_enter Try.func5, Try.ntmps5
    go_wp2_with fail
    refine (awake_call _).mono ?_
    rintro e w1 ⟨rfl, k1⟩
    have b1 := (Blk.new w #[.int .i64 r.c, .int .i64 r.s, .string r.b] 34).keep k1 (by simp)
    have c2 := b1.cell 2
    simp only [List.getElem?_toArray, List.getElem?_cons_zero, List.getElem?_cons_succ] at c2
    go_wp2_with fail
    refine (awake_call _).mono ?_
    rintro e w2 ⟨rfl, k2⟩
    go_wp2
    go_ret
    exact ⟨rfl, (((Keep.refl _ _).alloc _).trans k1).trans k2⟩
end Go.Proofs.Ytmpkhjfklgcmbaa
