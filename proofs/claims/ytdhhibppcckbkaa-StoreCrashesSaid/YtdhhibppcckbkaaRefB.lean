import Derived.Test.YtdhhibppcckbkaaRef
namespace Go.Proofs.Ytdhhibppcckbkaa
open Go.RowKit
set_option linter.unusedVariables false
set_option linter.unusedSimpArgs false
theorem all_fail {α : Type} (p : α → Bool) (l : List α) (k m : Nat) (h : k < l.length) (hm : k < m) (hp : p l[k] = false) : (l.take m).all p = false := by
  rw [List.all_eq_false]
  exact ⟨l[k], List.mem_take_iff_getElem.2 ⟨k, by omega, rfl⟩, by simp [hp]⟩
theorem all_step {α : Type} (p : α → Bool) (l : List α) (k : Nat) (h : k < l.length) (ha : (l.take k).all p = true) (hp : p l[k] = true) : (l.take (k + 1)).all p = true := by
  rw [List.take_succ_eq_append_getElem h, List.all_append, ha]; simp [hp]
theorem all_end {α : Type} (p : α → Bool) (l : List α) (k m : Nat) (ha : (l.take k).all p = true) (hk : k ≤ l.length) (hm : k ≤ m) (h : l.length ≤ k ∨ m ≤ k) : (l.take m).all p = true := by
  rcases h with h | h
  · rw [List.take_of_length_le (by omega)]
    rwa [List.take_of_length_le (by omega)] at ha
  · rwa [show m = k by omega]
def fewSig (x : Sg) : Bool := (x.ts.take 20).all (fun t => decide ((t.size : Int) ≤ 30)) && decide ((x.ts.length : Int) ≤ 10)
set_option maxHeartbeats 1000000 in
theorem fewSig_call (x : Sg) (v : Value) (F : Nat → Prop) (w : World) (h : SliceOf Rep.str w F v x.ts) :
    Calls Try.prog 49 #[.agg #[.int .i64 x.f, v]] w fun e w' => e = .returned (.bool (fewSig x)) ∧ Keep [] w w' := by
  obtain ⟨f, ts⟩ := x
  dsimp only at h ⊢
  have HE : Hid (fewSig ⟨f, ts⟩ = ((ts.take 20).all (fun t => decide ((t.size : Int) ≤ 30)) && decide ((ts.length : Int) ≤ 10))) := Lib.hid rfl
  generalize fewSig ⟨f, ts⟩ = out at *
  obtain ⟨A, c, rfl, hl⟩ := h.form
  go_enter Try.func49, Try.ntmps49
  go_wp2
  have h' := h.keep (((Keep.refl [] w).alloc (.cells #[.int .i64 f, .slice A ts.length c] 84)).at F (by simp))
  go_loop [3] (fun i => ∃ k : Nat, k ≤ ts.length ∧ k ≤ 20 ∧ i = .int .i64 k ∧ Hid ((ts.take k).all (fun t => decide ((t.size : Int) ≤ 30)) = true)) (fun i => ts.length - (intOf i).toNat)
  case atStart => exact ⟨0, Nat.zero_le _, by omega, rfl, Lib.hid rfl⟩
  case round =>
    obtain ⟨k, hk, hk2, rfl, hall⟩ := hrel
    by_cases hlt : k < ts.length
    · by_cases hlt2 : k < 20
      · obtain ⟨g, o, rfl, hc, hm⟩ := h'.str_at hlt
        by_cases ht : (ts[k].size : Int) ≤ 30
        · go_wp2
          go_round
          case rel => exact ⟨k + 1, by omega, by omega, by go_num, Lib.hid (all_step _ _ _ hlt hall.out (by simpa using ht))⟩
          case measure => simp [intOf]; omega
        · have ht' : (30 : Int) < ts[k].size := by omega
          have hf := Lib.hid (all_fail (fun t : ByteArray => decide ((t.size : Int) ≤ 30)) ts k 20 hlt hlt2 (by simpa using ht))
          clear ht
          go_wp2
          go_ret
          refine ⟨?_, (Keep.refl _ _).alloc _⟩
          rw [HE.out, hf.out]; simp
      · have hf := Lib.hid (all_end _ _ k 20 hall.out hk hk2 (.inr (by omega)))
        have hlt3 : (20 : Int) ≤ k := by omega
        go_wp2
        go_ret
        refine ⟨?_, (Keep.refl _ _).alloc _⟩
        rw [HE.out, hf.out]; simp
    · have hf := Lib.hid (all_end _ _ k 20 hall.out hk hk2 (.inl (by omega)))
      go_wp2
      go_ret
      refine ⟨?_, (Keep.refl _ _).alloc _⟩
      rw [HE.out, hf.out]; simp
def rightSig (x : Sg) : Bool := (x.ts.take 10).all (fun t => decide (t.size = 16)) && decide (0 ≤ x.f) && decide (x.f < 7) && decide ((x.ts.length : Int) ≤ 7)
set_option maxHeartbeats 1000000 in
theorem rightSig_call (x : Sg) (v : Value) (F : Nat → Prop) (w : World) (h : SliceOf Rep.str w F v x.ts) :
    Calls Try.prog 77 #[.agg #[.int .i64 x.f, v]] w fun e w' => e = .returned (.bool (rightSig x)) ∧ Keep [] w w' := by
  obtain ⟨f, ts⟩ := x
  dsimp only at h ⊢
  have HE : Hid (rightSig ⟨f, ts⟩ = ((ts.take 10).all (fun t => decide (t.size = 16)) && decide (0 ≤ f) && decide (f < 7) && decide ((ts.length : Int) ≤ 7))) := Lib.hid rfl
  generalize rightSig ⟨f, ts⟩ = out at *
  obtain ⟨A, c, rfl, hl⟩ := h.form
  have last : ∀ b : Bool, Hid ((ts.take 10).all (fun t => decide (t.size = 16)) = true) → Hid (out = (decide (0 ≤ f) && decide (f < 7) && decide ((ts.length : Int) ≤ 7))) := fun _ hh => Lib.hid (by rw [HE.out, hh.out, Bool.true_and])
  go_enter Try.func77, Try.ntmps77
  go_wp2
  have h' := h.keep (((Keep.refl [] w).alloc (.cells #[.int .i64 f, .slice A ts.length c] 84)).at F (by simp))
  go_loop [3] (fun i => ∃ k : Nat, k ≤ ts.length ∧ k ≤ 10 ∧ i = .int .i64 k ∧ Hid ((ts.take k).all (fun t => decide (t.size = 16)) = true)) (fun i => ts.length - (intOf i).toNat)
  case atStart => exact ⟨0, Nat.zero_le _, by omega, rfl, Lib.hid rfl⟩
  case round =>
    obtain ⟨k, hk, hk2, rfl, hall⟩ := hrel
    by_cases hlt : k < ts.length ∧ k < 10
    · obtain ⟨hlt, hlt2⟩ := hlt
      obtain ⟨g, o, rfl, hc, hm⟩ := h'.str_at hlt
      by_cases ht : ts[k].size = 16
      · have hs := Lib.hid (all_step (fun t : ByteArray => decide (t.size = 16)) _ _ hlt hall.out (by simpa using ht))
        have ht2 : ((ts[k].size : Int) != 16) = false := by rw [ht]; rfl
        clear ht
        go_wp2
        go_round
        case rel => exact ⟨k + 1, by omega, by omega, by go_num, hs⟩
        case measure => simp [intOf]; omega
      · have ht2 : ((ts[k].size : Int) != 16) = true := by rw [bne_iff_ne]; omega
        have hf := Lib.hid (all_fail (fun t : ByteArray => decide (t.size = 16)) ts k 10 hlt hlt2 (by simpa using ht))
        clear ht
        go_wp2
        go_ret
        refine ⟨?_, (Keep.refl _ _).alloc _⟩
        rw [HE.out, hf.out]; simp
    · have hf := last true (Lib.hid (all_end _ _ k 10 hall.out hk hk2 (by omega)))
      by_cases hlt3 : k < ts.length
      all_goals
        have hlt4 : k < ts.length → (10 : Int) ≤ k := fun h => by omega
        have hlt5 : k < ts.length → 10 ≤ k := fun h => by omega
        clear hlt
        try have hlt6 := hlt4 hlt3
        clear hlt4 hlt5
        go_wp2
        all_goals
          go_ret
          refine ⟨?_, (Keep.refl _ _).alloc _⟩
          rw [hf.out]
          (simp [*]; try omega)
def fewCert (x : Ct) : Bool := (x.sg.take 20).all fewSig && decide ((x.sg.length : Int) ≤ 10) && decide ((x.h.size : Int) ≤ 50)
set_option maxHeartbeats 1000000 in
theorem fewCert_call (x : Ct) (v : Value) (F : Nat → Prop) (w : World) (h : SliceOf Rep.sg w F v x.sg) :
    Calls Try.prog 29 #[.agg #[.int .i64 x.v, .string x.h, v]] w fun e w' => e = .returned (.bool (fewCert x)) ∧ Keep [] w w' := by
  obtain ⟨vw, hh, sg⟩ := x
  dsimp only at h ⊢
  have HE : Hid (fewCert ⟨vw, hh, sg⟩ = ((sg.take 20).all fewSig && decide ((sg.length : Int) ≤ 10) && decide ((hh.size : Int) ≤ 50))) := Lib.hid rfl
  generalize fewCert ⟨vw, hh, sg⟩ = out at *
  obtain ⟨A, c, rfl, hl⟩ := h.form
  go_enter Try.func29, Try.ntmps29
  go_wp2
  go_loopw [3] (fun i wr => ∃ k : Nat, k ≤ sg.length ∧ k ≤ 20 ∧ i = .int .i64 k ∧ Hid ((sg.take k).all fewSig = true) ∧ Keep [] (w.alloc (.cells #[.int .i64 vw, .string hh, .slice A sg.length c] 26)) wr) (fun i _ => sg.length - (intOf i).toNat)
  case atStart => exact ⟨0, Nat.zero_le _, by omega, rfl, Lib.hid rfl, Keep.refl _ _⟩
  case round =>
    obtain ⟨k, hk, hk2, rfl, hall, kr⟩ := hrel
    have kw : Keep [] w wr := ((Keep.refl _ w).alloc _).trans kr
    have h' := h.keep (kw.at F (by simp))
    have b := (Blk.new w #[.int .i64 vw, .string hh, .slice A sg.length c] 26).keep kr (by simp)
    have c1 := b.cell 1
    have c2 := b.cell 2
    simp only [List.getElem?_toArray, List.getElem?_cons_zero, List.getElem?_cons_succ] at c1 c2
    by_cases hlt : k < sg.length ∧ k < 20
    · obtain ⟨hlt, hlt2⟩ := hlt
      obtain ⟨g, o, tv, rfl, hc0, hc1, hi, ht⟩ := h'.sg_at hlt
      obtain ⟨B, d, rfl, hd⟩ := ht.form
      go_wp2_with fail
      refine (fewSig_call sg[k] _ F _ ht).mono ?_
      rintro e w1 ⟨rfl, k1⟩
      cases hb : fewSig sg[k]
      · have hf := Lib.hid (all_fail fewSig sg k 20 hlt hlt2 hb)
        go_wp2
        go_ret
        refine ⟨?_, kw.trans k1⟩
        rw [HE.out, hf.out]; simp
      · have hs := Lib.hid (all_step fewSig _ _ hlt hall.out hb)
        go_wp2
        go_roundw
        case rel => exact ⟨k + 1, by omega, by omega, by go_num, hs, kr.trans k1⟩
        case measure => simp [intOf]; omega
    · have hf := Lib.hid (all_end _ _ k 20 hall.out hk hk2 (by omega))
      have hf2 : Hid (out = (decide ((sg.length : Int) ≤ 10) && decide ((hh.size : Int) ≤ 50))) := Lib.hid (by rw [HE.out, hf.out, Bool.true_and])
      by_cases hlt3 : k < sg.length
      all_goals
        have hlt4 : k < sg.length → (20 : Int) ≤ k := fun h => by omega
        clear hlt
        try have hlt6 := hlt4 hlt3
        clear hlt4
        go_wp2
        all_goals
          go_ret
          refine ⟨?_, kw⟩
          rw [hf2.out]
          (simp [*]; try omega)
def zeroCert (x : Ct) : Bool := decide (x.v = 0) && (x.h.toList == []) && ((x.sg.length : Int) == 0)
end Go.Proofs.Ytdhhibppcckbkaa
