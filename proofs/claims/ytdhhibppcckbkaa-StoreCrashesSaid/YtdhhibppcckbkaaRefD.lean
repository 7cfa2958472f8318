import Derived.Test.YtdhhibppcckbkaaRefC
namespace Go.Proofs.Ytdhhibppcckbkaa
open Go.RowKit
set_option linter.unusedVariables false
set_option linter.unusedSimpArgs false
set_option maxHeartbeats 400000 in
theorem rsig_call (x : Sg) (v : Value) (F : Nat → Prop) (w : World) (h : SliceOf Rep.str w F v x.ts) (hf : I64 x.f) (hs : (sigF x).size ≤ 4611686018427387904) :
    Calls Try.prog 70 #[.agg #[.int .i64 x.f, v]] w fun e w' => e = .returned (.string (sigF x)) ∧ Keep [] w w' := by
  obtain ⟨f, ts⟩ := x
  simp only at h hf
  have hz : (numF f ++ numF ts.length).size + (cat ts).size ≤ 9223372036854775807 := by simp [sigF, ByteArray.size_append, numF_size] at hs ⊢; omega
  have HE : Hid (sigF ⟨f, ts⟩ = accF (numF f ++ numF ts.length) ts ts.length) := Lib.hid (by rw [accF_all]; rfl)
  generalize sigF ⟨f, ts⟩ = out at *
  obtain ⟨A, c, rfl, hl⟩ := h.form
  have hn : I64 (ts.length : Int) := by unfold I64; omega
  have z1 := numF_size f
  have z2 := numF_size ts.length
  have q1 : (9223372036854775807 < (numF f).size + (numF ts.length).size) = False := by simp; omega
  clear z1 z2
  go_enter Try.func70, Try.ntmps70
  go_wp2_with fail
  go_region_held3 (fun w' => Keep [] w w' ∧ w'.cell? ⟨w.heap.size, 0, none⟩ = some (.int .i64 f) ∧ w'.cell? ⟨w.heap.size, 1, none⟩ = some (.slice A ts.length c))
    (first
      | (refine ⟨((Keep.refl _ _).alloc _).drew, ?_⟩; go_keep)
      | (go_split_ands; (refine ⟨Keep.trans ‹Keep [] w _› ‹Keep [] _ _›, ?_, ?_⟩ <;> first | assumption | exact Keep.cell ‹Keep [] _ _› (by simp) ‹_›)))
    (first
      | (go_at_call 34; refine (rnumber_call _ _ (by assumption)).mono ?_; rintro e w' ⟨rfl, kq⟩))
  go_wp2
  obtain ⟨kk, hc0, hc1⟩ := ‹Keep [] w _ ∧ _ ∧ _›
  have h' := h.keep (kk.at F (by simp))
  clear h
  generalize numF f ++ numF ts.length = p at *
  go_loop [3, 4] (fun b i => ∃ k : Nat, k ≤ ts.length ∧ i = .int .i64 k ∧ b = .string (accF p ts k)) (fun _ i => ts.length - (intOf i).toNat)
  case atStart => exact ⟨0, Nat.zero_le _, rfl, by rw [accF_zero]⟩
  case round =>
    obtain ⟨k, hk, rfl, rfl⟩ := hrel
    by_cases hlt : k < ts.length
    · obtain ⟨g, o, rfl, hc, hm⟩ := h'.str_at hlt
      have hs := accF_succ p ts k hlt
      have HS := Lib.hid hs
      clear hs
      have hr := accF_room p ts k hlt hz
      go_wp2
      go_round
      case rel => exact ⟨k + 1, by omega, by go_num, by rw [HS.out]⟩
      case measure => simp [intOf]; omega
    · have hk' : k = ts.length := by omega
      subst hk'
      go_wp2
      go_ret
      exact ⟨by rw [HE.out]; rfl, kk⟩
def sigsOk (l : List Sg) : Prop := ∀ i (h : i < l.length), I64 l[i].f
set_option maxHeartbeats 400000 in
theorem rcert_call (x : Ct) (v : Value) (F : Nat → Prop) (w : World) (h : SliceOf Rep.sg w F v x.sg) (hv : I64 x.v) (hs : (certF x).size ≤ 4611686018427387904) :
    Calls Try.prog 53 #[.agg #[.int .i64 x.v, .string x.h, v]] w fun e w' => e = .returned (.string (certF x)) ∧ Keep [] w w' := by
  obtain ⟨vw, hh, sg⟩ := x
  simp only at h hv
  have hz : (numF vw ++ hh ++ numF sg.length).size + (cat (sg.map sigF)).size ≤ 4611686018427387904 := by simp [certF, ByteArray.size_append, numF_size] at hs ⊢; omega
  have HE : Hid (certF ⟨vw, hh, sg⟩ = accF (numF vw ++ hh ++ numF sg.length) (sg.map sigF) (sg.map sigF).length) := Lib.hid (by rw [accF_all]; rfl)
  generalize certF ⟨vw, hh, sg⟩ = out at *
  obtain ⟨A, c, rfl, hl⟩ := h.form
  have hn : I64 (sg.length : Int) := by unfold I64; omega
  have z1 := numF_size vw
  have z2 := numF_size sg.length
  have q1 : (9223372036854775807 < (numF vw).size + hh.size) = False := by simp [ByteArray.size_append] at hz ⊢; omega
  have q2 : (9223372036854775807 < (numF vw).size + hh.size + (numF sg.length).size) = False := by simp [ByteArray.size_append] at hz ⊢; omega
  clear z1 z2
  go_enter Try.func53, Try.ntmps53
  go_wp2_with fail
  go_region_held3 (fun w' => Keep [] w w' ∧ w'.cell? ⟨w.heap.size, 0, none⟩ = some (.int .i64 vw) ∧ w'.cell? ⟨w.heap.size, 1, none⟩ = some (.string hh) ∧ w'.cell? ⟨w.heap.size, 2, none⟩ = some (.slice A sg.length c))
    (first
      | (refine ⟨((Keep.refl _ _).alloc _).drew, ?_⟩; go_keep)
      | (go_split_ands; (refine ⟨Keep.trans ‹Keep [] w _› ‹Keep [] _ _›, ?_, ?_, ?_⟩ <;> first | assumption | exact Keep.cell ‹Keep [] _ _› (by simp) ‹_›)))
    (first
      | (go_at_call 34; refine (rnumber_call _ _ (by assumption)).mono ?_; rintro e w' ⟨rfl, kq⟩))
  go_wp2
  obtain ⟨kk, hc0, hc1, hc2⟩ := ‹Keep [] w _ ∧ _ ∧ _ ∧ _›
  generalize numF vw ++ hh ++ numF sg.length = p at *
  go_loopw [3, 4] (fun b i wr => ∃ k : Nat, k ≤ sg.length ∧ i = .int .i64 k ∧ b = .string (accF p (sg.map sigF) k) ∧ Keep [] w wr ∧ wr.cell? ⟨w.heap.size, 2, none⟩ = some (.slice A sg.length c)) (fun _ i _ => sg.length - (intOf i).toNat)
  case atStart => exact ⟨0, Nat.zero_le _, rfl, by rw [accF_zero], kk, hc2⟩
  case round =>
    obtain ⟨k, hk, rfl, rfl, kr, hcr⟩ := hrel
    by_cases hlt : k < sg.length
    · have h' := h.keep (kr.at F (by simp))
      obtain ⟨g, o, tv, rfl, hd0, hd1, hi, ht⟩ := h'.sg_at hlt
      obtain ⟨B, d, rfl, hd⟩ := ht.form
      have HS := Lib.hid (accF_map sigF p sg k hlt)
      have hr := accF_roomMap sigF p sg k hlt (by omega)
      have hm := cat_memMap sigF sg k hlt
      go_wp2_with fail
      refine (rsig_call sg[k] (.slice B sg[k].ts.length d) F _ ht hi (by omega)).mono ?_
      rintro e w1 ⟨rfl, k1⟩
      go_wp2
      go_roundw
      case rel => exact ⟨k + 1, by omega, by go_num, by rw [HS.out], kr.trans k1, k1.cell (by simp) hcr⟩
      case measure => simp [intOf]; omega
    · have hk' : k = sg.length := by omega
      subst hk'
      go_wp2
      go_ret
      exact ⟨by rw [HE.out]; simp, kr⟩
end Go.Proofs.Ytdhhibppcckbkaa
