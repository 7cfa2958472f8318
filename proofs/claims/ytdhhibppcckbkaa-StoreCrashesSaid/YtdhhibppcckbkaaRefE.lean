import Derived.Test.YtdhhibppcckbkaaRefD
namespace Go.Proofs.Ytdhhibppcckbkaa
open Go.RowKit
set_option linter.unusedVariables false
set_option linter.unusedSimpArgs false
set_option maxHeartbeats 400000 in
theorem rrequests_call (l : List Req) (v : Value) (F : Nat → Prop) (w : World) (h : SliceOf Rep.req w F v l) (hs : (batchF l).size ≤ 4611686018427387904) :
    Calls Try.prog 54 #[v] w fun e w' => e = .returned (.string (batchF l)) ∧ Keep [] w w' := by
  have hz : (numF l.length).size + (cat (l.map reqF)).size ≤ 4611686018427387904 := by simp [batchF, ByteArray.size_append] at hs ⊢; omega
  have HE : Hid (batchF l = accF (numF l.length) (l.map reqF) (l.map reqF).length) := Lib.hid (by rw [accF_all]; rfl)
  generalize batchF l = out at *
  obtain ⟨A, c, rfl, hl⟩ := h.form
  go_enter Try.func54, Try.ntmps54
  go_wp2_with fail
  refine (rnumber_call _ _ (by unfold I64; omega)).mono ?_
  rintro e w1 ⟨rfl, k1⟩
  go_wp2
  generalize numF l.length = p at *
  go_loopw [3, 4] (fun b i wr => ∃ k : Nat, k ≤ l.length ∧ i = .int .i64 k ∧ b = .string (accF p (l.map reqF) k) ∧ Keep [] w wr) (fun _ i _ => l.length - (intOf i).toNat)
  case atStart => exact ⟨0, Nat.zero_le _, rfl, by rw [accF_zero], k1⟩
  case round =>
    obtain ⟨k, hk, rfl, rfl, kr⟩ := hrel
    by_cases hlt : k < l.length
    · have h' := h.keep (kr.at F (by simp))
      obtain ⟨g, o, rfl, hc0, hc1, hc2, hi1, hi2, hb⟩ := h'.req_at hlt
      have HS := Lib.hid (accF_map reqF p l k hlt)
      have hr := accF_roomMap reqF p l k hlt (by omega)
      go_wp2_with fail
      refine (rrequest_call l[k] _ hi1 hi2 (by omega)).mono ?_
      rintro e w2 ⟨rfl, k2⟩
      go_wp2
      go_roundw
      case rel => exact ⟨k + 1, by omega, by go_num, by rw [HS.out], kr.trans k2⟩
      case measure => simp [intOf]; omega
    · have hk' : k = l.length := by omega
      subst hk'
      go_wp2
      go_ret
      exact ⟨by rw [HE.out]; simp, kr⟩
set_option maxHeartbeats 1000000 in
theorem rblock_call (x : Bk) (v u : Value) (F : Nat → Prop) (w : World) (h : SliceOf Rep.sg w F v x.j.sg) (h2 : SliceOf Rep.req w F u x.q) (hv : I64 x.v) (hp : I64 x.p) (hj : I64 x.j.v) (hs : (blockF x).size ≤ 4611686018427387904) :
    Calls Try.prog 33 #[.agg #[.int .i64 x.v, .int .i64 x.p, .int .i64 x.j.v, .string x.j.h, v, u]] w fun e w' => e = .returned (.string (blockF x)) ∧ Keep [] w w' := by
  obtain ⟨vw, pr, j, q⟩ := x
  simp only at h h2 hv hp hj
  have z0 := hs
  simp only [blockF, ByteArray.size_append] at z0
  have z1 : (certF j).size ≤ 4611686018427387904 := by omega
  have z2 : (batchF q).size ≤ 4611686018427387904 := by omega
  have q2 : (9223372036854775807 < (numF vw).size + (numF pr).size) = False := by simp; omega
  have q3 : (9223372036854775807 < (numF vw).size + (numF pr).size + (certF j).size) = False := by simp; omega
  have q4 : (9223372036854775807 < (numF vw).size + (numF pr).size + (certF j).size + (batchF q).size) = False := by simp; omega
  dsimp only [blockF]
  clear hs z0
  obtain ⟨A, c, rfl, hl⟩ := h.form
  obtain ⟨B, d, rfl, hd⟩ := h2.form
  go_enter Try.func33, Try.ntmps33
  go_wp2_with fail
  go_region_held3 (fun w' => Keep [] w w' ∧ w'.cell? ⟨w.heap.size, 0, none⟩ = some (.int .i64 vw) ∧ w'.cell? ⟨w.heap.size, 1, none⟩ = some (.int .i64 pr) ∧ w'.cell? ⟨w.heap.size, 2, none⟩ = some (.int .i64 j.v) ∧ w'.cell? ⟨w.heap.size, 3, none⟩ = some (.string j.h) ∧ w'.cell? ⟨w.heap.size, 4, none⟩ = some (.slice A j.sg.length c) ∧ w'.cell? ⟨w.heap.size, 5, none⟩ = some (.slice B q.length d))
    (first
      | (refine ⟨((Keep.refl _ _).alloc _).drew, ?_⟩; go_keep)
      | (go_split_ands; (refine ⟨Keep.trans ‹Keep [] w _› ‹Keep [] _ _›, ?_, ?_, ?_, ?_, ?_, ?_⟩ <;> first | assumption | exact Keep.cell ‹Keep [] _ _› (by simp) ‹_›)))
    (first
      | (go_at_call 34; refine (rnumber_call _ _ (by assumption)).mono ?_; rintro e w' ⟨rfl, kq⟩)
      | (go_split_ands; go_at_call 53; refine (rcert_call j _ F _ (h.keep (Keep.at (by assumption) F (by simp))) hj z1).mono ?_; rintro e w' ⟨rfl, kq⟩)
      | (go_split_ands; go_at_call 54; refine (rrequests_call q _ F _ (h2.keep (Keep.at (by assumption) F (by simp))) z2).mono ?_; rintro e w' ⟨rfl, kq⟩))
  go_wp2
  go_ret
  exact ⟨rfl, (‹Keep [] w _ ∧ _›).1⟩
def zeroBlock (x : Bk) : Bool := decide (x.v = 0) && decide (x.p = 0) && zeroCert x.j && ((x.q.length : Int) == 0)
def fewBlock (x : Bk) : Bool := (x.q.take 20).all (fun r => decide ((r.b.size : Int) ≤ 60)) && decide ((x.q.length : Int) ≤ 6) && fewCert x.j
set_option maxHeartbeats 1000000 in
theorem fewBlock_call (x : Bk) (v u : Value) (F : Nat → Prop) (w : World) (h : SliceOf Rep.sg w F v x.j.sg) (h2 : SliceOf Rep.req w F u x.q) :
    Calls Try.prog 9 #[.agg #[.int .i64 x.v, .int .i64 x.p, .int .i64 x.j.v, .string x.j.h, v, u]] w fun e w' => e = .returned (.bool (fewBlock x)) ∧ Keep [] w w' := by
  obtain ⟨vw, pr, j, q⟩ := x
  dsimp only at h h2 ⊢
  have HE : Hid (fewBlock ⟨vw, pr, j, q⟩ = ((q.take 20).all (fun r => decide ((r.b.size : Int) ≤ 60)) && decide ((q.length : Int) ≤ 6) && fewCert j)) := Lib.hid rfl
  generalize fewBlock ⟨vw, pr, j, q⟩ = out at *
  obtain ⟨A, c, rfl, hl⟩ := h.form
  obtain ⟨B, d, rfl, hd⟩ := h2.form
  go_enter Try.func9, Try.ntmps9
  go_wp2
  have h' := h2.keep (((Keep.refl [] w).alloc (.cells #[.int .i64 vw, .int .i64 pr, .int .i64 j.v, .string j.h, .slice A j.sg.length c, .slice B q.length d] 29)).at F (by simp))
  go_loop [3] (fun i => ∃ k : Nat, k ≤ q.length ∧ k ≤ 20 ∧ i = .int .i64 k ∧ Hid ((q.take k).all (fun r => decide ((r.b.size : Int) ≤ 60)) = true)) (fun i => q.length - (intOf i).toNat)
  case atStart => exact ⟨0, Nat.zero_le _, by omega, rfl, Lib.hid rfl⟩
  case round =>
    obtain ⟨k, hk, hk2, rfl, hall⟩ := hrel
    by_cases hlt : k < q.length ∧ k < 20
    · obtain ⟨hlt, hlt2⟩ := hlt
      obtain ⟨g, o, rfl, hc0, hc1, hc2, hi1, hi2, hb⟩ := h'.req_at hlt
      by_cases ht : (q[k].b.size : Int) ≤ 60
      · go_wp2
        go_round
        case rel => exact ⟨k + 1, by omega, by omega, by go_num, Lib.hid (all_step _ _ _ hlt hall.out (by simpa using ht))⟩
        case measure => simp [intOf]; omega
      · have ht' : (60 : Int) < q[k].b.size := by omega
        have hf := Lib.hid (all_fail (fun r : Req => decide ((r.b.size : Int) ≤ 60)) q k 20 hlt hlt2 (by simpa using ht))
        clear ht
        go_wp2
        go_ret
        refine ⟨?_, (Keep.refl _ _).alloc _⟩
        rw [HE.out, hf.out]; simp
    · have hf := Lib.hid (all_end _ _ k 20 hall.out hk hk2 (by omega))
      have hf2 : Hid (out = (decide ((q.length : Int) ≤ 6) && fewCert j)) := Lib.hid (by rw [HE.out, hf.out, Bool.true_and])
      have hlt5 : k < q.length → (20 : Int) ≤ k := fun h => by omega
      by_cases h6 : (q.length : Int) ≤ 6
      · have h7 : decide ((q.length : Int) ≤ 6) = true := by simpa using h6
        rw [h7, Bool.true_and] at hf2
        have hk6 : ¬ k < q.length := by omega
        go_wp2_with fail
        refine (fewCert_call j _ F _ (h.keep (((Keep.refl [] w).alloc _).at F (by simp)))).mono ?_
        rintro e w1 ⟨rfl, k1⟩
        go_wp2
        go_ret
        exact ⟨by rw [hf2.out]; rfl, ((Keep.refl _ _).alloc _).trans k1⟩
      · have h7 : decide ((q.length : Int) ≤ 6) = false := by simpa using h6
        rw [h7, Bool.false_and] at hf2
        have h8 : (6 : Int) < q.length := by omega
        clear h6
        by_cases hlt3 : k < q.length
        all_goals
          clear hlt
          try have hlt6 := hlt5 hlt3
          clear hlt5
          go_wp2
          go_ret
          exact ⟨by rw [hf2.out]; rfl, (Keep.refl _ _).alloc _⟩
def rightBlock (x : Bk) : Bool := decide (1 ≤ x.v) && decide (x.v ≤ 1000000) && decide (0 ≤ x.p) && decide (x.p ≤ 6) && rightCert x.j && decide (x.j.v < x.v) && decide (x.q.length ≤ 3) && x.q.all rightReq
theorem rightBlock_iff (x : Bk) : rightBlock x = true ↔ 1 ≤ x.v ∧ x.v ≤ 1000000 ∧ 0 ≤ x.p ∧ x.p ≤ 6 ∧ rightCert x.j = true ∧ x.j.v < x.v ∧ x.q.length ≤ 3 ∧ x.q.all rightReq = true := by
  unfold rightBlock; simp only [Bool.and_eq_true, decide_eq_true_eq, and_assoc]
set_option maxHeartbeats 2000000 in
theorem rightBlock_call (x : Bk) (v u : Value) (F : Nat → Prop) (w : World) (h : SliceOf Rep.sg w F v x.j.sg) (h2 : SliceOf Rep.req w F u x.q) :
    Calls Try.prog 47 #[.agg #[.int .i64 x.v, .int .i64 x.p, .int .i64 x.j.v, .string x.j.h, v, u]] w fun e w' => e = .returned (.bool (rightBlock x)) ∧ Keep [] w w' := by
  have hi := rightBlock_iff x
  have HF : ¬ (1 ≤ x.v ∧ x.v ≤ 1000000 ∧ 0 ≤ x.p ∧ x.p ≤ 6 ∧ rightCert x.j = true ∧ x.j.v < x.v ∧ x.q.length ≤ 3 ∧ x.q.all rightReq = true) → Hid (rightBlock x = false) := fun hn => Lib.hid (by
    rw [Bool.eq_false_iff]; exact fun ht => hn (hi.1 ht))
  have HT : (1 ≤ x.v ∧ x.v ≤ 1000000 ∧ 0 ≤ x.p ∧ x.p ≤ 6 ∧ rightCert x.j = true ∧ x.j.v < x.v ∧ x.q.length ≤ 3 ∧ x.q.all rightReq = true) → Hid (rightBlock x = true) := fun ht => Lib.hid (hi.2 ht)
  clear hi
  generalize rightBlock x = out at *
  obtain ⟨vw, pr, j, q⟩ := x
  dsimp only at h h2 HF HT ⊢
  obtain ⟨A, c, rfl, hl⟩ := h.form
  obtain ⟨B, d, rfl, hd⟩ := h2.form
  by_cases a1 : vw < 1 ∨ 1000000 < vw ∨ pr < 0 ∨ 6 < pr
  · have HE := HF (fun hh => by obtain ⟨_, _, _, _, _⟩ := hh; omega)
    clear HF HT
    by_cases x1 : vw < 1
    · go_enter Try.func47, Try.ntmps47
      go_wp2
      go_ret
      exact ⟨by rw [HE.out]; rfl, (Keep.refl _ _).alloc _⟩
    · by_cases x2 : 1000000 < vw
      · go_enter Try.func47, Try.ntmps47
        go_wp2
        go_ret
        exact ⟨by rw [HE.out]; rfl, (Keep.refl _ _).alloc _⟩
      · by_cases x3 : pr < 0
        · go_enter Try.func47, Try.ntmps47
          go_wp2
          go_ret
          exact ⟨by rw [HE.out]; rfl, (Keep.refl _ _).alloc _⟩
        · have x4 : 6 < pr := by omega
          go_enter Try.func47, Try.ntmps47
          go_wp2
          go_ret
          exact ⟨by rw [HE.out]; rfl, (Keep.refl _ _).alloc _⟩
  · have x1 : 1 ≤ vw := by omega
    have x2 : vw ≤ 1000000 := by omega
    have x3 : 0 ≤ pr := by omega
    have x4 : pr ≤ 6 := by omega
    clear a1
    go_enter Try.func47, Try.ntmps47
    go_wp2_with fail
    refine (rightCert_call j _ F _ (h.keep (((Keep.refl [] w).alloc _).at F (by simp)))).mono ?_
    rintro e w1 ⟨rfl, k1⟩
    have b1 := (Blk.new w #[.int .i64 vw, .int .i64 pr, .int .i64 j.v, .string j.h, .slice A j.sg.length c, .slice B q.length d] 29).keep k1 (by simp)
    have c0 := b1.cell 0
    have c2 := b1.cell 2
    have c5 := b1.cell 5
    simp only [List.getElem?_toArray, List.getElem?_cons_zero, List.getElem?_cons_succ] at c0 c2 c5
    have kk := ((Keep.refl [] w).alloc (.cells #[.int .i64 vw, .int .i64 pr, .int .i64 j.v, .string j.h, .slice A j.sg.length c, .slice B q.length d] 29)).trans k1
    cases hr : rightCert j
    · have HE := HF (fun hh => by have := hh.2.2.2.2.1; rw [hr] at this; cases this)
      clear HF HT hr
      go_wp2
      go_ret
      exact ⟨by rw [HE.out]; rfl, kk⟩
    · by_cases x5 : j.v < vw
      · by_cases x6 : q.length ≤ 3
        · have HE : Hid (out = q.all rightReq) := Lib.hid (by
            cases hq : q.all rightReq
            · exact (HF (fun hh => by have := hh.2.2.2.2.2.2.2; rw [hq] at this; cases this)).out
            · exact (HT ⟨x1, x2, x3, x4, hr, x5, x6, hq⟩).out)
          have x7 : (q.length : Int) ≤ 3 := by omega
          clear HF HT hr
          go_wp2
          go_loopw [3] (fun i wr => ∃ k : Nat, k ≤ q.length ∧ i = .int .i64 k ∧ Hid ((q.take k).all rightReq = true) ∧ Keep [] w1 wr) (fun i _ => q.length - (intOf i).toNat)
          case atStart => exact ⟨0, Nat.zero_le _, rfl, Lib.hid rfl, Keep.refl _ _⟩
          case round =>
            obtain ⟨k, hk, rfl, hall, kr⟩ := hrel
            have kw : Keep [] w wr := kk.trans kr
            have h' := h2.keep (kw.at F (by simp))
            have d5 := (b1.keep kr (by simp)).cell 5
            simp only [List.getElem?_toArray, List.getElem?_cons_zero, List.getElem?_cons_succ] at d5
            by_cases hlt : k < q.length
            · obtain ⟨g, o, rfl, hc0, hc1, hc2, hi1, hi2, hb⟩ := h'.req_at hlt
              go_wp2_with fail
              refine (rightReq_call q[k] _).mono ?_
              rintro e w2 ⟨rfl, k2⟩
              cases hb : rightReq q[k]
              · have hf := Lib.hid (all_fail rightReq q k q.length hlt hlt hb)
                go_wp2
                go_ret
                refine ⟨?_, kw.trans k2⟩
                have e1 := hf.out
                rw [List.take_length] at e1
                rw [HE.out, e1]; rfl
              · have hs := Lib.hid (all_step rightReq _ _ hlt hall.out hb)
                go_wp2
                go_roundw
                case rel => exact ⟨k + 1, by omega, by go_num, hs, kr.trans k2⟩
                case measure => simp [intOf]; omega
            · have hk' : k = q.length := by omega
              subst hk'
              go_wp2
              go_ret
              refine ⟨?_, kw⟩
              have e1 := hall.out
              rw [List.take_length] at e1
              rw [HE.out, e1]; rfl
        · have HE := HF (fun hh => by have := hh.2.2.2.2.2.2.1; omega)
          have x7 : (3 : Int) < q.length := by omega
          clear HF HT hr x6
          go_wp2
          go_ret
          exact ⟨by rw [HE.out]; rfl, kk⟩
      · have HE := HF (fun hh => by have := hh.2.2.2.2.2.1; omega)
        clear HF HT hr
        go_wp2
        go_ret
        exact ⟨by rw [HE.out]; rfl, kk⟩
end Go.Proofs.Ytdhhibppcckbkaa
