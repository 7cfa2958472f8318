import Derived.Test.YtaiemagmkfjklaaPool9
namespace Go.Proofs.Ytaiemagmkfjklaa
open Go.RowKit Go.Shelf
set_option linter.unusedVariables false
set_option linter.unusedSimpArgs false
/-! the reference's But, Same -/
def butR (but l : List Req) : List Req := l.filter fun r => !hasR but r.c r.s
theorem butR_take (but l : List Req) (k : Nat) (hk : k < l.length) : butR but (l.take (k + 1)) = butR but (l.take k) ++ (if hasR but l[k].c l[k].s = true then [] else [l[k]]) := by
  rw [List.take_succ_eq_append_getElem hk]
  unfold butR
  rw [List.filter_append]
  congr 1
  cases h : hasR but l[k].c l[k].s <;> simp [h]
theorem butR_le (but l : List Req) : (butR but l).length ≤ l.length := List.length_filter_le _ _
set_option maxHeartbeats 2000000 in
theorem refBut_call (A : Option Addr) (l : List Req) (cp : Nat) (F : Nat → Prop) (B : Option Addr) (but : List Req) (cq : Nat) (G : Nat → Prop) (w : World) (hs : SliceOf Rep.req w F (.slice A l.length cp) l) (hb : SliceOf Rep.req w G (.slice B but.length cq) but)
    (hl : l.length ≤ 1000000) :
    Calls Try.prog 19 #[.slice A l.length cp, .slice B but.length cq] w fun e w' => ∃ C m c', e = .returned (.slice C m c') ∧ Own Rep.req 24 w' 0 (.slice C m c') (butR but l) ∧ Keep [] w w' ∧ ∀ k, (Value.slice C m c').ownBlock = some k → w.heap.size ≤ k := by
  obtain ⟨_, _, e0, hlb⟩ := hb.form
  clear e0
  have HS := Lib.hid hs
  have HB := Lib.hid hb
  clear hs hb
  go_enter Try.func19, Try.ntmps19
  go_wp2
  go_loopw [5, 6] (fun v i wr => ∃ k : Nat, k ≤ l.length ∧ i = .int .i64 k ∧ Keep [] w wr ∧ Own Rep.req 24 wr 0 v (butR but (l.take k)) ∧ ∀ j, v.ownBlock = some j → w.heap.size ≤ j) (fun _ i _ => l.length - (intOf i).toNat)
  case atStart => exact ⟨0, Nat.zero_le _, rfl, Keep.refl _ _, Own.nil _ _ _ _, by simp [Value.ownBlock]⟩
  case round =>
    obtain ⟨k, hk, rfl, kk, ho, hn⟩ := hrel
    obtain ⟨C, c', rfl, hlo⟩ := ho.form
    by_cases hlt : k < l.length
    · have hltz : (k : Int) < (l.length : Int) := by omega
      obtain ⟨g, o, rfl, c0, c1, c2, i1, i2, i3⟩ := (HS.out.keep (fun i hF hi => kk.block i hi (by simp))).req_at hlt
      have ht := Lib.hid (butR_take but l k hlt)
      have hle := butR_le but (l.take k)
      rw [List.length_take] at hle
      generalize l[k] = x at *
      obtain ⟨xc, xs, xb⟩ := x
      dsimp only at *
      have hcall := refHas_call B but cq G ⟨xc, xs, xb⟩ wr (HB.out.keep (fun i hF hi => kk.block i hi (by simp)))
      dsimp only at hcall
      cases hh : hasR but xc xs with
      | true =>
        rw [hh] at hcall ht
        go_wp2_with (go_at_call 16; refine hcall.mono ?_; rintro e w3 ⟨rfl, k3⟩)
        go_roundw
        case rel => exact ⟨k + 1, by omega, by go_num, kk.trans k3, by rw [ht.out]; simpa using own_same ho (fun j hj => k3.block j (ho.lt j hj).2 (by simp)), hn⟩
        case measure => simp [intOf]; omega
      | false =>
        rw [hh] at hcall ht
        have mv : ∀ w3, Keep [] wr w3 → w3.cell? ⟨g, o + k * 3, none⟩ = some (.int .i64 xc) ∧ w3.cell? ⟨g, o + k * 3 + 1, none⟩ = some (.int .i64 xs) ∧ w3.cell? ⟨g, o + k * 3 + 2, none⟩ = some (.string xb) ∧ Own Rep.req 24 w3 0 (.slice C (butR but (l.take k)).length c') (butR but (l.take k)) := fun w3 k3 =>
          ⟨k3.cell (by simp) c0, k3.cell (by simp) c1, k3.cell (by simp) c2, own_same ho (fun j hj => k3.block j (ho.lt j hj).2 (by simp))⟩
        have mv := Lib.hid mv
        go_wp2_with (first | (go_at_call 16; refine hcall.mono ?_; rintro e w3 ⟨rfl, k3⟩; obtain ⟨d0, d1, d2, ho3⟩ := mv.out w3 k3) | (at_builtin; refine wpList_app Rep.req rfl (.tmp 20) (.tmp 25) 31 24 _ 32 0 rfl Try.underlying31 infoReq rfl (by decide) (by decide) _ (.slice C (butR but (l.take k)).length c') (butR but (l.take k)) ⟨xc, xs, xb⟩ #[.int .i64 xc, .int .i64 xs, .string xb] (by simp [Act.eval, Act.put]) (by simp [Act.eval, Act.put]) ho3 ⟨rfl, i1, i2, i3⟩ (by simp [Value.oneCell']) (by omega) (Nat.zero_le _) ?_; intro g' cap' w4 ho4 hg4 hat4 hlt4 hlo4) | go_in)
        go_roundw
        case rel =>
          have z3 := k3.size
          have zz := kk.size
          refine ⟨k + 1, by omega, by go_num, (kk.trans k3).grown hg4 (fun i hi => .inr (hn i hi)), by rw [ht.out]; simpa using ho4, fun j hj => ?_⟩
          simp [Value.ownBlock] at hj
          subst hj
          rcases hat4 with h | h
          · exact hn _ h
          · omega
        case measure => simp [intOf]; omega
    · have hltz : ¬ (k : Int) < (l.length : Int) := by omega
      obtain rfl : k = l.length := by omega
      rw [List.take_length] at ho hn
      have HO := Lib.hid ho
      clear ho
      go_wp2
      go_ret
      exact ⟨C, _, c', rfl, HO.out, kk, hn⟩
theorem eqReq_ne (x : Req) (w : World) : (binOp .neq 24 (.agg #[.int .i64 x.c, .int .i64 x.s, .string x.b]) (.agg #[.int .i64 x.c, .int .i64 x.s, .string x.b])).run Try.prog w = .ok (.bool false) w := by
  go_simp
set_option maxHeartbeats 2000000 in
theorem same_call (A B : Option Addr) (xs : List Req) (c d : Nat) (F G : Nat → Prop) (w : World) (ha : SliceOf Rep.req w F (.slice A xs.length c) xs) (hb : SliceOf Rep.req w G (.slice B xs.length d) xs) :
    Calls Try.prog 17 #[.slice A xs.length c, .slice B xs.length d] w fun e w' => e = .returned (.bool true) ∧ Keep [] w w' := by
  obtain ⟨_, _, e0, hl⟩ := ha.form
  clear e0
  have HA := Lib.hid ha
  have HB := Lib.hid hb
  clear ha hb
  go_enter Try.func17, Try.ntmps17
  go_wp2
  go_loopw [5] (fun i wr => ∃ m : Nat, m ≤ xs.length ∧ i = .int .i64 m ∧ Keep [] w wr) (fun i _ => xs.length - (intOf i).toNat)
  case atStart => exact ⟨0, Nat.zero_le _, rfl, Keep.refl _ _⟩
  case round =>
    obtain ⟨m, hm, rfl, kk⟩ := hrel
    by_cases hlt : m < xs.length
    · have hltz : (m : Int) < (xs.length : Int) := by omega
      obtain ⟨g, o, rfl, c0, c1, c2, -, -, -⟩ := (HA.out.keep (fun i hF hi => kk.block i hi (by simp))).req_at hlt
      obtain ⟨g', o', rfl, d0, d1, d2, -, -, -⟩ := (HB.out.keep (fun i hF hi => kk.block i hi (by simp))).req_at hlt
      generalize xs[m] = x at *
      obtain ⟨xc, xs', xb⟩ := x
      dsimp only at *
      go_wp2_with fail
      refine wp_region_class (C := fun w' => Keep [] wr w' ∧ w'.cell? ⟨g, o + m * 3, none⟩ = some (.int .i64 xc) ∧ w'.cell? ⟨g, o + m * 3 + 1, none⟩ = some (.int .i64 xs') ∧ w'.cell? ⟨g, o + m * 3 + 2, none⟩ = some (.string xb) ∧ w'.cell? ⟨g', o' + m * 3, none⟩ = some (.int .i64 xc) ∧ w'.cell? ⟨g', o' + m * 3 + 1, none⟩ = some (.int .i64 xs') ∧ w'.cell? ⟨g', o' + m * 3 + 2, none⟩ = some (.string xb)) (by kernel_rfl) (by kernel_rfl) ⟨(Keep.refl _ _).drew, c0, c1, c2, d0, d1, d2⟩ ?_
      iterate 9 (first
        | go_big_quiet_skip
        | (go_big_quiet_want; first
          | (go_big_quiet_op; go_big_quiet_on)
          | (refine quiet_run (v := ?_) ?_ ?_; (rotate_left; (intro w' hC; (try dsimp only at hC); go_split_ands; go_simp; with_reducible rfl); simp only [Act.put, List.setIfInBounds_toArray, List.set_cons_zero, List.set_cons_succ]; go_big_quiet_on))
          | (refine quiet_call (v := ?_) (f := ?_) (args := ?_) ?_ ?_ ?_; (rotate_left; rotate_left; rotate_left; (intro w' hC; (try dsimp only at hC); go_split_ands; go_simp; (refine ⟨?_, ?_⟩ <;> with_reducible rfl)); (intro w' hC; fail); simp only [Act.put, List.setIfInBounds_toArray, List.set_cons_zero, List.set_cons_succ]; go_big_quiet_on))))
      refine wpQuiet_nil ?_
      intro w2 hC2
      have kk2 := hC2.1
      clear hC2
      go_wp2
      go_roundw
      case rel => exact ⟨m + 1, by omega, by go_num, kk.trans kk2⟩
      case measure => simp [intOf]; omega
    · have hltz : ¬ (m : Int) < (xs.length : Int) := by omega
      obtain rfl : m = xs.length := by omega
      go_wp2
      go_ret
      exact ⟨rfl, kk⟩
end Go.Proofs.Ytaiemagmkfjklaa
