import Derived.Test.YtaiemagmkfjklaaPool7
namespace Go.Proofs.Ytaiemagmkfjklaa
open Go.RowKit Go.Shelf
set_option linter.unusedVariables false
set_option linter.unusedSimpArgs false
/-! pools: Add -/
def addE (ws dn : List Req) (r : Req) : Int :=
  if rightReq r = false then 1 else if hasR dn r.c r.s = true then 9 else if hasR ws r.c r.s = true then 6 else if 12 ≤ ws.length then 7 else 0
def addW (ws dn : List Req) (r : Req) : List Req := if addE ws dn r = 0 then ws ++ [r] else ws
set_option maxHeartbeats 2000000 in
theorem add_call (w : World) (F : Nat → Prop) (p n : Nat) (ws dn : List Req) (r : Req) (hr : ReqOk r) (hp : PoolAt w F p n ws dn) (hw : ws.length ≤ 1000000) :
    Calls Try.prog 12 #[.pointer (some ⟨p, 0, none⟩), .agg #[.int .i64 r.c, .int .i64 r.s, .string r.b]] w fun e w' =>
      e = .returned (.int .i64 (addE ws dn r)) ∧ PoolAt w' (fun k => F k ∨ w.heap.size ≤ k) p n (addW ws dn r) dn ∧ Turn F w w' := by
  have hsame : ∀ w', Keep [] w w' → PoolAt w' (fun k => F k ∨ w.heap.size ≤ k) p n ws dn ∧ Turn F w w' := fun w' k =>
    ⟨(hp.turn (k.turn (F := fun _ => False) (by simp)) (by simp)).mono (fun i _ h => .inl h) (Nat.le_refl _), k.turn (by simp)⟩
  obtain ⟨c, s, b⟩ := r
  have HR := Lib.hid hr
  obtain ⟨r1, r2, r3⟩ := hr
  dsimp only at r1 r2 r3
  have k0 : Keep [] w (w.alloc (.cells #[.int .i64 c, .int .i64 s, .string b] 24)) := (Keep.refl _ _).alloc _
  have b0 := Blk.new w #[.int .i64 c, .int .i64 s, .string b] 24
  have hcall := fun w' => right_call ⟨c, s, b⟩ w'
  have HS := Lib.hid hsame
  clear hsame
  have HP := Lib.hid hp
  obtain ⟨V, mb, hb, ho, hm, f1, f2, f3, f4⟩ := hp
  have HB := Lib.hid hb
  have HO := Lib.hid ho
  have HM := Lib.hid hm
  have plt := hb.lt
  clear hb ho hm
  have HE : Hid (addE ws dn ⟨c, s, b⟩ = if rightReq ⟨c, s, b⟩ = false then 1 else if hasR dn c s = true then 9 else if hasR ws c s = true then 6 else if 12 ≤ ws.length then 7 else 0) := Lib.hid rfl
  have HW : Hid (addW ws dn ⟨c, s, b⟩ = if addE ws dn ⟨c, s, b⟩ = 0 then ws ++ [⟨c, s, b⟩] else ws) := Lib.hid rfl
  generalize addE ws dn ⟨c, s, b⟩ = out at *
  generalize addW ws dn ⟨c, s, b⟩ = ws' at *
  dsimp only at *
  cases hright : rightReq ⟨c, s, b⟩ with
  | false =>
    rw [hright] at hcall
    have he : out = 1 := by rw [HE.out, hright]; rfl
    have hw' : ws' = ws := by rw [HW.out, he]; rfl
    subst he hw'
    go_enter Try.func12, Try.ntmps12
    go_wp2_with (go_at_call 24; refine (hcall _).mono ?_; rintro e w1 ⟨rfl, k1⟩)
    go_ret
    exact ⟨rfl, HS.out _ (k0.trans k1)⟩
  | true =>
    rw [hright] at hcall
    have he1 : out = if hasR dn c s = true then 9 else if hasR ws c s = true then 6 else if 12 ≤ ws.length then 7 else 0 := by rw [HE.out, hright]; rfl
    clear HE
    have HE := Lib.hid he1
    clear he1
    have hlk : ∃ z : Int, (if hasR dn c s then 1 else 0) = z ∧ decide (0 < z) = hasR dn c s := by cases hasR dn c s <;> simp
    obtain ⟨z, hz, hz2⟩ := hlk
    have hz := Lib.hid hz
    have hz2 := Lib.hid hz2
    go_enter Try.func12, Try.ntmps12
    go_wp2_with (go_at_call 24; refine (hcall _).mono ?_; rintro e w1 ⟨rfl, k1⟩)
    have k01 := k0.trans k1
    have b1 := b0.keep k1 (by simp)
    have p1 := (HB.out.keep k01 (by simp)).two
    have m1 := HM.out.keep k01 (by simp)
    refine wp_region_class (C := fun w' => Keep [] w1 w' ∧ MapAt w' mb n dn ∧ w'.cell? ⟨w.heap.size, 0, none⟩ = some (.int .i64 c) ∧ w'.cell? ⟨w.heap.size, 1, none⟩ = some (.int .i64 s) ∧ w'.cell? ⟨w.heap.size, 2, none⟩ = some (.string b) ∧ w'.cell? ⟨p, 0, none⟩ = some V ∧ w'.cell? ⟨p, 1, none⟩ = some (.map (some mb))) (by kernel_rfl) (by kernel_rfl) ⟨(Keep.refl _ _).drew, m1, b1.three.1, b1.three.2.1, b1.three.2.2, p1.1, p1.2⟩ ?_
    iterate 6 (first
      | go_big_quiet_skip
      | (go_big_quiet_want; first
        | (go_big_quiet_op; go_big_quiet_on)
        | (refine quiet_run (v := ?_) ?_ ?_; (rotate_left; (intro w' hC; (try dsimp only at hC); go_split_ands; go_simp; with_reducible rfl); simp only [Act.put, List.setIfInBounds_toArray, List.set_cons_zero, List.set_cons_succ]; go_big_quiet_on))
        | (refine quiet_call (v := ?_) (f := ?_) (args := ?_) ?_ ?_ ?_; (rotate_left; rotate_left; rotate_left; (intro w' hC; (try dsimp only at hC); go_split_ands; go_simp; (refine ⟨?_, ?_⟩ <;> with_reducible rfl)); (intro w' hC; first | (go_at_call 21; refine (keyOf_call ⟨c, s, b⟩ _).mono ?_; rintro e w8 ⟨rfl, kq⟩; refine ⟨?_, Keep.trans hC.1 kq, hC.2.1.keep kq (by simp), kq.cell (by simp) hC.2.2.1, kq.cell (by simp) hC.2.2.2.1, kq.cell (by simp) hC.2.2.2.2.1, kq.cell (by simp) hC.2.2.2.2.2.1, kq.cell (by simp) hC.2.2.2.2.2.2⟩; with_reducible rfl)); simp only [Act.put, List.setIfInBounds_toArray, List.set_cons_zero, List.set_cons_succ]; go_big_quiet_on))))
    go_big_quiet_want
    refine quiet_run (v := .int .i64 z) ?_ ?_
    · intro w' hC
      have hlook := hC.2.1.look r1 r2
      rw [hz.out] at hlook
      simp [execOp, Act.eval, Act.put, hlook]
    simp only [Act.put, List.setIfInBounds_toArray, List.set_cons_zero, List.set_cons_succ]
    go_big_quiet_on
    iterate 2 (first
      | go_big_quiet_skip
      | (go_big_quiet_want; first
        | (go_big_quiet_op; go_big_quiet_on)
        | (refine quiet_run (v := ?_) ?_ ?_; (rotate_left; (intro w' hC; (try dsimp only at hC); go_split_ands; go_simp; with_reducible rfl); simp only [Act.put, List.setIfInBounds_toArray, List.set_cons_zero, List.set_cons_succ]; go_big_quiet_on))
        | (refine quiet_call (v := ?_) (f := ?_) (args := ?_) ?_ ?_ ?_; (rotate_left; rotate_left; rotate_left; (intro w' hC; (try dsimp only at hC); go_split_ands; go_simp; (refine ⟨?_, ?_⟩ <;> with_reducible rfl)); (intro w' hC; fail); simp only [Act.put, List.setIfInBounds_toArray, List.set_cons_zero, List.set_cons_succ]; go_big_quiet_on))))
    refine wpQuiet_nil ?_
    intro w2 hC2
    have k12 := hC2.1
    have k02 := k01.trans k12
    have d0 := hC2.2.2.1
    have d1 := hC2.2.2.2.1
    clear hC2
    cases hdone : hasR dn c s with
    | true =>
      rw [hdone] at hz2
      have hz3 := hz2.out
      have he : out = 9 := by rw [HE.out, hdone]; rfl
      have hw' : ws' = ws := by rw [HW.out, he]; rfl
      subst he hw'
      go_wp2
      go_ret
      exact ⟨rfl, HS.out _ k02⟩
    | false =>
      rw [hdone] at hz2
      have hz3 := hz2.out
      have he1 : out = if hasR ws c s = true then 6 else if 12 ≤ ws.length then 7 else 0 := by rw [HE.out, hdone]; rfl
      clear HE
      have HE := Lib.hid he1
      clear he1
      have hhas := has_call w2 _ p n ws dn c s (HS.out _ k02).1 hw
      cases hwait : hasR ws c s with
      | true =>
        rw [hwait] at hhas
        have he : out = 6 := by rw [HE.out, hwait]; rfl
        have hw' : ws' = ws := by rw [HW.out, he]; rfl
        subst he hw'
        go_wp2_with (go_at_call 13; refine hhas.mono ?_; rintro e w3 ⟨rfl, k3⟩)
        go_ret
        exact ⟨rfl, HS.out _ (k02.trans k3)⟩
      | false =>
        rw [hwait] at hhas
        have he1 : out = if 12 ≤ ws.length then 7 else 0 := by rw [HE.out, hwait]; rfl
        clear HE
        obtain ⟨A, cap, rfl, hl'⟩ := HO.out.form
        have mv : ∀ w3, Keep [] w2 w3 → w3.cell? ⟨p, 0, none⟩ = some (.slice A ws.length cap) := fun w3 k3 => ((HB.out.keep k02 (by simp)).keep k3 (by simp)).two.1
        have mv := Lib.hid mv
        by_cases hfull : 12 ≤ ws.length
        · have he : out = 7 := by rw [he1, if_pos hfull]
          have hw' : ws' = ws := by rw [HW.out, he]; rfl
          subst he hw'
          clear he1
          have hfz : (12 : Int) ≤ (ws'.length : Int) := by omega
          go_wp2_with (go_at_call 13; refine hhas.mono ?_; rintro e w3 ⟨rfl, k3⟩; have q0 := mv.out w3 k3)
          go_ret
          exact ⟨rfl, HS.out _ (k02.trans k3)⟩
        · have he : out = 0 := by rw [he1, if_neg hfull]
          have hw' : ws' = ws ++ [⟨c, s, b⟩] := by rw [HW.out, he]; rfl
          subst he hw'
          clear he1
          have hfz : ¬ (12 : Int) ≤ (ws.length : Int) := by omega
          go_wp2_with (go_at_call 13; refine hhas.mono ?_; rintro e w3 ⟨rfl, k3⟩; have q0 := mv.out w3 k3)
          have k03 := k02.trans k3
          have hb3 := HB.out.keep k03 (by simp)
          have c3 := hb3.two
          have g3 := hb3.frozen 0
          have b3 := ((b1.keep k12 (by simp)).keep k3 (by simp)).three
          have ho3 : Own Rep.req 24 w3 0 (.slice A ws.length cap) ws := own_same HO.out fun j hj => k03.block j (HO.out.lt j hj).2 (by simp)
          have hpn : ∀ i, (Value.slice A ws.length cap).ownBlock = some i → p ≠ i := fun i hi e => (f4 i hi).2.1 e.symm
          have c3a : ∀ o, (w3.alloc o).cell? ⟨p, 0, none⟩ = some (.slice A ws.length cap) := fun o => ((hb3.alloc o).cell 0).trans rfl
          go_region_law (rw [show (w3.alloc (.cells #[.int .i64 c, .int .i64 s, .string b] 24)).drew = w3.drew.alloc (.cells #[.int .i64 c, .int .i64 s, .string b] 24) from rfl]; refine step_app Rep.req rfl (.tmp 36) (.tmp 38) 31 24 _ 32 0 rfl Try.underlying31 infoReq rfl (by decide) (by decide) _ (.slice A ws.length cap) ws ⟨c, s, b⟩ #[.int .i64 c, .int .i64 s, .string b] (by simp [Act.eval, Act.put]) (by simp [Act.eval, Act.put]) (own_same ho3 (fun _ _ => rfl)) ⟨rfl, r1, r2, r3⟩ (by simp [Value.oneCell']) (by omega) (Nat.zero_le _) ?_; intro g cap' w4 ho4 hg4 hat4 hlt4 hlo4; have hb4 : Blk w4 p _ _ := (hg4.block p hb3.lt (fun he => hpn p he.symm rfl)).trans hb3; have c4 := hb4.two; have q4 := hb4.frozen 0)
          all_goals
            go_wp2
            go_ret
            have hg4 : w3.grownBy w4 (Value.slice A ws.length cap).ownBlock := ⟨hg4.os, hg4.tape, hg4.output, hg4.size, hg4.block⟩
            have hat5 : (F g ∧ g ≠ p ∧ g ≠ mb) ∨ w3.heap.size < g := hat4.imp (fun h => f4 g h) (fun h => h)
            have m3 := HM.out.keep k03 (by simp)
            have m4 := m3.same (hg4.block mb m3.lt (fun he => (f4 mb he.symm).2.2 rfl))
            have z3 := k03.size
            have l3 := m3.lt
            have l4 := hb3.lt
            have gp : g ≠ p := by rcases hat5 with h | h; exact h.2.1; omega
            have gm : g ≠ mb := by rcases hat5 with h | h; exact h.2.2; omega
            refine ⟨rfl, ⟨_, mb, by simpa using hb4.set 0 (.slice (some ⟨g, 0, none⟩) (ws.length + 1) cap'), own_same ho4 (fun j hj => Below.heap_setCell _ _ _ _ (by simp [Value.ownBlock] at hj; rw [← hj]; exact gp)), m4.same (Below.heap_setCell _ _ _ _ (fun e => f3 e.symm)), .inl f1, .inl f2, f3, fun k hk => ?_⟩, ?_⟩
            · simp [Value.ownBlock] at hk
              rw [← hk]
              exact ⟨hat5.imp (fun h => h.1) (fun h => by omega), gp, gm⟩
            · exact ((k03.turn (F := F) (by simp)).grown hg4 (fun i hi => .inl (f4 i hi).1)).trans ((Keep.setCell (S := [p]) (Keep.refl _ _) _ _ (by simp)).turn (fun i hi => .inl (by simp at hi; rw [hi]; exact f1)))
end Go.Proofs.Ytaiemagmkfjklaa
